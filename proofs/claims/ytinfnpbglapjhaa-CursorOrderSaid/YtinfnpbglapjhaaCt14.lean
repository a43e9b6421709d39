/- What the functions of this chapter give: their contracts over the machine. -/
import Derived.Test.YtinfnpbglapjhaaAm3
import Derived.Test.YtinfnpbglapjhaaC14
/- Ranges as plain lists. -/
namespace Go.Proofs.Ytinfnpbglapjhaa.AM
set_option linter.unusedVariables false
set_option linter.unusedSimpArgs false
structure S25 where
  f0 : Int
  f1 : Int
deriving DecidableEq
def mn (a b : Int) : Int := if b < a then b else a
def mx (a b : Int) : Int := if b > a then b else a
/-- A number that one of the ranges has. -/
def InP (l : List S25) (n : Int) : Prop := ∃ x ∈ l, x.f0 ≤ n ∧ n < x.f1
/-- Ranges in a row, none empty, none that touches the next. -/
def Can : Int → List S25 → Prop
  | _, [] => True
  | b, x :: t => b < x.f0 ∧ x.f0 < x.f1 ∧ Can x.f1 t
theorem in_nil (n : Int) : ¬ InP [] n := by simp [InP]
theorem in_cons (x : S25) (t : List S25) (n : Int) : InP (x :: t) n ↔ (x.f0 ≤ n ∧ n < x.f1) ∨ InP t n := by simp [InP]
theorem in_app (s t : List S25) (n : Int) : InP (s ++ t) n ↔ InP s n ∨ InP t n := by
  simp only [InP, List.mem_append]
  constructor
  · rintro ⟨x, h | h, r⟩
    · exact .inl ⟨x, h, r⟩
    · exact .inr ⟨x, h, r⟩
  · rintro (⟨x, h, r⟩ | ⟨x, h, r⟩)
    · exact ⟨x, .inl h, r⟩
    · exact ⟨x, .inr h, r⟩
theorem can_in : ∀ {l : List S25} {b n : Int}, Can b l → InP l n → b < n
  | [], _, _, _, h => absurd h (in_nil _)
  | x :: t, b, n, hc, h => by
    obtain ⟨h1, h2, h3⟩ := hc
    rcases (in_cons x t n).1 h with h | h
    · omega
    · have := can_in h3 h; omega
theorem can_weak : ∀ {l : List S25} {b c : Int}, Can b l → c ≤ b → Can c l
  | [], _, _, _, _ => trivial
  | x :: t, b, c, h, hc => ⟨by have := h.1; omega, h.2.1, h.2.2⟩
theorem can_mem : ∀ {l : List S25} {b : Int}, Can b l → ∀ x ∈ l, b < x.f0 ∧ x.f0 < x.f1
  | [], _, _, _, h => absurd h (List.not_mem_nil)
  | y :: t, b, hc, x, h => by
    obtain ⟨h1, h2, h3⟩ := hc
    rcases List.mem_cons.1 h with rfl | h
    · exact ⟨h1, h2⟩
    · have := can_mem h3 x h; omega
/-- Two such lists that have the same numbers are the same list. -/
theorem can_eq : ∀ {l m : List S25} {b c : Int}, Can b l → Can c m → (∀ n, InP l n ↔ InP m n) → l = m
  | [], [], _, _, _, _, _ => rfl
  | [], y :: t, _, _, _, hm, h => absurd ((h y.f0).2 ((in_cons y t _).2 (.inl ⟨by omega, hm.2.1⟩))) (in_nil _)
  | x :: s, [], _, _, hl, _, h => absurd ((h x.f0).1 ((in_cons x s _).2 (.inl ⟨by omega, hl.2.1⟩))) (in_nil _)
  | x :: s, y :: t, b, c, hl, hm, h => by
    obtain ⟨a1, a2, a3⟩ := hl
    obtain ⟨b1, b2, b3⟩ := hm
    have k1 := (in_cons y t _).1 ((h x.f0).1 ((in_cons x s _).2 (.inl ⟨by omega, a2⟩)))
    have k2 := (in_cons x s _).1 ((h y.f0).2 ((in_cons y t _).2 (.inl ⟨by omega, b2⟩)))
    have e1 : y.f0 ≤ x.f0 := by
      rcases k1 with k | k
      · exact k.1
      · have := can_in b3 k; omega
    have e2 : x.f0 ≤ y.f0 := by
      rcases k2 with k | k
      · exact k.1
      · have := can_in a3 k; omega
    have e3 : ¬ x.f1 < y.f1 := fun hlt => by
      rcases (in_cons x s _).1 ((h x.f1).2 ((in_cons y t _).2 (.inl ⟨by omega, hlt⟩))) with k | k
      · omega
      · have := can_in a3 k; omega
    have e4 : ¬ y.f1 < x.f1 := fun hlt => by
      rcases (in_cons y t _).1 ((h y.f1).1 ((in_cons x s _).2 (.inl ⟨by omega, hlt⟩))) with k | k
      · omega
      · have := can_in b3 k; omega
    have ex : x = y := by
      cases x; cases y
      simp only [S25.mk.injEq]
      simp only at e1 e2 e3 e4
      omega
    subst ex
    have ht : s = t := can_eq a3 b3 fun n => by
      constructor
      · intro hs
        have := can_in a3 hs
        rcases (in_cons x t _).1 ((h n).1 ((in_cons x s _).2 (.inr hs))) with k | k
        · omega
        · exact k
      · intro hs
        have := can_in b3 hs
        rcases (in_cons x s _).1 ((h n).2 ((in_cons x t _).2 (.inr hs))) with k | k
        · omega
        · exact k
    rw [ht]
theorem can_snoc : ∀ {m : List S25} {b : Int} {z : S25}, Can b m → (∀ w ∈ m, w.f1 < z.f0) → b < z.f0 → z.f0 < z.f1 → Can b (m ++ [z])
  | [], _, _, _, _, h1, h2 => ⟨h1, h2, trivial⟩
  | x :: t, b, z, hc, hw, h1, h2 => ⟨hc.1, hc.2.1, can_snoc hc.2.2 (fun w h => hw w (List.mem_cons_of_mem _ h)) (hw x List.mem_cons_self) h2⟩
theorem can_snoc_inv : ∀ {m : List S25} {b : Int} {z : S25}, Can b (m ++ [z]) → Can b m ∧ (∀ w ∈ m, w.f1 < z.f0) ∧ b < z.f0 ∧ z.f0 < z.f1
  | [], _, _, h => ⟨trivial, fun _ h => absurd h List.not_mem_nil, h.1, h.2.1⟩
  | x :: t, b, z, h => by
    obtain ⟨h1, h2, h3⟩ := h
    obtain ⟨k1, k2, k3, k4⟩ := can_snoc_inv (m := t) h3
    refine ⟨⟨h1, h2, k1⟩, fun w hw => ?_, by omega, k4⟩
    rcases List.mem_cons.1 hw with rfl | hw
    · exact k3
    · exact k2 w hw

/-- Right ranges of 64-bit numbers. -/
def GoodR (l : List S25) : Prop := Can (-1) l ∧ ∀ n, InP l n → n < 18446744073709551615
theorem good_mem {l : List S25} (h : GoodR l) : ∀ x ∈ l, 0 ≤ x.f0 ∧ x.f0 < x.f1 ∧ x.f1 ≤ 18446744073709551615 := fun x hx => by
  have h1 := can_mem h.1 x hx
  have h2 := h.2 (x.f1 - 1) ⟨x, hx, by omega, by omega⟩
  omega
theorem good_eq {l m : List S25} (hl : GoodR l) (hm : GoodR m) (h : ∀ n, InP l n ↔ InP m n) : l = m := can_eq hl.1 hm.1 h
theorem can_lt : ∀ {l : List S25} {b : Int}, Can b l → ∀ (i : Nat) (hi : i < l.length) (j : Nat) (hj : j ≤ i), (l[j]'(by omega)).f0 ≤ l[i].f0
  | [], _, _, _, hi, _, _ => absurd hi (by simp)
  | x :: t, b, hc, 0, _, 0, _ => Int.le_refl _
  | x :: t, b, hc, i + 1, hi, 0, _ => by
    have hi' : i < t.length := by simpa using hi
    have := can_mem hc.2.2 t[i] (List.getElem_mem hi')
    have := hc.2.1
    simp only [List.getElem_cons_zero, List.getElem_cons_succ]
    omega
  | x :: t, b, hc, i + 1, hi, j + 1, hj => by
    simp only [List.getElem_cons_succ]
    exact can_lt hc.2.2 i (by simpa using hi) j (by omega)
def cutM (a : Int) : List S25 → Nat
  | [] => 0
  | x :: t => if x.f1 < a then cutM a t + 1 else 0
theorem cut_spec {a : Int} : ∀ {l : List S25} {b : Int}, Can b l → cutM a l ≤ l.length ∧ (∀ i (h : i < l.length), i < cutM a l → l[i].f1 < a) ∧ (∀ i (h : i < l.length), cutM a l ≤ i → ¬ l[i].f1 < a)
  | [], _, _ => ⟨Nat.le_refl _, fun i h => absurd h (by simp), fun i h => absurd h (by simp)⟩
  | x :: t, b, hc => by
    obtain ⟨h1, h2, h3⟩ := hc
    obtain ⟨k1, k2, k3⟩ := cut_spec (a := a) h3
    unfold cutM
    by_cases h : x.f1 < a
    · rw [if_pos h]
      refine ⟨by simp only [List.length_cons]; omega, fun i hi hc => ?_, fun i hi hc => ?_⟩
      · cases i with
        | zero => exact h
        | succ i => exact k2 i (by simp only [List.length_cons] at hi; omega) (by omega)
      · cases i with
        | zero => omega
        | succ i => exact k3 i (by simp only [List.length_cons] at hi; omega) (by omega)
    · rw [if_neg h]
      refine ⟨by omega, fun i hi hc => absurd hc (by omega), fun i hi _ => ?_⟩
      cases i with
      | zero => exact h
      | succ i =>
        have hi' : i < t.length := by simp only [List.length_cons] at hi; omega
        have := can_mem h3 t[i] (List.getElem_mem hi')
        simp only [List.getElem_cons_succ]
        omega

def mergeM : Int → Int → List S25 → List S25
  | lo, hi, [] => [⟨lo, hi⟩]
  | lo, hi, x :: t => if x.f0 ≤ hi then mergeM (mn lo x.f0) (mx hi x.f1) t else ⟨lo, hi⟩ :: x :: t
def addM (lo hi : Int) : List S25 → List S25
  | [] => [⟨lo, hi⟩]
  | x :: t => if x.f1 < lo then x :: addM lo hi t else mergeM lo hi (x :: t)
theorem add_cut (lo hi : Int) : ∀ l : List S25, l.take (cutM lo l) ++ mergeM lo hi (l.drop (cutM lo l)) = addM lo hi l
  | [] => rfl
  | x :: t => by
    unfold cutM addM
    by_cases h : x.f1 < lo
    · rw [if_pos h, if_pos h, List.take_succ_cons, List.drop_succ_cons, List.cons_append, add_cut lo hi t]
    · rw [if_neg h, if_neg h]; rfl
theorem merge_spec : ∀ (l : List S25) (b c lo hi : Int), lo < hi → Can b l → (∀ x ∈ l, lo ≤ x.f1) → c < lo → c ≤ b → Can c (mergeM lo hi l) ∧ (∀ n, InP (mergeM lo hi l) n ↔ InP l n ∨ (lo ≤ n ∧ n < hi)) ∧ (mergeM lo hi l).length ≤ l.length + 1
  | [], b, c, lo, hi, h1, _, _, h2, _ => ⟨⟨h2, h1, trivial⟩, fun n => by simp [mergeM, InP], by simp [mergeM]⟩
  | x :: t, b, c, lo, hi, h1, h2, h3, h4, h5 => by
    obtain ⟨a1, a2, a3⟩ := h2
    have hx := h3 x List.mem_cons_self
    unfold mergeM
    by_cases h : x.f0 ≤ hi
    · rw [if_pos h]
      obtain ⟨r1, r2, r3⟩ := merge_spec t x.f1 c (mn lo x.f0) (mx hi x.f1) (by unfold mn mx; (repeat' split) <;> omega) a3 (fun y hy => by
        have := can_mem a3 y hy
        unfold mn; split <;> omega) (by unfold mn; split <;> omega) (by omega)
      refine ⟨r1, fun n => ?_, by simp only [List.length_cons]; omega⟩
      rw [r2, in_cons]
      have : (mn lo x.f0 ≤ n ∧ n < mx hi x.f1) ↔ (x.f0 ≤ n ∧ n < x.f1) ∨ (lo ≤ n ∧ n < hi) := by unfold mn mx; (repeat' split) <;> omega
      rw [this]
      constructor
      · rintro (h | h | h)
        · exact .inl (.inr h)
        · exact .inl (.inl h)
        · exact .inr h
      · rintro ((h | h) | h)
        · exact .inr (.inl h)
        · exact .inl h
        · exact .inr (.inr h)
    · rw [if_neg h]
      refine ⟨⟨h4, h1, by show hi < x.f0; omega, a2, a3⟩, fun n => ?_, by simp⟩
      rw [in_cons ⟨lo, hi⟩]
      exact Or.comm
theorem addM_spec : ∀ (l : List S25) (b lo hi : Int), lo < hi → Can b l → b < lo → Can b (addM lo hi l) ∧ (∀ n, InP (addM lo hi l) n ↔ InP l n ∨ (lo ≤ n ∧ n < hi)) ∧ (addM lo hi l).length ≤ l.length + 1
  | [], b, lo, hi, h1, _, h2 => ⟨⟨h2, h1, trivial⟩, fun n => by simp [addM, InP], by simp [addM]⟩
  | x :: t, b, lo, hi, h1, h2, h3 => by
    have hc := h2
    obtain ⟨a1, a2, a3⟩ := h2
    unfold addM
    by_cases h : x.f1 < lo
    · rw [if_pos h]
      obtain ⟨r1, r2, r3⟩ := addM_spec t x.f1 lo hi h1 a3 h
      refine ⟨⟨a1, a2, r1⟩, fun n => ?_, by simp only [List.length_cons]; omega⟩
      rw [in_cons, r2, in_cons, or_assoc]
    · rw [if_neg h]
      exact merge_spec (x :: t) b b lo hi h1 hc (fun y hy => by
        rcases List.mem_cons.1 hy with rfl | hy
        · omega
        · have := can_mem a3 y hy; omega) h3 (Int.le_refl _)
def pieceM (lo hi : Int) (x : S25) : List S25 :=
  if lo ≥ hi ∨ x.f1 ≤ lo ∨ hi ≤ x.f0 then [x] else (if x.f0 < lo then [⟨x.f0, lo⟩] else []) ++ (if hi < x.f1 then [⟨hi, x.f1⟩] else [])
def remM (lo hi : Int) : List S25 → List S25
  | [] => []
  | x :: t => pieceM lo hi x ++ remM lo hi t
theorem rem_spec (lo hi : Int) : ∀ (l : List S25) (b : Int), Can b l → Can b (remM lo hi l) ∧ (∀ n, InP (remM lo hi l) n ↔ InP l n ∧ ¬ (lo ≤ n ∧ n < hi)) ∧ (remM lo hi l).length ≤ 2 * l.length
  | [], _, _ => ⟨trivial, fun n => by simp [remM, InP], by simp [remM]⟩
  | x :: t, b, h => by
    obtain ⟨h1, h2, h3⟩ := h
    obtain ⟨r1, r2, r3⟩ := rem_spec lo hi t x.f1 h3
    have hin : ∀ n, InP (remM lo hi (x :: t)) n ↔ InP (pieceM lo hi x) n ∨ (InP t n ∧ ¬ (lo ≤ n ∧ n < hi)) := fun n => by
      unfold remM; rw [in_app, r2]
    have hp : (Can b (pieceM lo hi x ++ remM lo hi t)) ∧ (∀ n, InP (pieceM lo hi x) n ↔ (x.f0 ≤ n ∧ n < x.f1) ∧ ¬ (lo ≤ n ∧ n < hi)) ∧ (pieceM lo hi x).length ≤ 2 := by
      unfold pieceM
      by_cases c1 : lo ≥ hi ∨ x.f1 ≤ lo ∨ hi ≤ x.f0
      · rw [if_pos c1]
        refine ⟨⟨h1, h2, r1⟩, fun n => ?_, by simp⟩
        rw [in_cons]
        have := in_nil n
        constructor
        · rintro (h | h)
          · exact ⟨h, by omega⟩
          · exact absurd h this
        · exact fun h => .inl h.1
      · rw [if_neg c1]
        by_cases c2 : x.f0 < lo
        · rw [if_pos c2]
          by_cases c3 : hi < x.f1
          · rw [if_pos c3]
            refine ⟨⟨h1, c2, ⟨by show lo < hi; omega, c3, r1⟩⟩, fun n => ?_, by simp⟩
            simp only [List.cons_append, List.nil_append, in_cons, in_nil, or_false]
            omega
          · rw [if_neg c3]
            refine ⟨⟨h1, c2, can_weak r1 (by show lo ≤ x.f1; omega)⟩, fun n => ?_, by simp⟩
            simp only [List.append_nil, in_cons, in_nil, or_false]
            omega
        · rw [if_neg c2]
          by_cases c3 : hi < x.f1
          · rw [if_pos c3]
            refine ⟨⟨by show b < hi; omega, c3, r1⟩, fun n => ?_, by simp⟩
            simp only [List.nil_append, in_cons, in_nil, or_false]
            omega
          · rw [if_neg c3]
            refine ⟨can_weak r1 (by omega), fun n => ?_, by simp⟩
            simp only [List.nil_append, in_nil, false_iff]
            omega
    refine ⟨hp.1, fun n => ?_, ?_⟩
    · rw [hin, hp.2.1, in_cons]
      constructor
      · rintro (h | h)
        · exact ⟨.inl h.1, h.2⟩
        · exact ⟨.inr h.1, h.2⟩
      · rintro ⟨h | h, h'⟩
        · exact .inl ⟨h, h'⟩
        · exact .inr ⟨h, h'⟩
    · have := hp.2.2
      simp only [remM, List.length_append, List.length_cons]
      omega
def inB (l : List S25) (n : Int) : Bool := l.any fun x => decide (x.f0 ≤ n ∧ n < x.f1)
theorem inB_iff (l : List S25) (n : Int) : inB l n = true ↔ InP l n := by
  simp [inB, InP]
def putM (e : Int) : List Int → List Int
  | [] => [e]
  | y :: t => if y < e then y :: putM e t else if y = e then y :: t else e :: y :: t
def Inc : Int → List Int → Prop
  | _, [] => True
  | b, y :: t => b < y ∧ Inc y t
theorem put_spec (e : Int) : ∀ (l : List Int) (b : Int), Inc b l → b < e → Inc b (putM e l) ∧ (∀ y, y ∈ putM e l ↔ y = e ∨ y ∈ l) ∧ (putM e l).length ≤ l.length + 1
  | [], b, _, h => ⟨⟨h, trivial⟩, fun y => by simp [putM], by simp [putM]⟩
  | x :: t, b, hi, h => by
    obtain ⟨h1, h2⟩ := hi
    unfold putM
    by_cases c1 : x < e
    · rw [if_pos c1]
      obtain ⟨r1, r2, r3⟩ := put_spec e t x h2 c1
      refine ⟨⟨h1, r1⟩, fun y => ?_, by simp only [List.length_cons]; omega⟩
      rw [List.mem_cons, r2, List.mem_cons]
      constructor
      · rintro (h | h | h)
        · exact .inr (.inl h)
        · exact .inl h
        · exact .inr (.inr h)
      · rintro (h | h | h)
        · exact .inr (.inl h)
        · exact .inl h
        · exact .inr (.inr h)
    · rw [if_neg c1]
      by_cases c2 : x = e
      · rw [if_pos c2]
        subst c2
        exact ⟨⟨h1, h2⟩, fun y => by simp, by simp⟩
      · rw [if_neg c2]
        exact ⟨⟨h, by omega, h2⟩, fun y => by simp, by simp⟩
def endsM : List S25 → List Int → List Int
  | [], acc => acc
  | x :: t, acc => endsM t (putM x.f1 (putM x.f0 acc))
theorem ends_spec : ∀ (l : List S25) (acc : List Int), (∀ x ∈ l, 0 ≤ x.f0 ∧ 0 ≤ x.f1) → Inc (-1) acc → Inc (-1) (endsM l acc) ∧ (∀ y, y ∈ endsM l acc ↔ y ∈ acc ∨ ∃ x ∈ l, y = x.f0 ∨ y = x.f1) ∧ (endsM l acc).length ≤ acc.length + 2 * l.length
  | [], acc, _, h => ⟨h, fun y => by simp [endsM], by simp [endsM]⟩
  | x :: t, acc, hp, h => by
    have hx := hp x List.mem_cons_self
    obtain ⟨a1, a2, a3⟩ := put_spec x.f0 acc (-1) h (by omega)
    obtain ⟨b1, b2, b3⟩ := put_spec x.f1 _ (-1) a1 (by omega)
    obtain ⟨r1, r2, r3⟩ := ends_spec t _ (fun z hz => hp z (List.mem_cons_of_mem _ hz)) b1
    refine ⟨r1, fun y => ?_, by simp only [endsM, List.length_cons]; omega⟩
    show y ∈ endsM t _ ↔ _
    rw [r2, b2, a2]
    simp only [List.mem_cons, exists_eq_or_imp]
    constructor
    · rintro ((h | h | h) | h)
      · exact .inr (.inl (.inr h))
      · exact .inr (.inl (.inl h))
      · exact .inl h
      · exact .inr (.inr h)
    · rintro (h | (h | h) | h)
      · exact .inl (.inr (.inr h))
      · exact .inl (.inr (.inl h))
      · exact .inl (.inl h)
      · exact .inr h
def pushM (acc : List S25) (a c : Int) : List S25 := match acc.getLast? with
  | some z => if z.f1 = a then acc.dropLast ++ [⟨z.f0, c⟩] else acc ++ [⟨a, c⟩]
  | none => [⟨a, c⟩]
theorem push_nil (a c : Int) : pushM [] a c = [⟨a, c⟩] := rfl
theorem push_snoc (m : List S25) (z : S25) (a c : Int) : pushM (m ++ [z]) a c = if z.f1 = a then m ++ [⟨z.f0, c⟩] else (m ++ [z]) ++ [⟨a, c⟩] := by
  unfold pushM
  simp
theorem push_spec (acc : List S25) (a c : Int) (hac : a < c) (h0 : 0 ≤ a) (hc : Can (-1) acc) (hb : ∀ z ∈ acc, z.f1 ≤ a) :
    Can (-1) (pushM acc a c) ∧ (∀ z ∈ pushM acc a c, z.f1 ≤ c) ∧ (∀ n, InP (pushM acc a c) n ↔ InP acc n ∨ (a ≤ n ∧ n < c)) ∧ (pushM acc a c).length ≤ acc.length + 1 := by
  rcases List.eq_nil_or_concat acc with rfl | ⟨m, z, rfl⟩
  · rw [push_nil]
    exact ⟨⟨by show -1 < a; omega, hac, trivial⟩, fun z hz => by rw [List.mem_singleton.1 hz]; exact Int.le_refl _, fun n => by simp [InP], by simp⟩
  · rw [List.concat_eq_append] at *
    rw [push_snoc]
    obtain ⟨k1, k2, k3, k4⟩ := can_snoc_inv hc
    have hz := hb z (by simp)
    have hm : ∀ w ∈ m, w.f1 ≤ a := fun w hw => hb w (by simp [hw])
    by_cases h : z.f1 = a
    · rw [if_pos h]
      refine ⟨can_snoc k1 k2 k3 (by show z.f0 < c; omega), fun w hw => ?_, fun n => ?_, by simp⟩
      · rcases List.mem_append.1 hw with hw | hw
        · have := hm w hw; omega
        · rw [List.mem_singleton.1 hw]; exact Int.le_refl _
      · rw [in_app, in_app, in_cons, in_cons]
        have := in_nil n
        have e : (z.f0 ≤ n ∧ n < c) ↔ (z.f0 ≤ n ∧ n < z.f1) ∨ (a ≤ n ∧ n < c) := by omega
        show InP m n ∨ (z.f0 ≤ n ∧ n < c) ∨ _ ↔ _
        rw [e]
        constructor
        · rintro (h | (h | h) | h)
          · exact .inl (.inl h)
          · exact .inl (.inr (.inl h))
          · exact .inr h
          · exact absurd h this
        · rintro ((h | h | h) | h)
          · exact .inl h
          · exact .inr (.inl (.inl h))
          · exact absurd h this
          · exact .inr (.inl (.inr h))
    · rw [if_neg h]
      refine ⟨can_snoc hc (fun w hw => ?_) (by show -1 < a; omega) hac, fun w hw => ?_, fun n => ?_, by simp⟩
      · show w.f1 < a
        rcases List.mem_append.1 hw with hw | hw
        · have := k2 w hw; omega
        · rw [List.mem_singleton.1 hw]; omega
      · rcases List.mem_append.1 hw with hw | hw
        · have := hb w hw; omega
        · rw [List.mem_singleton.1 hw]; exact Int.le_refl _
      · rw [in_app, in_cons]
        have := in_nil n
        constructor
        · rintro (h | h | h)
          · exact .inl h
          · exact .inr h
          · exact absurd h this
        · rintro (h | h)
          · exact .inl h
          · exact .inr (.inl h)
def keepB (x y : List S25) (a : Int) : Bool := inB x a && !inB y a
def setM (x y : List S25) : List S25 → List Int → List S25
  | acc, a :: c :: t => setM x y (if keepB x y a = true then pushM acc a c else acc) (c :: t)
  | acc, _ => acc
theorem seg_in {x : List S25} {e : List Int} (hx : ∀ z ∈ x, z.f0 ∈ e ∧ z.f1 ∈ e) {a c : Int} (hm : ∀ m ∈ e, m ≤ a ∨ c ≤ m) {n : Int} (h : a ≤ n ∧ n < c) : InP x n ↔ InP x a := by
  constructor
  · rintro ⟨z, hz, h1, h2⟩
    have := hm _ (hx z hz).1
    exact ⟨z, hz, by omega, by omega⟩
  · rintro ⟨z, hz, h1, h2⟩
    have := hm _ (hx z hz).2
    exact ⟨z, hz, by omega, by omega⟩
theorem inc_mem : ∀ {t : List Int} {a : Int}, Inc a t → ∀ m ∈ t, a < m
  | [], _, _, _, h => absurd h List.not_mem_nil
  | y :: t, a, hi, m, h => by
    rcases List.mem_cons.1 h with rfl | h
    · exact hi.1
    · have := inc_mem hi.2 m h
      have := hi.1
      omega
theorem set_spec {x y : List S25} {e : List Int} (hx : ∀ z ∈ x, z.f0 ∈ e ∧ z.f1 ∈ e) (hy : ∀ z ∈ y, z.f0 ∈ e ∧ z.f1 ∈ e) : ∀ (t : List Int) (a : Int) (acc : List S25), Inc a t → 0 ≤ a → (∀ m ∈ e, m ≤ a ∨ m ∈ t) → Can (-1) acc → (∀ z ∈ acc, z.f1 ≤ a) → (∀ n, InP acc n ↔ n < a ∧ InP x n ∧ ¬ InP y n) →
    Can (-1) (setM x y acc (a :: t)) ∧ (∀ n, InP (setM x y acc (a :: t)) n ↔ InP x n ∧ ¬ InP y n) ∧ (setM x y acc (a :: t)).length ≤ acc.length + t.length
  | [], a, acc, _, _, hm, hc, _, hn => by
    refine ⟨hc, fun n => ?_, by simp [setM]⟩
    show InP acc n ↔ _
    rw [hn]
    constructor
    · exact fun h => h.2
    · intro h
      obtain ⟨z, hz, h1, h2⟩ := h.1
      have := hm _ (hx z hz).2
      simp only [List.not_mem_nil, or_false] at this
      exact ⟨by omega, h⟩
  | c :: t, a, acc, hi, h0, hm, hc, hb, hn => by
    obtain ⟨hac, hi'⟩ := hi
    have hm' : ∀ m ∈ e, m ≤ a ∨ c ≤ m := fun m h => by
      rcases hm m h with h | h
      · exact .inl h
      · rcases List.mem_cons.1 h with rfl | h
        · exact .inr (Int.le_refl _)
        · have := inc_mem hi' m h; omega
    have hm2 : ∀ m ∈ e, m ≤ c ∨ m ∈ t := fun m h => by
      rcases hm m h with h | h
      · exact .inl (by omega)
      · rcases List.mem_cons.1 h with rfl | h
        · exact .inl (Int.le_refl _)
        · exact .inr h
    show Can (-1) (setM x y (if keepB x y a = true then pushM acc a c else acc) (c :: t)) ∧ (∀ n, InP (setM x y (if keepB x y a = true then pushM acc a c else acc) (c :: t)) n ↔ _) ∧ (setM x y (if keepB x y a = true then pushM acc a c else acc) (c :: t)).length ≤ _
    have hk : keepB x y a = true ↔ InP x a ∧ ¬ InP y a := by
      unfold keepB
      rw [Bool.and_eq_true, Bool.not_eq_true', inB_iff, ← inB_iff y, Bool.not_eq_true]
    by_cases h : keepB x y a = true
    · rw [if_pos h]
      obtain ⟨p1, p2, p3, p4⟩ := push_spec acc a c hac h0 hc hb
      obtain ⟨r1, r2, r3⟩ := set_spec hx hy t c (pushM acc a c) hi' (by omega) hm2 p1 p2 (fun n => by
        rw [p3, hn]
        constructor
        · rintro (⟨h1, h2⟩ | h1)
          · exact ⟨by omega, h2⟩
          · refine ⟨h1.2, ?_⟩
            rw [seg_in hx hm' h1, seg_in hy hm' h1]
            exact hk.1 h
        · rintro ⟨h1, h2⟩
          by_cases h3 : n < a
          · exact .inl ⟨h3, h2⟩
          · exact .inr ⟨by omega, h1⟩)
      exact ⟨r1, r2, by simp only [List.length_cons]; omega⟩
    · rw [if_neg h]
      obtain ⟨r1, r2, r3⟩ := set_spec hx hy t c acc hi' (by omega) hm2 hc (fun z hz => by have := hb z hz; omega) (fun n => by
        rw [hn]
        constructor
        · rintro ⟨h1, h2⟩
          exact ⟨by omega, h2⟩
        · rintro ⟨h1, h2⟩
          refine ⟨?_, h2⟩
          by_cases h3 : n < a
          · exact h3
          · rw [seg_in hx hm' ⟨by omega, h1⟩, seg_in hy hm' ⟨by omega, h1⟩] at h2
            exact absurd (hk.2 h2) h)
      exact ⟨r1, r2, by simp only [List.length_cons]; omega⟩
theorem in_cut {n : Int} : ∀ (l : List S25), inB (l.drop (cutM n l)) n = inB l n
  | [] => rfl
  | x :: t => by
    unfold cutM
    by_cases h : x.f1 < n
    · rw [if_pos h, List.drop_succ_cons, in_cut t]
      unfold inB
      rw [List.any_cons]
      have : decide (x.f0 ≤ n ∧ n < x.f1) = false := by rw [decide_eq_false_iff_not]; omega
      rw [this, Bool.false_or]
    · rw [if_neg h]; rfl
def sumM : List S25 → Int
  | [] => 0
  | x :: t => (x.f1 - x.f0) + sumM t
theorem sum_bd : ∀ (l : List S25) (b : Int), Can b l → (∀ x ∈ l, x.f1 ≤ 18446744073709551615) → 0 ≤ sumM l ∧ (l ≠ [] → sumM l ≤ 18446744073709551615 - b - 1)
  | [], _, _, _ => ⟨Int.le_refl _, fun h => absurd rfl h⟩
  | x :: t, b, h, hx => by
    obtain ⟨h1, h2, h3⟩ := h
    have hx1 := hx x List.mem_cons_self
    obtain ⟨a1, a2⟩ := sum_bd t x.f1 h3 fun y hy => hx y (List.mem_cons_of_mem _ hy)
    have e : sumM (x :: t) = (x.f1 - x.f0) + sumM t := rfl
    by_cases ht : t = []
    · subst ht
      have : sumM [] = 0 := rfl
      exact ⟨by omega, fun _ => by omega⟩
    · have := a2 ht
      exact ⟨by omega, fun _ => by omega⟩
/-- How many whole numbers below N satisfy p. -/
def card (N : Nat) (p : Nat → Bool) : Nat := (List.range N).countP p
theorem card_or (N : Nat) (p q : Nat → Bool) (h : ∀ e, ¬ (p e = true ∧ q e = true)) : card N (fun e => p e || q e) = card N p + card N q := by
  unfold card
  induction N with
  | zero => rfl
  | succ N ih =>
    simp only [List.range_succ, List.countP_append, List.countP_cons, List.countP_nil, ih]
    have := h N
    cases hp : p N <;> cases hq : q N <;> simp_all <;> omega
theorem card_range (lo hi : Nat) (p : Nat → Bool) (h : ∀ e, p e = true ↔ lo ≤ e ∧ e < hi) (N : Nat) : card N p = min hi N - min lo N := by
  unfold card
  induction N with
  | zero => simp
  | succ N ih =>
    simp only [List.range_succ, List.countP_append, List.countP_cons, List.countP_nil, ih]
    have := h N
    by_cases h1 : lo ≤ N ∧ N < hi
    · rw [if_pos (this.2 h1)]; omega
    · rw [if_neg (fun h2 => h1 (this.1 h2))]; omega
theorem card_congr (N : Nat) {p q : Nat → Bool} (h : ∀ e, p e = true ↔ q e = true) : card N p = card N q := by
  have : p = q := funext fun e => Bool.eq_iff_iff.2 (h e)
  rw [this]
theorem sum_card (N : Nat) (hN : (N : Int) = 18446744073709551615) : ∀ (l : List S25) (b : Int), -1 ≤ b → Can b l → (∀ x ∈ l, x.f1 ≤ 18446744073709551615) → sumM l = ((card N fun e => inB l e : Nat) : Int)
  | [], _, _, _, _ => by
    have : card N (fun e => inB [] e) = 0 := by
      have := card_range 0 0 (fun e => inB [] e) (fun e => by simp [inB]) N
      omega
    rw [this]; rfl
  | x :: t, b, hb, h, hx => by
    obtain ⟨h1, h2, h3⟩ := h
    have hx1 := hx x List.mem_cons_self
    have ih := sum_card N hN t x.f1 (by omega) h3 fun y hy => hx y (List.mem_cons_of_mem _ hy)
    have e : sumM (x :: t) = (x.f1 - x.f0) + sumM t := rfl
    have c1 := card_range x.f0.toNat x.f1.toNat (fun e : Nat => decide (x.f0 ≤ (e : Int) ∧ (e : Int) < x.f1)) (fun e => by simp only [decide_eq_true_eq]; omega) N
    have c2 := card_or N (fun e : Nat => decide (x.f0 ≤ (e : Int) ∧ (e : Int) < x.f1)) (fun e => inB t e) (fun e h => by
      have k1 := h.1
      simp only [decide_eq_true_eq] at k1
      have k2 := can_in h3 ((inB_iff t e).1 h.2)
      omega)
    have c3 : card N (fun e => inB (x :: t) e) = card N (fun e : Nat => decide (x.f0 ≤ (e : Int) ∧ (e : Int) < x.f1) || inB t e) := rfl
    rw [e, ih, c3, c2, c1]
    omega
/-- The counts of right ranges, where one has the numbers of another and those of an interval beside them. -/
theorem sum_add {l m : List S25} {lo hi : Int} (hl : GoodR l) (hm : GoodR m) (h0 : 0 ≤ lo) (h1 : lo ≤ hi) (h2 : hi ≤ 18446744073709551615) (h : ∀ n, InP m n ↔ InP l n ∨ (lo ≤ n ∧ n < hi)) (hd : ∀ n, InP l n → ¬ (lo ≤ n ∧ n < hi)) : sumM m = sumM l + (hi - lo) := by
  obtain ⟨N, hN⟩ : ∃ N : Nat, (N : Int) = 18446744073709551615 := ⟨(18446744073709551615 : Int).toNat, by omega⟩
  rw [sum_card N hN l (-1) (by omega) hl.1 fun y hy => (good_mem hl y hy).2.2, sum_card N hN m (-1) (by omega) hm.1 fun y hy => (good_mem hm y hy).2.2]
  have c1 := card_range lo.toNat hi.toNat (fun e : Nat => decide (lo ≤ (e : Int) ∧ (e : Int) < hi)) (fun e => by simp only [decide_eq_true_eq]; omega) N
  have c2 := card_or N (fun e => inB l e) (fun e : Nat => decide (lo ≤ (e : Int) ∧ (e : Int) < hi)) (fun e h => by
    have k1 := h.2
    simp only [decide_eq_true_eq] at k1
    exact hd _ ((inB_iff l e).1 h.1) k1)
  have c3 : card N (fun e => inB m e) = card N (fun e : Nat => inB l e || decide (lo ≤ (e : Int) ∧ (e : Int) < hi)) := card_congr N fun e => by
    rw [inB_iff, h, Bool.or_eq_true, inB_iff, decide_eq_true_eq]
  rw [c3, c2, c1]
  omega
def gapM : Int → List S25 → Int
  | g, [] => g
  | g, x :: t => if x.f0 ≤ g ∧ g < x.f1 then gapM x.f1 t else gapM g t
theorem gap_out : ∀ (t : List S25) (g : Int), ¬ InP t g → gapM g t = g
  | [], _, _ => rfl
  | x :: t, g, h => by
    have h' := fun k => h ((in_cons x t g).2 k)
    unfold gapM
    rw [if_neg (fun k => h' (.inl k)), gap_out t g fun k => h' (.inr k)]
theorem gap_spec : ∀ (l : List S25) (b n : Int), Can b l → ¬ InP l (gapM n l) ∧ n ≤ gapM n l ∧ (n < gapM n l → InP l n ∧ InP l (gapM n l - 1) ∧ ∃ x ∈ l, gapM n l = x.f1) ∧ (∀ e, n ≤ e → e < gapM n l → InP l e)
  | [], _, n, _ => ⟨in_nil _, Int.le_refl _, fun h => absurd h (by simp [gapM]), fun e h1 h2 => absurd h2 (by simp only [gapM]; omega)⟩
  | x :: t, b, n, h => by
    obtain ⟨h1, h2, h3⟩ := h
    unfold gapM
    by_cases c : x.f0 ≤ n ∧ n < x.f1
    · rw [if_pos c]
      have ho : ¬ InP t x.f1 := fun k => by have := can_in h3 k; omega
      rw [gap_out t _ ho]
      refine ⟨fun k => ?_, by omega, fun _ => ⟨(in_cons x t n).2 (.inl c), (in_cons x t _).2 (.inl (by omega)), x, List.mem_cons_self, rfl⟩, fun e a1 a2 => (in_cons x t e).2 (.inl (by omega))⟩
      rcases (in_cons x t _).1 k with k | k
      · omega
      · exact ho k
    · rw [if_neg c]
      obtain ⟨r1, r2, r3, r4⟩ := gap_spec t x.f1 n h3
      refine ⟨fun k => ?_, r2, fun k => ?_, fun e a1 a2 => (in_cons x t e).2 (.inr (r4 e a1 a2))⟩
      · rcases (in_cons x t _).1 k with k | k
        · have k' : n < gapM n t := by omega
          have := can_in h3 (r3 k').1
          omega
        · exact r1 k
      · obtain ⟨a1, a2, y, hy, a3⟩ := r3 k
        exact ⟨(in_cons x t n).2 (.inr a1), (in_cons x t _).2 (.inr a2), y, List.mem_cons_of_mem _ hy, a3⟩

end Go.Proofs.Ytinfnpbglapjhaa.AM

/- Ledgers and cursors as plain lists. -/
namespace Go.Proofs.Ytinfnpbglapjhaa.AM
set_option linter.unusedVariables false
set_option linter.unusedSimpArgs false
structure Ld where
  f0 : Int
  f1 : Bool
  f2 : Int
deriving DecidableEq
structure Hd where
  f0 : Int
  f1 : List S25
deriving DecidableEq
def RisingP (l : List Ld) : Prop := l.Pairwise fun x y => x.f0 < y.f0
def szM (x : Ld) (o : Int) : Int := if x.f1 = true then x.f2 else o
def atM (pl pe id : Int) : Int := if pl < id then 0 else if pl > id then 18446744073709551615 else pe
def cmpM (a b : Int) : Int := if a < b then -1 else if a > b then 1 else 0
def ordM (al ae bl be : Int) : Int := if cmpM al bl = 0 then cmpM ae be else cmpM al bl
def nextM (o pl pe : Int) : Int → Int → List Ld → Int × Int × Bool
  | el, ee, [] => (el, ee, false)
  | _, _, x :: l => if atM pl pe x.f0 < szM x o then (x.f0, atM pl pe x.f0, true) else nextM o pl pe x.f0 (szM x o) l
def con (o al ae bl be : Int) (x : Ld) : Int :=
  if mn (atM bl be x.f0) (szM x o) > mn (atM al ae x.f0) (szM x o) then mn (atM bl be x.f0) (szM x o) - mn (atM al ae x.f0) (szM x o) else 0
def sumB (o al ae bl be : Int) : List Ld → Int
  | [] => 0
  | x :: l => con o al ae bl be x + sumB o al ae bl be l
theorem atM_bd {pl pe id : Int} (h : 0 ≤ pe) : 0 ≤ atM pl pe id := by
  unfold atM; split
  · omega
  · split <;> omega
theorem con_bd' {o al ae bl be : Int} {x : Ld} (hs : 0 ≤ szM x o ∧ szM x o ≤ 1099511627776) (ha : 0 ≤ ae) (hb : 0 ≤ be) : 0 ≤ con o al ae bl be x ∧ con o al ae bl be x ≤ 1099511627776 := by
  have h2 := atM_bd (pl := al) (id := x.f0) ha
  have h3 := atM_bd (pl := bl) (id := x.f0) hb
  unfold con mn
  (repeat' split) <;> omega
theorem sumB_bd' {o al ae bl be : Int} (ha : 0 ≤ ae) (hb : 0 ≤ be) : ∀ (l : List Ld), (∀ x ∈ l, 0 ≤ szM x o ∧ szM x o ≤ 1099511627776) → 0 ≤ sumB o al ae bl be l ∧ sumB o al ae bl be l ≤ l.length * 1099511627776
  | [], _ => by simp [sumB]
  | x :: l, h => by
    have h1 := con_bd' (al := al) (bl := bl) (h x List.mem_cons_self) ha hb
    have h2 := sumB_bd' (al := al) (bl := bl) ha hb l fun y hy => h y (List.mem_cons_of_mem _ hy)
    simp only [sumB, List.length_cons]
    omega
def row1 (o : Int) (x : Ld) : List S25 := (List.range (szM x o).toNat).map fun e : Nat => (⟨x.f0, (e : Int)⟩ : S25)
def allM (o : Int) : List Ld → List S25
  | [] => []
  | x :: l => row1 o x ++ allM o l
theorem ord_at {id e pl pe : Int} (he : 0 ≤ e ∧ e < 18446744073709551615) : (0 ≤ ordM id e pl pe ↔ atM pl pe id ≤ e) := by
  unfold ordM cmpM atM
  (repeat' split) <;> omega
theorem find_range (f : Nat → S25) (p : S25 → Bool) (t : Nat) : ∀ n : Nat, (∀ e, e < n → (p (f e) = true ↔ t ≤ e)) → ((List.range n).map f).find? p = if t < n then some (f t) else none
  | 0, _ => by simp
  | n + 1, h => by
    rw [List.range_succ, List.map_append, List.find?_append, find_range f p t n (fun e he => h e (by omega))]
    by_cases h1 : t < n
    · rw [if_pos h1, if_pos (by omega)]; rfl
    · rw [if_neg h1]
      have hn := h n (by omega)
      by_cases h2 : t < n + 1
      · have : t = n := by omega
        subst this
        rw [if_pos h2]
        simp [hn]
      · rw [if_neg h2]
        have : ¬ p (f n) = true := fun h3 => by have := hn.1 h3; omega
        simp [this]
theorem find_row {o pl pe : Int} {x : Ld} (hs : 0 ≤ szM x o ∧ szM x o ≤ 100) (hp : 0 ≤ pe) :
    (row1 o x).find? (fun q => decide (0 ≤ ordM q.f0 q.f1 pl pe)) = if atM pl pe x.f0 < szM x o then some ⟨x.f0, atM pl pe x.f0⟩ else none := by
  have ha := atM_bd (pl := pl) (id := x.f0) hp
  unfold row1
  rw [find_range _ _ (atM pl pe x.f0).toNat (szM x o).toNat (fun e he => by
    simp only [decide_eq_true_eq]
    rw [ord_at (by omega)]
    omega)]
  by_cases h : atM pl pe x.f0 < szM x o
  · rw [if_pos h, if_pos (by omega), show (((atM pl pe x.f0).toNat : Nat) : Int) = atM pl pe x.f0 by omega]
  · rw [if_neg h, if_neg (by omega)]
def endM (o el ee : Int) : List Ld → Int × Int × Bool
  | [] => (el, ee, false)
  | x :: l => endM o x.f0 (szM x o) l
def pickM (r : Option S25) (e : Int × Int × Bool) : Int × Int × Bool := match r with | some q => (q.f0, q.f1, true) | none => e
theorem next_find {o pl pe : Int} (hp : 0 ≤ pe) : ∀ (l : List Ld) (el ee : Int), (∀ x ∈ l, 0 ≤ szM x o ∧ szM x o ≤ 100) →
    nextM o pl pe el ee l = pickM ((allM o l).find? (fun q => decide (0 ≤ ordM q.f0 q.f1 pl pe))) (endM o el ee l)
  | [], el, ee, _ => rfl
  | x :: l, el, ee, h => by
    simp only [nextM, allM, List.find?_append, endM]
    rw [find_row (h x List.mem_cons_self) hp]
    by_cases h1 : atM pl pe x.f0 < szM x o
    · rw [if_pos h1, if_pos h1]; rfl
    · rw [if_neg h1, if_neg h1, next_find hp l _ _ fun y hy => h y (List.mem_cons_of_mem _ hy)]; rfl
theorem all_len {o : Int} : ∀ (l : List Ld), (∀ x ∈ l, 0 ≤ szM x o ∧ szM x o ≤ 100) → (allM o l).length ≤ 100 * l.length
  | [], _ => by simp [allM]
  | x :: l, h => by
    have := all_len l fun y hy => h y (List.mem_cons_of_mem _ hy)
    have := h x List.mem_cons_self
    simp only [allM, List.length_append, List.length_cons, row1, List.length_map, List.length_range]
    omega
theorem count_range (lo hi : Nat) (p : S25 → Bool) (f : Nat → S25) : ∀ n : Nat, (∀ e, e < n → (p (f e) = true ↔ lo ≤ e ∧ e < hi)) → ((List.range n).map f).countP p = min hi n - min lo n
  | 0, _ => by simp
  | n + 1, h => by
    rw [List.range_succ, List.map_append, List.countP_append, count_range lo hi p f n (fun e he => h e (by omega))]
    have hn := h n (by omega)
    by_cases h1 : lo ≤ n ∧ n < hi
    · have : p (f n) = true := hn.2 h1
      simp only [List.map_cons, List.map_nil, List.countP_cons, List.countP_nil, this, if_true]
      omega
    · have : ¬ p (f n) = true := fun h2 => h1 (hn.1 h2)
      simp only [List.map_cons, List.map_nil, List.countP_cons, List.countP_nil, this]
      simp only [Bool.false_eq_true, if_false]
      omega
def inP (al ae bl be : Int) (q : S25) : Bool := decide (0 ≤ ordM q.f0 q.f1 al ae) && decide (ordM q.f0 q.f1 bl be < 0)
theorem count_row {o al ae bl be : Int} {x : Ld} (hs : 0 ≤ szM x o ∧ szM x o ≤ 100) (ha : 0 ≤ ae) (hb : 0 ≤ be) : (((row1 o x).countP (inP al ae bl be) : Nat) : Int) = con o al ae bl be x := by
  have h1 := atM_bd (pl := al) (id := x.f0) ha
  have h2 := atM_bd (pl := bl) (id := x.f0) hb
  unfold row1
  rw [count_range (atM al ae x.f0).toNat (atM bl be x.f0).toNat _ _ (szM x o).toNat (fun e he => by
    unfold inP
    simp only [Bool.and_eq_true, decide_eq_true_eq]
    rw [ord_at (by omega)]
    have := ord_at (id := x.f0) (e := (e : Int)) (pl := bl) (pe := be) (by omega)
    omega)]
  unfold con mn
  (repeat' split) <;> omega
theorem count_all {o al ae bl be : Int} (ha : 0 ≤ ae) (hb : 0 ≤ be) : ∀ (l : List Ld), (∀ x ∈ l, 0 ≤ szM x o ∧ szM x o ≤ 100) → (((allM o l).countP (inP al ae bl be) : Nat) : Int) = sumB o al ae bl be l
  | [], _ => rfl
  | x :: l, h => by
    have i1 := count_all (al := al) (bl := bl) ha hb l fun y hy => h y (List.mem_cons_of_mem _ hy)
    have i2 := count_row (al := al) (bl := bl) (h x List.mem_cons_self) ha hb
    simp only [allM, List.countP_append, sumB]
    omega
def ltP (a b : S25) : Prop := a.f0 < b.f0 ∨ (a.f0 = b.f0 ∧ a.f1 < b.f1)
theorem row_mem {o : Int} {x : Ld} {q : S25} (h : q ∈ row1 o x) : q.f0 = x.f0 ∧ 0 ≤ q.f1 ∧ q.f1 < szM x o := by
  unfold row1 at h
  obtain ⟨e, he, rfl⟩ := List.mem_map.1 h
  have := List.mem_range.1 he
  exact ⟨rfl, by show 0 ≤ (e : Int); omega, by show (e : Int) < szM x o; omega⟩
theorem all_mem {o : Int} : ∀ {t : List Ld} {q : S25}, q ∈ allM o t → ∃ x ∈ t, q.f0 = x.f0 ∧ 0 ≤ q.f1 ∧ q.f1 < szM x o
  | [], _, h => absurd h List.not_mem_nil
  | x :: t, q, h => by
    rcases List.mem_append.1 h with h | h
    · exact ⟨x, List.mem_cons_self, row_mem h⟩
    · obtain ⟨y, hy, h⟩ := all_mem h
      exact ⟨y, List.mem_cons_of_mem _ hy, h⟩
theorem row_sorted (o : Int) (x : Ld) : (row1 o x).Pairwise ltP := by
  unfold row1
  rw [List.pairwise_map]
  exact List.pairwise_lt_range.imp fun h => .inr ⟨rfl, Int.ofNat_lt.2 h⟩
theorem all_sorted {o : Int} : ∀ {t : List Ld}, RisingP t → (allM o t).Pairwise ltP
  | [], _ => List.Pairwise.nil
  | x :: t, h => by
    obtain ⟨h1, h2⟩ := List.pairwise_cons.1 h
    refine List.pairwise_append.2 ⟨row_sorted o x, all_sorted h2, fun a ha b hb => ?_⟩
    obtain ⟨y, hy, e, _⟩ := all_mem hb
    have := h1 y hy
    have := (row_mem ha).1
    exact .inl (by omega)
theorem find_first {p : S25 → Bool} : ∀ {A : List S25} {q : S25}, A.Pairwise ltP → A.find? p = some q → p q = true ∧ q ∈ A ∧ ∀ e ∈ A, p e = true → e = q ∨ ltP q e
  | [], _, _, h => by cases h
  | a :: A, q, hs, h => by
    obtain ⟨h1, h2⟩ := List.pairwise_cons.1 hs
    by_cases hp : p a = true
    · rw [List.find?_cons_of_pos hp] at h
      cases h
      refine ⟨hp, List.mem_cons_self, fun e he _ => ?_⟩
      rcases List.mem_cons.1 he with rfl | he
      · exact .inl rfl
      · exact .inr (h1 e he)
    · rw [List.find?_cons_of_neg hp] at h
      obtain ⟨k1, k2, k3⟩ := find_first h2 h
      refine ⟨k1, List.mem_cons_of_mem _ k2, fun e he hpe => ?_⟩
      rcases List.mem_cons.1 he with rfl | he
      · exact absurd hpe hp
      · exact k3 e he hpe
theorem find_same {p q : S25 → Bool} : ∀ {A : List S25}, (∀ e ∈ A, p e = true ↔ q e = true) → A.find? p = A.find? q
  | [], _ => rfl
  | a :: A, h => by
    have ih := find_same fun e he => h e (List.mem_cons_of_mem _ he)
    have ha := h a List.mem_cons_self
    by_cases hp : p a = true
    · rw [List.find?_cons_of_pos hp, List.find?_cons_of_pos (ha.1 hp)]
    · rw [List.find?_cons_of_neg hp, List.find?_cons_of_neg (fun h' => hp (ha.2 h')), ih]
theorem count_less {p q : S25 → Bool} {x : S25} : ∀ {A : List S25}, (∀ e, q e = true → p e = true) → x ∈ A → p x = true → ¬ q x = true → A.countP q < A.countP p
  | [], _, h, _, _ => absurd h List.not_mem_nil
  | a :: A, h, hx, hp, hq => by
    rw [List.countP_cons, List.countP_cons]
    have le : A.countP q ≤ A.countP p := List.countP_mono_left fun e _ => h e
    rcases List.mem_cons.1 hx with rfl | hx
    · rw [if_pos hp, if_neg hq]; omega
    · have := count_less h hx hp hq
      by_cases h1 : q a = true
      · rw [if_pos h1, if_pos (h a h1)]; omega
      · rw [if_neg h1]; omega
theorem end_false {o : Int} : ∀ (t : List Ld) (a b : Int), (endM o a b t).2.2 = false
  | [], _, _ => rfl
  | x :: t, _, _ => end_false t _ _
theorem ord_ge (a b c d : Int) : 0 ≤ ordM a b c d ↔ c < a ∨ (a = c ∧ d ≤ b) := by
  unfold ordM cmpM; (repeat' split) <;> omega
theorem ord_lt (a b c d : Int) : ordM a b c d < 0 ↔ a < c ∨ (a = c ∧ b < d) := by
  unfold ordM cmpM; (repeat' split) <;> omega
/-- What is held of a ledger. -/
def ofM (L : Int) : List Hd → List S25
  | [] => []
  | x :: t => if x.f0 = L then x.f1 else ofM L t
/-- Ledgers that rise, of each right ranges, some. -/
def HOk : Int → List Hd → Prop
  | _, [] => True
  | b, x :: t => b < x.f0 ∧ GoodR x.f1 ∧ x.f1 ≠ [] ∧ HOk x.f0 t
theorem hok_mem : ∀ {l : List Hd} {b : Int}, HOk b l → ∀ x ∈ l, b < x.f0 ∧ GoodR x.f1 ∧ x.f1 ≠ []
  | [], _, _, _, h => absurd h List.not_mem_nil
  | y :: t, b, hc, x, h => by
    obtain ⟨h1, h2, h3, h4⟩ := hc
    rcases List.mem_cons.1 h with rfl | h
    · exact ⟨h1, h2, h3⟩
    · have := hok_mem h4 x h
      exact ⟨by omega, this.2⟩
theorem hok_weak : ∀ {l : List Hd} {b c : Int}, HOk b l → c ≤ b → HOk c l
  | [], _, _, _, _ => trivial
  | x :: t, b, c, h, hc => ⟨by have := h.1; omega, h.2⟩
theorem of_out : ∀ {l : List Hd} {b L : Int}, HOk b l → L ≤ b → ofM L l = []
  | [], _, _, _, _ => rfl
  | x :: t, b, L, h, hL => by
    obtain ⟨h1, h2, h3, h4⟩ := h
    unfold ofM
    rw [if_neg (by omega)]
    exact of_out h4 (by omega)
theorem of_cases (L : Int) : ∀ l : List Hd, ofM L l = [] ∨ ∃ x ∈ l, x.f0 = L ∧ ofM L l = x.f1
  | [] => .inl rfl
  | x :: t => by
    unfold ofM
    by_cases h : x.f0 = L
    · rw [if_pos h]; exact .inr ⟨x, List.mem_cons_self, h, rfl⟩
    · rw [if_neg h]
      rcases of_cases L t with h1 | ⟨y, h1, h2⟩
      · exact .inl h1
      · exact .inr ⟨y, List.mem_cons_of_mem _ h1, h2⟩
theorem good_nil : GoodR [] := ⟨trivial, fun n h => absurd h (in_nil n)⟩
theorem of_good {l : List Hd} {b : Int} (h : HOk b l) (L : Int) : GoodR (ofM L l) := by
  rcases of_cases L l with h1 | ⟨x, h1, _, h2⟩
  · rw [h1]; exact good_nil
  · rw [h2]; exact (hok_mem h x h1).2.1
theorem of_len {l : List Hd} {N : Nat} (h : ∀ x ∈ l, x.f1.length ≤ N) (L : Int) : (ofM L l).length ≤ N := by
  rcases of_cases L l with h1 | ⟨x, h1, _, h2⟩
  · rw [h1]; simp
  · rw [h2]; exact h x h1
theorem hok_snoc : ∀ {m : List Hd} {b : Int} {z : Hd}, HOk b m → (∀ w ∈ m, w.f0 < z.f0) → b < z.f0 → GoodR z.f1 → z.f1 ≠ [] → HOk b (m ++ [z])
  | [], _, _, _, _, h1, h2, h3 => ⟨h1, h2, h3, trivial⟩
  | x :: t, b, z, hc, hw, h1, h2, h3 => ⟨hc.1, hc.2.1, hc.2.2.1, hok_snoc hc.2.2.2 (fun w h => hw w (List.mem_cons_of_mem _ h)) (hw x List.mem_cons_self) h2 h3⟩
theorem of_snoc (L : Int) (z : Hd) : ∀ m : List Hd, (∀ w ∈ m, w.f0 < z.f0) → ofM L (m ++ [z]) = if z.f0 = L then z.f1 else ofM L m
  | [], _ => rfl
  | x :: t, h => by
    have hx := h x List.mem_cons_self
    show (if x.f0 = L then x.f1 else ofM L (t ++ [z])) = if z.f0 = L then z.f1 else (if x.f0 = L then x.f1 else ofM L t)
    rw [of_snoc L z t fun w hw => h w (List.mem_cons_of_mem _ hw)]
    by_cases h1 : x.f0 = L
    · rw [if_pos h1, if_pos h1, if_neg (by omega)]
    · rw [if_neg h1, if_neg h1]
/-- A right cursor: nothing is held ahead of its mark. -/
def COk (pl pe : Int) (h : List Hd) : Prop := HOk (-1) h ∧ (∀ x ∈ h, x.f0 ≤ 18446744073709551615) ∧ ∀ L n, InP (ofM L h) n → pl < L ∨ (L = pl ∧ pe ≤ n)
def ackB (pl pe : Int) (h : List Hd) (q : S25) : Bool := decide (ordM q.f0 q.f1 pl pe < 0) || inB (ofM q.f0 h) q.f1
def geB (pl pe : Int) (q : S25) : Bool := decide (0 ≤ ordM q.f0 q.f1 pl pe)
theorem geB_iff (pl pe : Int) (q : S25) : geB pl pe q = true ↔ pl < q.f0 ∨ (q.f0 = pl ∧ pe ≤ q.f1) := by
  unfold geB; rw [decide_eq_true_eq, ord_ge]
theorem ackB_iff (pl pe : Int) (h : List Hd) (q : S25) : ackB pl pe h q = true ↔ (q.f0 < pl ∨ (q.f0 = pl ∧ q.f1 < pe)) ∨ InP (ofM q.f0 h) q.f1 := by
  unfold ackB; rw [Bool.or_eq_true, decide_eq_true_eq, ord_lt, inB_iff]

end Go.Proofs.Ytinfnpbglapjhaa.AM

/- Slices of ranges in memory. -/
namespace Go.Proofs.Ytinfnpbglapjhaa.AM
set_option maxRecDepth 100000
set_option linter.unusedVariables false
set_option linter.unusedSimpArgs false

theorem frz_sl {lo n o len cap es : Nat} {t : Bool} {m : Mem} {vals : List AVal} (hn : lo ≤ n) (hm : m.get n = some (.cells es vals)) (hl : o + len * es ≤ vals.length) (hu : uptoL lo vals = true) : frz lo m (.sl n o len cap t) = some (.isl ((vals.drop o).take (len * es)) len (t && decide (cap = len))) := by
  simp only [frz, frz1]
  rw [if_neg (by omega), hm]
  simp only
  rw [if_pos ⟨hl, hu⟩]
theorem uptoL_app (lo : Nat) : ∀ a b : List AVal, uptoL lo (a ++ b) = (uptoL lo a && uptoL lo b)
  | [], b => by simp [uptoL]
  | x :: a, b => by simp [uptoL, uptoL_app lo a b, Bool.and_assoc]
abbrev i64 (n : Int) : AVal := .int .i64 n
abbrev u64 (n : Int) : AVal := .int .u64 n
def rc : List S25 → List AVal
  | [] => []
  | x :: t => u64 x.f0 :: u64 x.f1 :: rc t
theorem rc_len : ∀ l : List S25, (rc l).length = l.length * 2
  | [] => rfl
  | x :: t => by simp [rc, rc_len t]; omega
theorem rc_take : ∀ (l : List S25) (i : Nat), (rc l).take (i * 2) = rc (l.take i)
  | [], i => by simp [rc]
  | x :: t, 0 => by simp [rc]
  | x :: t, i + 1 => by rw [show (i + 1) * 2 = i * 2 + 1 + 1 by omega]; simp [rc, rc_take t i]
theorem rc_drop : ∀ (l : List S25) (i : Nat), (rc l).drop (i * 2) = rc (l.drop i)
  | [], i => by simp [rc]
  | x :: t, 0 => by simp [rc]
  | x :: t, i + 1 => by rw [show (i + 1) * 2 = i * 2 + 1 + 1 by omega]; simp [rc, rc_drop t i]
theorem rc_app : ∀ (l m : List S25), rc (l ++ m) = rc l ++ rc m
  | [], m => rfl
  | x :: t, m => by simp [rc, rc_app t m]
theorem rc_upto (lo : Nat) : ∀ l : List S25, uptoL lo (rc l) = true
  | [] => rfl
  | x :: t => by simp [rc, rc_upto lo t]
theorem rc_one : ∀ l : List S25, (rc l).all AVal.one = true
  | [] => rfl
  | x :: t => by simp [rc]; simpa using rc_one t
theorem rc_get {l : List S25} {i : Nat} {x : S25} (h : l[i]? = some x) : ((rc l).drop (i * 2)).take 2 = [u64 x.f0, u64 x.f1] := by
  have hi := (List.getElem?_eq_some_iff.1 h).1
  rw [rc_drop, List.drop_eq_getElem_cons hi, (List.getElem?_eq_some_iff.1 h).2]
  simp [rc]

/-- A slice of ranges that does not change. -/
def RgI (v : AVal) (l : List S25) : Prop := v = .nilsl ∧ l = [] ∨ ∃ t, v = .isl (rc l) l.length t
/-- .. or one in memory. -/
def RgM (σ : St) (v : AVal) (l : List S25) : Prop := RgI v l ∨ ∃ a o c t vals, v = .sl a o l.length c t ∧ l.length ≤ c ∧ a < σ.next ∧ σ.mem.get a = some (.cells 2 vals) ∧ o + l.length * 2 ≤ vals.length ∧ (vals.drop o).take (l.length * 2) = rc l
theorem RgI.m {v : AVal} {l : List S25} (h : RgI v l) (σ : St) : RgM σ v l := .inl h
theorem RgM.len {σ : St} {v : AVal} {l : List S25} (h : RgM σ v l) (ρ : St) : evalV ρ (.len 1 v) = some (i64 l.length, ρ) := by
  rcases h with (⟨rfl, rfl⟩ | ⟨t, rfl⟩) | ⟨a, o, c, t, vals, rfl, _⟩ <;> simp
theorem RgM.one {σ : St} {v : AVal} {l : List S25} (h : RgM σ v l) : v.one = true ∧ cellsOf v = [v] := by
  rcases h with (⟨rfl, rfl⟩ | ⟨t, rfl⟩) | ⟨a, o, c, t, vals, rfl, _⟩ <;> simp
theorem RgM.frame {σ σ' : St} {v : AVal} {l : List S25} (h : RgM σ v l) (hn : σ.next ≤ σ'.next) (hm : ∀ a, a < σ.next → σ'.mem.get a = σ.mem.get a) : RgM σ' v l := by
  rcases h with h | ⟨a, o, c, t, vals, h1, h2, h3, h4, h5⟩
  · exact .inl h
  · exact .inr ⟨a, o, c, t, vals, h1, h2, by omega, (hm a h3).trans h4, h5⟩
theorem RgM.src {σ : St} {v : AVal} {l : List S25} (h : RgM σ v l) {ρ : St} (hm : ∀ a, a < σ.next → ρ.mem.get a = σ.mem.get a) : srcL ρ 2 v = some (rc l, l.length) := by
  rcases h with (⟨rfl, rfl⟩ | ⟨t, rfl⟩) | ⟨a, o, c, t, vals, rfl, h2, h3, h4, h5, h6⟩
  · rfl
  · simp [srcL, rc_len]
  · simp [srcL, hm a h3, h4, h5, h6]
/-- What stands at a place of a slice in memory. -/
theorem sl_get {vals : List AVal} {o : Nat} {l : List S25} {i : Nat} {x : S25} (h5 : o + l.length * 2 ≤ vals.length) (h6 : (vals.drop o).take (l.length * 2) = rc l) (h : l[i]? = some x) :
    vals[o + i * 2]? = some (u64 x.f0) ∧ vals[o + i * 2 + 1]? = some (u64 x.f1) ∧ o + i * 2 + 2 ≤ vals.length ∧ (vals.drop (o + i * 2)).take 2 = [u64 x.f0, u64 x.f1] := by
  have hi := (List.getElem?_eq_some_iff.1 h).1
  have hg := rc_get h
  have hd : (vals.drop (o + i * 2)).take 2 = [u64 x.f0, u64 x.f1] := by
    rw [← hg, ← h6, List.drop_take, List.drop_drop, List.take_take]
    congr 1; omega
  have e0 : vals[o + i * 2]? = ((vals.drop (o + i * 2)).take 2)[0]? := by simp
  have e1 : vals[o + i * 2 + 1]? = ((vals.drop (o + i * 2)).take 2)[1]? := by simp
  exact ⟨by rw [e0, hd]; rfl, by rw [e1, hd]; rfl, by omega, hd⟩
/-- Grown: nothing that was there is other. -/
def Grow (σ σ' : St) : Prop := σ.next ≤ σ'.next ∧ ∀ a, a < σ.next → σ'.mem.get a = σ.mem.get a
theorem Grow.refl (σ : St) : Grow σ σ := ⟨Nat.le_refl _, fun _ _ => rfl⟩
theorem Grow.trans {a b c : St} (h : Grow a b) (k : Grow b c) : Grow a c := ⟨Nat.le_trans h.1 k.1, fun x hx => by rw [k.2 x (by have := h.1; omega), h.2 x hx]⟩
theorem Grow.set {σ σ' : St} (h : Grow σ σ') (b : Blk) : Grow σ ⟨σ'.mem.set σ'.next b, σ'.next + 1⟩ := ⟨by have := h.1; simp; omega, fun a ha => by have := h.1; simp [show ¬ a = σ'.next by omega]; exact h.2 a ha⟩

/-! ### behind -/

theorem cmp_c (lo hi n : Int) (σ : St) (Q : AVal → St → Prop) (h : Q (i64 (if hi < n then -1 else 1)) σ) : ACall Try.prog 87 [.agg [u64 lo, u64 hi], u64 n] σ Q := by
  refine ACall.scrub ?_
  refine ACall.of_compF hmx (fun a w => Try.call87 a w) Try.func87 cf87 (n := 2) (by decide) rfl ?_
  by_cases hc : hi < n
  · rw [if_pos hc] at h
    simp [ac87, rs87, lk_cons, hc]
    exact ⟨fun a ha => by simp [show ¬ a = σ.next by omega], h⟩
  · rw [if_neg hc] at h
    simp [ac87, rs87, lk_cons, hc]
    exact ⟨fun a ha => by simp [show ¬ a = σ.next by omega], h⟩
theorem shr1 (s : Nat) : ashift .shr .u64 (s : Int) 1 = some (.int .u64 ((s / 2 : Nat) : Int)) := by
  have h1 : ¬ ((1 : Int) < 0) := by omega
  have h2 : min (1 : Int).toNat (IntKind.bits .u64) = 1 := rfl
  simp only [ashift, if_neg h1, h2]
  rw [Int.fdiv_eq_ediv_of_nonneg _ (by omega)]
  simp

def BsJ (v : AVal) (n : Int) (r N : Nat) (σ0 : St) (mm : Nat) (rg : Regs) (σ' : St) : Prop := ∃ i j : Nat, mm = j - i ∧ i ≤ r ∧ r ≤ j ∧ j ≤ N ∧ σ' = σ0 ∧ rg = [(0, v), (1, u64 n), (2, .fn 87 [] []), (8, i64 N), (9, i64 i), (10, i64 j)]

theorem bs_c {σ : St} {v : AVal} {l : List S25} (hv : RgM σ v l) (hl : l.length < 1000000) {n : Int} {r : Nat} (hr : r ≤ l.length) (h1 : ∀ (i : Nat) (h : i < l.length), i < r → l[i].f1 < n) (h2 : ∀ (i : Nat) (h : i < l.length), r ≤ i → ¬ l[i].f1 < n) (Q : AVal → St → Prop) (h : ∀ b : Bool, Q (.tup [i64 r, .bool b]) σ) :
    ACall Try.prog 86 [v, u64 n, .fn 87 [] []] σ Q := by
  refine ACall.of_compF hmx (fun a w => Try.call86 a w) Try.func86 cf86 (n := 3) (by decide) rfl ?_
  have l1 := hv.len
  simp [ac86, rs86, lk_cons, ↓l1]
  refine wp_loop (BsJ v n r l.length σ) l.length ?_ ?_
  · exact ⟨0, l.length, by omega, by omega, hr, by omega, rfl, rfl⟩
  · rintro mm rg σ' ⟨i, j, rfl, hi, hj, hjN, rfl, rfl⟩
    by_cases hlt : i < j
    · obtain ⟨m, hm⟩ : ∃ m, (i + j) / 2 = m := ⟨_, rfl⟩
      obtain ⟨s, hs⟩ : ∃ s, i + j = s := ⟨_, rfl⟩
      have w1 : IntKind.i64.wrap ((i : Int) + (j : Int)) = (s : Int) := by rw [IntWalk.i64_in] <;> omega
      have w2 : IntKind.u64.wrap (s : Int) = (s : Int) := by rw [IntWalk.u64_in]; omega
      have w3 := shr1 s
      rw [← hs, hm, hs] at w3
      have w4 : IntKind.i64.wrap (m : Int) = (m : Int) := by rw [IntWalk.i64_in]; omega
      obtain ⟨k, hk⟩ : ∃ k, m + 1 = k := ⟨_, rfl⟩
      have w5 : IntKind.i64.wrap ((m : Int) + 1) = (k : Int) := by rw [IntWalk.i64_in] <;> omega
      have hmN : m < l.length := by omega
      obtain ⟨x, hx⟩ : ∃ x, l[m]? = some x := ⟨_, List.getElem?_eq_getElem hmN⟩
      have hxe : l[m] = x := (List.getElem?_eq_some_iff.1 hx).2
      have fin : ∀ K : Prop, K → K := fun _ h => h
      have go : ∀ (Q' : AVal → St → Prop), (m < r → Q' (i64 (-1)) σ') → (r ≤ m → Q' (i64 1) σ') → ACall Try.prog 87 [.agg [u64 x.f0, u64 x.f1], u64 n] σ' Q' := by
        intro Q' a b
        refine cmp_c _ _ _ _ _ ?_
        by_cases hmr : m < r
        · have := h1 m hmN hmr
          rw [hxe] at this
          rw [if_pos this]; exact a hmr
        · have := h2 m hmN (by omega)
          rw [hxe] at this
          rw [if_neg this]; exact b (by omega)
      rcases hv with (⟨rfl, rfl⟩ | ⟨t, rfl⟩) | ⟨a, o, c, t, vals, rfl, c2, c3, c4, c5, c6⟩
      · simp at hx
      · have e1 := rc_get hx
        simp [lk_cons, hlt, w1, w2, w3, w4, hmN, e1]
        refine go _ (fun hmr => ?_) fun hmr => ?_
        · simp [lk_cons, w5]
          exact ⟨j - k, by omega, k, j, rfl, by omega, by omega, by omega, rfl, rfl⟩
        · simp [lk_cons]
          exact ⟨m - i, by omega, i, m, rfl, by omega, by omega, by omega, rfl, rfl⟩
      · obtain ⟨e1, e2, e3, e4⟩ := sl_get c5 c6 hx
        simp [lk_cons, hlt, w1, w2, w3, w4, hmN, c4, e3, e4]
        refine go _ (fun hmr => ?_) fun hmr => ?_
        · simp [lk_cons, w5]
          exact ⟨j - k, by omega, k, j, rfl, by omega, by omega, by omega, rfl, rfl⟩
        · simp [lk_cons]
          exact ⟨m - i, by omega, i, m, rfl, by omega, by omega, by omega, rfl, rfl⟩
    · have hir : i = r := by omega
      subst hir
      by_cases hiN : i < l.length
      · obtain ⟨x, hx⟩ : ∃ x, l[i]? = some x := ⟨_, List.getElem?_eq_getElem hiN⟩
        rcases hv with (⟨rfl, rfl⟩ | ⟨t, rfl⟩) | ⟨a, o, c, t, vals, rfl, c2, c3, c4, c5, c6⟩
        · simp at hx
        · have e1 := rc_get hx
          simp [lk_cons, hlt, hiN, e1]
          refine cmp_c _ _ _ _ _ ?_
          simp [lk_cons]
          exact h _
        · obtain ⟨e1, e2, e3, e4⟩ := sl_get c5 c6 hx
          simp [lk_cons, hlt, hiN, c4, e3, e4]
          refine cmp_c _ _ _ _ _ ?_
          simp [lk_cons]
          exact h _
      · simp [lk_cons, hlt, hiN]
        exact h _

theorem behind_c {σ : St} {v : AVal} {l : List S25} (hv : RgM σ v l) (hl : l.length < 1000000) {b n : Int} (hc : Can b l) (Q : AVal → St → Prop) (h : Q (i64 (cutM n l : Nat)) σ) : ACall Try.prog 72 [v, u64 n] σ Q := by
  refine ACall.of_compF hmx (fun a w => Try.call72 a w) Try.func72 cf72 (n := 2) (by decide) rfl ?_
  obtain ⟨r1, r2, r3⟩ := cut_spec (a := n) hc
  simp [ac72, rs72, lk_cons]
  refine bs_c hv hl r1 r2 r3 _ fun bb => ?_
  simp [lk_cons]
  exact h
end Go.Proofs.Ytinfnpbglapjhaa.AM

/- Slices of ranges: Clone, Grow, Concat, Add. -/
namespace Go.Proofs.Ytinfnpbglapjhaa.AM
set_option maxRecDepth 100000
set_option linter.unusedVariables false
set_option linter.unusedSimpArgs false

theorem frz_rc {lo : Nat} {m : Mem} {b : Nat} {l : List S25} {c : Nat} {t : Bool} {rest : List AVal} (hb : lo ≤ b) (hm : m.get b = some (.cells 2 (rc l ++ rest))) (hr : uptoL lo rest = true) : ∃ v', frz lo m (.sl b 0 l.length c t) = some v' ∧ RgI v' l := by
  have h := frz_sl (o := 0) (len := l.length) (cap := c) (t := t) hb hm (by rw [List.length_append, rc_len]; omega) (by rw [uptoL_app, rc_upto, hr]; rfl)
  rw [List.drop_zero, List.take_append_of_le_length (by rw [rc_len]; omega), List.take_of_length_le (by rw [rc_len]; omega)] at h
  exact ⟨_, h, .inr ⟨_, rfl⟩⟩

theorem clone_c {σ : St} {v : AVal} {l : List S25} (hv : RgM σ v l) (hl : l.length ≤ 1000000) (Q : AVal → St → Prop) (h : ∀ v', RgI v' l → Q v' σ) : ACall Try.prog 68 [v] σ Q := by
  refine ACall.freeze ?_
  refine ACall.of_compF hmx (fun a w => Try.call68 a w) Try.func68 cf68 (n := 1) (by decide) rfl ?_
  have nilcase : ∀ σ' : St, Grow σ σ' → σ'.mem.get σ.next = some (.cells 2 []) → l = [] → Old σ σ' ∧ ∃ v', frz σ.next σ'.mem (.sl σ.next 0 0 0 true) = some v' ∧ Q v' σ := by
    intro σ' hg hm hl0
    subst hl0
    obtain ⟨v', f1, f2⟩ := frz_rc (lo := σ.next) (l := []) (c := 0) (t := true) (rest := []) (Nat.le_refl _) (by simpa [rc] using hm) rfl
    exact ⟨fun a ha => hg.2 a ha, v', f1, h v' f2⟩
  rcases hv with (⟨rfl, rfl⟩ | ⟨t, rfl⟩) | ⟨a, o, c, t, vals, rfl, c2, c3, c4, c5, c6⟩
  · simp [ac68, rs68, lk_cons]
    exact ⟨fun a ha => rfl, _, rfl, h _ (.inl ⟨rfl, rfl⟩)⟩
  · by_cases h0 : l.length = 0
    · have hl0 := List.length_eq_zero_iff.1 h0
      simp [ac68, rs68, lk_cons, fillL, repL, srcL, storeL, rc_len, h0]
      refine nilcase _ ?_ ?_ hl0
      · exact ⟨by simp, fun a ha => by simp [show ¬ a = σ.next by omega]⟩
      · simp [hl0, rc, storeL]
    · have h16 : l.length * 16 ≤ 140737488355328 ∧ l.length ≤ 9223372036854775807 := by omega
      simp [ac68, rs68, lk_cons, fillL, repL, srcL, storeL, rc_len, h0, h16]
      obtain ⟨v', f1, f2⟩ := frz_rc (lo := σ.next) (m := (σ.mem.set σ.next (.cells 2 [])).set (σ.next + 1) (.cells 2 (rc l))) (b := σ.next + 1) (l := l) (c := l.length) (t := false) (rest := []) (by omega) (by simp) rfl
      exact ⟨fun a ha => by simp [show ¬ a = σ.next by omega, show ¬ a = σ.next + 1 by omega], v', f1, h v' f2⟩
  · have e1 : ¬ a = σ.next := by omega
    by_cases h0 : l.length = 0
    · have hl0 := List.length_eq_zero_iff.1 h0
      have c5' : o ≤ vals.length := by omega
      simp [ac68, rs68, lk_cons, fillL, repL, srcL, storeL, rc_len, h0, e1, c4, c5']
      refine nilcase _ ?_ ?_ hl0
      · exact ⟨by simp, fun a ha => by simp [show ¬ a = σ.next by omega]⟩
      · simp [hl0, rc, storeL]
    · have h16 : l.length * 16 ≤ 140737488355328 ∧ l.length ≤ 9223372036854775807 := by omega
      simp [ac68, rs68, lk_cons, fillL, repL, srcL, storeL, rc_len, h0, h16, e1, c4, c5, c6]
      obtain ⟨v', f1, f2⟩ := frz_rc (lo := σ.next) (m := (σ.mem.set σ.next (.cells 2 [])).set (σ.next + 1) (.cells 2 (rc l))) (b := σ.next + 1) (l := l) (c := l.length) (t := false) (rest := []) (by omega) (by simp) rfl
      exact ⟨fun a ha => by simp [show ¬ a = σ.next by omega, show ¬ a = σ.next + 1 by omega], v', f1, h v' f2⟩

/-- Room for n. -/
def Room (v : AVal) (b n k : Nat) : Prop := n = 0 ∧ v = .nilsl ∧ k = 0 ∨ 0 < n ∧ v = .sl b 0 k n false
theorem grow_c (σ : St) (n : Nat) (hn : n ≤ 1000000) (Q : AVal → St → Prop) (h0 : n = 0 → Q .nilsl σ) (h1 : 0 < n → Q (.sl σ.next 0 0 n false) ⟨σ.mem.set σ.next (.cells 2 (repL n [u64 0, u64 0])), σ.next + 1⟩) : ACall Try.prog 90 [.nilsl, i64 n] σ Q := by
  refine ACall.of_compF hmx (fun a w => Try.call90 a w) Try.func90 cf90 (n := 2) (by decide) rfl ?_
  have w0 : IntKind.i64.wrap 0 = 0 := by rw [IntWalk.i64_in]; omega
  have w1 : IntKind.i64.wrap (n : Int) = n := by rw [IntWalk.i64_in]; omega
  by_cases hz : n = 0
  · have := h0 hz
    subst hz
    simp [ac90, rs90, lk_cons, w0]
    exact this
  · have hp : 0 < n := by omega
    have := h1 hp
    have h16 : (n : Int) * 16 ≤ 140737488355328 ∧ (n : Int) ≤ 9223372036854775807 := by omega
    have hneg : ¬ (n : Int) < 0 := by omega
    have hp' : (0 : Int) < n := by omega
    simp [ac90, rs90, lk_cons, w0, w1, hneg, hp, hp', optM, asliceSl, bnd, h16]
    exact this

def cat (ls : List (List S25)) : List S25 := ls.flatten
def CcJ1 (a N : Nat) (ls : List (List S25)) (σ0 : St) (mm : Nat) (rg : Regs) (σ' : St) : Prop := ∃ i : Nat, mm = N - i ∧ i ≤ N ∧ σ' = σ0 ∧ rg = [(0, .sl a 0 N N true), (3, i64 (cat (ls.take i)).length), (9, .sl a 0 N N true), (10, i64 N), (11, i64 i)]
def CcJ2 (a N n : Nat) (ls : List (List S25)) (σ0 : St) (mm : Nat) (rg : Regs) (σ' : St) : Prop := ∃ (i : Nat) (v : AVal) (rest : List AVal), mm = N - i ∧ i ≤ N ∧ Grow σ0 σ' ∧ (n = 0 ∧ v = .nilsl ∨ 0 < n ∧ v = .sl σ0.next 0 (cat (ls.take i)).length n false ∧ σ0.next < σ'.next ∧ σ'.mem.get σ0.next = some (.cells 2 (rc (cat (ls.take i)) ++ rest)) ∧ (cat (ls.take i)).length * 2 + rest.length = n * 2 ∧ uptoL σ0.next rest = true) ∧ rg = [(6, v), (25, .sl a 0 N N true), (26, i64 N), (27, i64 i)]

theorem store_mid : ∀ (y x r : List AVal), y.length ≤ r.length → storeL (x ++ r) x.length y = x ++ y ++ r.drop y.length
  | [], x, r, _ => by simp [storeL]
  | c :: y, x, [], h => by simp at h
  | c :: y, x, r0 :: r, h => by
    have e : (x ++ r0 :: r).set x.length c = (x ++ [c]) ++ r := by simp
    have e2 : x.length + 1 = (x ++ [c]).length := by simp
    simp only [storeL]
    rw [e, e2, store_mid y (x ++ [c]) r (by simpa using h)]
    simp
theorem upto_rep (lo : Nat) : ∀ n, uptoL lo (repL n [u64 0, u64 0]) = true := by
  intro n
  induction n with
  | zero => rfl
  | succ n ih => simp only [repL, List.replicate_succ, List.flatten_cons] at ih ⊢; rw [uptoL_app, ih]; rfl
theorem upto_drop (lo : Nat) : ∀ (l : List AVal) (n : Nat), uptoL lo l = true → uptoL lo (l.drop n) = true
  | [], n, _ => by simp [uptoL]
  | x :: l, 0, h => h
  | x :: l, n + 1, h => by
    simp only [uptoL, Bool.and_eq_true] at h
    exact upto_drop lo l n h.2

theorem concat_c {σ : St} {a N : Nat} {vs : List AVal} {ls : List (List S25)} (hN : N ≤ 1000) (hvs : vs.length = N) (ha : a < σ.next) (hm : σ.mem.get a = some (.cells 1 vs)) (hall : All2 (RgM σ) vs ls) (hlen : (cat ls).length ≤ 100000) (Q : AVal → St → Prop) (h : ∀ v', RgI v' (cat ls) → Q v' σ) : ACall Try.prog 85 [.sl a 0 N N true] σ Q := by
  refine ACall.freeze ?_
  refine ACall.of_compF hmx (fun a w => Try.call85 a w) Try.func85 cf85 (n := 1) (by decide) rfl ?_
  have hll : ls.length = N := by have := hall.len; omega
  have step : ∀ i, i < N → ∃ v l, vs[i]? = some v ∧ ls[i]? = some l ∧ RgM σ v l ∧ cat (ls.take (i + 1)) = cat (ls.take i) ++ l ∧ (cat (ls.take i)).length + l.length ≤ (cat ls).length := by
    intro i hi
    obtain ⟨v, hv⟩ : ∃ v, vs[i]? = some v := ⟨_, List.getElem?_eq_getElem (by omega)⟩
    obtain ⟨l, hl, hr⟩ := hall.get hv
    have e : cat (ls.take (i + 1)) = cat (ls.take i) ++ l := by simp [cat, List.take_add_one, hl]
    refine ⟨v, l, hv, hl, hr, e, ?_⟩
    have : cat ls = cat (ls.take (i + 1)) ++ cat (ls.drop (i + 1)) := by simp only [cat, ← List.flatten_append, List.take_append_drop]
    rw [this, e]; simp <;> omega
  simp [ac85, rs85, lk_cons]
  refine wp_loop (CcJ1 a N ls σ) N ?_ ?_
  · exact ⟨0, rfl, Nat.zero_le _, rfl, rfl⟩
  · rintro mm rg σ' ⟨i, rfl, hi, rfl, rfl⟩
    by_cases hlt : i < N
    · obtain ⟨v, l, g1, g2, g3, g4, g5⟩ := step i hlt
      obtain ⟨k, hk⟩ : ∃ k, i + 1 = k := ⟨_, rfl⟩
      have w1 : IntKind.i64.wrap ((i : Int) + 1) = (k : Int) := by rw [IntWalk.i64_in] <;> omega
      have l1 := g3.len
      obtain ⟨s, hs⟩ : ∃ s, (cat (ls.take i)).length + l.length = s := ⟨_, rfl⟩
      have w2 : IntKind.i64.wrap (((cat (ls.take i)).length : Int) + (l.length : Int)) = (s : Int) := by rw [IntWalk.i64_in] <;> omega
      have hneg : ¬ (s : Int) < 0 := by omega
      simp [lk_cons, hlt, hm, g1, ↓l1, w2, w1, hneg]
      exact ⟨N - k, by omega, k, rfl, by omega, rfl, by rw [← hk, g4, List.length_append, hs]⟩
    · have : i = N := by omega
      subst this
      have ht : ls.take i = ls := List.take_of_length_le (by omega)
      rw [ht]
      obtain ⟨n, hn⟩ : ∃ n, (cat ls).length = n := ⟨_, rfl⟩
      simp [lk_cons]
      rw [hn]
      have old : ∀ (σ1 : St) (v' : AVal), Grow σ' σ1 → (∃ v'', frz σ'.next σ1.mem v' = some v'' ∧ RgI v'' (cat ls)) → Old σ' σ1 ∧ ∃ v'', frz σ'.next σ1.mem v' = some v'' ∧ Q v'' σ' := fun σ1 v' hg ⟨v'', f1, f2⟩ => ⟨fun a ha => hg.2 a ha, v'', f1, h v'' f2⟩
      refine grow_c _ n (by omega) _ (fun hn0 => ?_) fun hnp => ?_
      case' refine_1 =>
        simp [lk_cons]
        refine wp_loop (CcJ2 a i n ls σ') i ⟨0, _, [], rfl, by omega, Grow.refl _, .inl ⟨hn0, rfl⟩, rfl⟩ ?_
        clear hn0
      case' refine_2 =>
        simp [lk_cons]
        refine wp_loop (CcJ2 a i n ls σ') i ⟨0, _, repL n [u64 0, u64 0], rfl, by omega, ⟨by simp, fun a ha => by simp [show ¬ a = σ'.next by omega]⟩, .inr ⟨hnp, rfl, by simp, by simp [cat, rc], by simp [cat, repL_length], upto_rep _ n⟩, rfl⟩ ?_
        clear hnp
      all_goals
        rintro mm rg σ2 ⟨j, v, rest, rfl, hj, hg, hv, rfl⟩
        have hm2 := (hg.2 a ha).trans hm
        by_cases hlt2 : j < i
        · obtain ⟨w, l, g1, g2, g3, g4, g5⟩ := step j hlt2
          obtain ⟨k, hk⟩ : ∃ k, j + 1 = k := ⟨_, rfl⟩
          have w1 : IntKind.i64.wrap ((j : Int) + 1) = (k : Int) := by rw [IntWalk.i64_in] <;> omega
          have hs := g3.src (ρ := σ2) hg.2
          rw [hk] at g4
          rw [hn] at g5
          rcases hv with ⟨hn0, rfl⟩ | ⟨hnp, rfl, hb, hmb, hml, hru⟩
          · have hl0 : l.length = 0 := by omega
            simp [lk_cons, hlt2, hm2, g1, hs, hl0, w1]
            exact ⟨i - k, by omega, k, _, [], rfl, by omega, hg, .inl ⟨hn0, rfl⟩, rfl⟩
          · have hroom : (cat (ls.take j)).length + l.length ≤ n := g5
            have hc : ((cat (ls.take j)).length + l.length) * 2 ≤ (rc (cat (ls.take j)) ++ rest).length := by rw [List.length_append, rc_len]; omega
            have hc' : ((cat (ls.take j)).length + l.length) * 2 ≤ (rc (cat (ls.take j))).length + rest.length := by rw [rc_len]; omega
            have hsm := store_mid (rc l) (rc (cat (ls.take j))) rest (by rw [rc_len]; omega)
            rw [rc_len (cat (ls.take j)), ← rc_app, ← g4, rc_len] at hsm
            have hl2 := congrArg List.length g4
            rw [List.length_append] at hl2
            have hne : ¬ a = σ'.next := by omega
            simp [lk_cons, hlt2, hm2, g1, hs, hmb, hroom, w1, hc', hsm]
            refine ⟨i - k, by omega, k, _, rest.drop (l.length * 2), rfl, by omega, ⟨hg.1, fun x hx => ?_⟩, .inr ⟨hnp, by rw [hl2], hb, by simp, ?_, upto_drop _ _ _ hru⟩, rfl⟩
            · simp [show ¬ x = σ'.next by omega]; exact hg.2 x hx
            · simp; omega
        · have : j = i := by omega
          subst this
          simp [lk_cons, hlt2]
          rw [ht] at hv
          refine old σ2 v hg ?_
          rcases hv with ⟨hn0, rfl⟩ | ⟨hnp, rfl, hb, hmb, hml, hru⟩
          · exact ⟨.nilsl, rfl, .inl ⟨rfl, List.length_eq_zero_iff.1 (by omega)⟩⟩
          · exact frz_rc (Nat.le_refl _) hmb hru
end Go.Proofs.Ytinfnpbglapjhaa.AM

/- Ranges: Add. -/
namespace Go.Proofs.Ytinfnpbglapjhaa.AM
set_option maxRecDepth 100000
set_option linter.unusedVariables false
set_option linter.unusedSimpArgs false

/-- One more range is merged: ranges from place i on. -/
def AddJ (b s : Nat) (v : AVal) (l : List S25) (lo0 hi0 : Int) (σ0 : St) (mm : Nat) (rg : Regs) (σ' : St) : Prop := ∃ (i : Nat) (lo hi : Int), mm = l.length - i ∧ s ≤ i ∧ i ≤ l.length ∧ mergeM lo0 hi0 (l.drop s) = mergeM lo hi (l.drop i) ∧ Grow σ0 ⟨σ'.mem, σ'.next⟩ ∧ b = σ0.next ∧ σ'.next = σ0.next + 1 ∧ σ'.mem.get b = some (.cells 2 [u64 lo, u64 hi]) ∧ rg = [(0, v), (3, .ptr b 0), (5, i64 s), (6, i64 i)]

theorem concat3_c {m : Mem} {a : Nat} {v1 v2 v3 : AVal} (l1 l2 l3 : List S25) (Q : AVal → St → Prop) (h1 : RgM ⟨m.set a (.cells 1 [v1, v2, v3]), a + 1⟩ v1 l1) (h2 : RgM ⟨m.set a (.cells 1 [v1, v2, v3]), a + 1⟩ v2 l2) (h3 : RgM ⟨m.set a (.cells 1 [v1, v2, v3]), a + 1⟩ v3 l3)
    (hlen : (cat [l1, l2, l3]).length ≤ 100000) (h : ∀ v', RgI v' (cat [l1, l2, l3]) → Q v' ⟨m.set a (.cells 1 [v1, v2, v3]), a + 1⟩) : ACall Try.prog 85 [.sl a 0 3 3 true] ⟨m.set a (.cells 1 [v1, v2, v3]), a + 1⟩ Q :=
  concat_c (N := 3) (vs := [v1, v2, v3]) (ls := [l1, l2, l3]) (by omega) rfl (Nat.lt_succ_self _) (by simp) ⟨h1, h2, h3, trivial⟩ hlen Q h

theorem add_c {σ : St} {v : AVal} {l : List S25} (hv : RgM σ v l) (hl : l.length ≤ 10000) (lo hi : Int) (hc : Can (-1) l) (Q : AVal → St → Prop)
    (h0 : hi ≤ lo → ∀ v', RgI v' l → Q v' σ) (h1 : lo < hi → ∀ v', RgI v' (addM lo hi l) → Q v' σ) : ACall Try.prog 69 [v, .agg [u64 lo, u64 hi]] σ Q := by
  refine ACall.scrub ?_
  refine ACall.of_compF hmx (fun a w => Try.call69 a w) Try.func69 cf69 (n := 2) (by decide) rfl ?_
  have l1 := hv.len
  have hup : ∀ v' m, RgI v' m → v'.upto σ.next = true := by
    intro v' m hh
    rcases hh with ⟨rfl, _⟩ | ⟨t, rfl⟩
    · rfl
    · simp [AVal.upto, rc_upto]
  have hgr : ∀ ρ : St, Grow σ ρ → Old σ ρ := fun ρ hg a ha => hg.2 a ha
  by_cases hlh : hi ≤ lo
  · have := h0 hlh
    simp [ac69, rs69, lk_cons, hlh]
    refine clone_c (hv.frame (σ' := ⟨σ.mem.set σ.next (.cells 2 [u64 lo, u64 hi]), σ.next + 1⟩) (by simp) fun a ha => by simp [show ¬ a = σ.next by omega]) (by omega) _ fun v' hv' => ?_
    simp [lk_cons]
    exact ⟨hup _ _ hv', fun a ha => by simp [show ¬ a = σ.next by omega], this v' hv'⟩
  · have := h1 (by omega)
    simp [ac69, rs69, lk_cons, hlh]
    have hv1 : RgM ⟨σ.mem.set σ.next (.cells 2 [u64 lo, u64 hi]), σ.next + 1⟩ v l := hv.frame (by simp) fun a ha => by simp [show ¬ a = σ.next by omega]
    refine behind_c hv1 (by omega) hc _ ?_
    obtain ⟨r1, r2, r3⟩ := cut_spec (a := lo) hc
    obtain ⟨s, hs⟩ : ∃ s, cutM lo l = s := ⟨_, rfl⟩
    have hcut := add_cut lo hi l
    rw [hs] at r1 hcut ⊢
    simp [lk_cons]
    refine wp_loop (AddJ σ.next s v l lo hi σ) (l.length - s) ?_ ?_
    · exact ⟨s, lo, hi, rfl, Nat.le_refl _, r1, rfl, ⟨by simp, fun a ha => by simp [show ¬ a = σ.next by omega]⟩, rfl, rfl, by simp, rfl⟩
    · rintro mm rg σ' ⟨i, lo1, hi1, rfl, hsi, hi2, hme, hg, _, hnx, hmb, rfl⟩
      have fin : ∀ (Q' : AVal → St → Prop), (mergeM lo1 hi1 (l.drop i) = ⟨lo1, hi1⟩ :: l.drop i) → True := fun _ _ => trivial
      by_cases hlt : i < l.length
      · obtain ⟨x, hx⟩ : ∃ x, l[i]? = some x := ⟨_, List.getElem?_eq_getElem hlt⟩
        have hxe : l[i] = x := (List.getElem?_eq_some_iff.1 hx).2
        have hdr : l.drop i = x :: l.drop (i + 1) := by rw [List.drop_eq_getElem_cons hlt, hxe]
        obtain ⟨k, hk⟩ : ∃ k, i + 1 = k := ⟨_, rfl⟩
        have w1 : IntKind.i64.wrap ((i : Int) + 1) = (k : Int) := by rw [IntWalk.i64_in] <;> omega
        rw [hk] at hdr
        by_cases hle : x.f0 ≤ hi1
        · have hm2 : mergeM lo1 hi1 (l.drop i) = mergeM (mn lo1 x.f0) (mx hi1 x.f1) (l.drop k) := by
            rw [hdr]; conv => lhs; unfold mergeM
            rw [if_pos hle]
          rcases hv with (⟨rfl, rfl⟩ | ⟨t, rfl⟩) | ⟨a, o, c, t, vals, rfl, c2, c3, c4, c5, c6⟩
          · simp at hx
          · have e1 := rc_get hx
            simp [lk_cons, hlt, hmb, e1, hle, w1, storeL]
            exact ⟨l.length - k, by omega, k, mn lo1 x.f0, mx hi1 x.f1, rfl, by omega, by omega, hme.trans hm2, ⟨hg.1, fun y hy => by simp [show ¬ y = σ.next by omega]; exact hg.2 y hy⟩, rfl, hnx, by simp [mn, mx], rfl⟩
          · obtain ⟨e1, e2, e3, e4⟩ := sl_get c5 c6 hx
            have ga : σ'.mem.get a = _ := (hg.2 a c3).trans c4
            have hne : ¬ a = σ.next := by omega
            simp [lk_cons, hlt, hmb, ga, e1, e2, e3, e4, hle, w1, storeL, hne, Ne.symm hne]
            exact ⟨l.length - k, by omega, k, mn lo1 x.f0, mx hi1 x.f1, rfl, by omega, by omega, hme.trans hm2, ⟨hg.1, fun y hy => by simp [show ¬ y = σ.next by omega]; exact hg.2 y hy⟩, rfl, hnx, by simp [mn, mx], rfl⟩
        · have hm3 : mergeM lo1 hi1 (l.drop i) = ⟨lo1, hi1⟩ :: l.drop i := by
            rw [hdr]; conv => lhs; unfold mergeM
            rw [if_neg hle]
          rw [hm3] at hme
          rw [hme] at hcut
          have hlen : (cat [l.take s, [⟨lo1, hi1⟩], l.drop i]).length ≤ 100000 := by simp [cat]; omega
          have hcat : cat [l.take s, [⟨lo1, hi1⟩], l.drop i] = addM lo hi l := by rw [← hcut]; simp [cat]
          have rone : ∀ ρ : St, σ'.next < ρ.next → ρ.mem.get σ'.next = some (.cells 2 [u64 lo1, u64 hi1]) → RgM ρ (.sl σ'.next 0 1 1 true) [⟨lo1, hi1⟩] := fun ρ h1 h2 => .inr ⟨_, _, _, _, _, rfl, Nat.le_refl _, h1, h2, by simp, by simp [rc]⟩
          have rt : ∀ (ρ : St) (t' : Bool), RgM ρ (.isl (List.take (s * 2) (rc l)) s t') (l.take s) := fun ρ t' => .inl (.inr ⟨t', by rw [rc_take, List.length_take, Nat.min_eq_left (by omega)]⟩)
          have rd : ∀ (ρ : St) (t' : Bool), RgM ρ (.isl (List.take ((l.length - i) * 2) (List.drop (i * 2) (rc l))) (l.length - i) t') (l.drop i) := fun ρ t' => .inl (.inr ⟨t', by rw [rc_drop, List.take_of_length_le (by rw [rc_len, List.length_drop]; omega), List.length_drop]⟩)
          have rts : ∀ (ρ : St) (a o c : Nat) (t : Bool) (vals : List AVal), l.length ≤ c → a < ρ.next → ρ.mem.get a = some (.cells 2 vals) → o + l.length * 2 ≤ vals.length → (vals.drop o).take (l.length * 2) = rc l → RgM ρ (.sl a o s c t) (l.take s) ∧ RgM ρ (.sl a (o + i * 2) (l.length - i) (c - i) t) (l.drop i) := by
            intro ρ a o c t vals g1 g2 g3 g4 g5
            refine ⟨.inr ⟨a, o, c, t, vals, by rw [List.length_take, Nat.min_eq_left (by omega)], by rw [List.length_take]; omega, g2, g3, by rw [List.length_take]; omega, ?_⟩, .inr ⟨a, o + i * 2, c - i, t, vals, by rw [List.length_drop], by rw [List.length_drop]; omega, g2, g3, by rw [List.length_drop]; omega, ?_⟩⟩
            · rw [List.length_take, Nat.min_eq_left (by omega), ← rc_take, ← g5, List.take_take, Nat.min_eq_left (by omega)]
            · rw [List.length_drop, ← rc_drop, ← g5, ← List.drop_drop, List.drop_take]
              congr 1; omega
          rcases hv with (⟨rfl, rfl⟩ | ⟨t, rfl⟩) | ⟨a, o, c, t, vals, rfl, c2, c3, c4, c5, c6⟩
          · simp at hx
          · have e1 := rc_get hx
            have hs2 : s ≤ l.length := by omega
            simp [lk_cons, hlt, hmb, e1, hle, w1, storeL, optM, asliceSl, bnd, hs2, hi2, fillL, repL]
            refine concat3_c (l.take s) [⟨lo1, hi1⟩] (l.drop i) _ ?_ ?_ ?_ hlen fun v' hv' => ?_
            · exact rt _ _
            · exact rone _ (by simp <;> omega) (by simp)
            · exact rd _ _
            simp [lk_cons]
            exact ⟨hup _ _ hv', fun x hx => by have := hg.2 x hx; simp [show ¬ x = σ'.next by omega, show ¬ x = σ'.next + 1 by omega, this], this v' (hcat ▸ hv')⟩
          · obtain ⟨e1, e2, e3, e4⟩ := sl_get c5 c6 hx
            have ga : σ'.mem.get a = _ := (hg.2 a c3).trans c4
            have hne : ¬ a = σ.next := by omega
            have hne2 : ¬ a = σ'.next := by omega
            have hne3 : ¬ a = σ'.next + 1 := by omega
            have hs2 : s ≤ l.length := by omega
            have hs3 : s ≤ c := by omega
            have hi3 : i ≤ c := by omega
            simp [lk_cons, hlt, hmb, ga, e1, e2, e3, e4, hle, w1, storeL, hne, hne2, Ne.symm hne, optM, asliceSl, bnd, hs2, hi2, hs3, hi3, c2, fillL, repL]
            have rr := rts ⟨(σ'.mem.set σ'.next (.cells 2 [u64 lo1, u64 hi1])).set (σ'.next + 1) (.cells 1 [.sl a o s c t, .sl σ'.next 0 1 1 true, .sl a (o + i * 2) (l.length - i) (c - i) t]), σ'.next + 1 + 1⟩ a o c t vals c2 (by simp; omega) (by simp [hne2, hne3, ga]) c5 c6
            refine concat3_c (l.take s) [⟨lo1, hi1⟩] (l.drop i) _ ?_ ?_ ?_ hlen fun v' hv' => ?_
            · exact rr.1
            · exact rone _ (by simp <;> omega) (by simp)
            · exact rr.2
            simp [lk_cons]
            exact ⟨hup _ _ hv', fun x hx => by have := hg.2 x hx; simp [show ¬ x = σ'.next by omega, show ¬ x = σ'.next + 1 by omega, this], this v' (hcat ▸ hv')⟩
      · have hiN : i = l.length := by omega
        have hm3 : mergeM lo1 hi1 (l.drop i) = ⟨lo1, hi1⟩ :: l.drop i := by
          rw [hiN, List.drop_length]; rfl
        rw [hm3] at hme
        rw [hme] at hcut
        have go : True := trivial
        · skip
          have hlen : (cat [l.take s, [⟨lo1, hi1⟩], l.drop i]).length ≤ 100000 := by simp [cat]; omega
          have hcat : cat [l.take s, [⟨lo1, hi1⟩], l.drop i] = addM lo hi l := by rw [← hcut]; simp [cat]
          have rone : ∀ ρ : St, σ'.next < ρ.next → ρ.mem.get σ'.next = some (.cells 2 [u64 lo1, u64 hi1]) → RgM ρ (.sl σ'.next 0 1 1 true) [⟨lo1, hi1⟩] := fun ρ h1 h2 => .inr ⟨_, _, _, _, _, rfl, Nat.le_refl _, h1, h2, by simp, by simp [rc]⟩
          have rt : ∀ (ρ : St) (t' : Bool), RgM ρ (.isl (List.take (s * 2) (rc l)) s t') (l.take s) := fun ρ t' => .inl (.inr ⟨t', by rw [rc_take, List.length_take, Nat.min_eq_left (by omega)]⟩)
          have rd : ∀ (ρ : St) (t' : Bool), RgM ρ (.isl (List.take ((l.length - i) * 2) (List.drop (i * 2) (rc l))) (l.length - i) t') (l.drop i) := fun ρ t' => .inl (.inr ⟨t', by rw [rc_drop, List.take_of_length_le (by rw [rc_len, List.length_drop]; omega), List.length_drop]⟩)
          have rts : ∀ (ρ : St) (a o c : Nat) (t : Bool) (vals : List AVal), l.length ≤ c → a < ρ.next → ρ.mem.get a = some (.cells 2 vals) → o + l.length * 2 ≤ vals.length → (vals.drop o).take (l.length * 2) = rc l → RgM ρ (.sl a o s c t) (l.take s) ∧ RgM ρ (.sl a (o + i * 2) (l.length - i) (c - i) t) (l.drop i) := by
            intro ρ a o c t vals g1 g2 g3 g4 g5
            refine ⟨.inr ⟨a, o, c, t, vals, by rw [List.length_take, Nat.min_eq_left (by omega)], by rw [List.length_take]; omega, g2, g3, by rw [List.length_take]; omega, ?_⟩, .inr ⟨a, o + i * 2, c - i, t, vals, by rw [List.length_drop], by rw [List.length_drop]; omega, g2, g3, by rw [List.length_drop]; omega, ?_⟩⟩
            · rw [List.length_take, Nat.min_eq_left (by omega), ← rc_take, ← g5, List.take_take, Nat.min_eq_left (by omega)]
            · rw [List.length_drop, ← rc_drop, ← g5, ← List.drop_drop, List.drop_take]
              congr 1; omega
          rcases hv with (⟨rfl, rfl⟩ | ⟨t, rfl⟩) | ⟨a, o, c, t, vals, rfl, c2, c3, c4, c5, c6⟩
          · have hs0 : s = 0 := by simp at hiN; omega
            have hi0 : i = 0 := by simpa using hiN
            simp [lk_cons, hmb, hs0, hi0, storeL, optM, asliceSl, bnd, fillL, repL]
            refine concat3_c (List.take s []) [⟨lo1, hi1⟩] (List.drop i []) _ ?_ ?_ ?_ hlen fun v' hv' => ?_
            · exact .inl (.inl ⟨rfl, by simp⟩)
            · exact rone _ (by simp <;> omega) (by simp)
            · exact .inl (.inl ⟨rfl, by simp⟩)
            simp [lk_cons]
            exact ⟨hup _ _ hv', fun x hx => by have := hg.2 x hx; simp [show ¬ x = σ'.next by omega, show ¬ x = σ'.next + 1 by omega, this], this v' (hcat ▸ hv')⟩
          · have hs2 : s ≤ l.length := by omega
            simp [lk_cons, hlt, hmb, storeL, optM, asliceSl, bnd, hs2, hi2, fillL, repL]
            refine concat3_c (l.take s) [⟨lo1, hi1⟩] (l.drop i) _ ?_ ?_ ?_ hlen fun v' hv' => ?_
            · exact rt _ _
            · exact rone _ (by simp <;> omega) (by simp)
            · exact rd _ _
            simp [lk_cons]
            exact ⟨hup _ _ hv', fun x hx => by have := hg.2 x hx; simp [show ¬ x = σ'.next by omega, show ¬ x = σ'.next + 1 by omega, this], this v' (hcat ▸ hv')⟩
          · have ga : σ'.mem.get a = _ := (hg.2 a c3).trans c4
            have hne : ¬ a = σ.next := by omega
            have hne2 : ¬ a = σ'.next := by omega
            have hne3 : ¬ a = σ'.next + 1 := by omega
            have hs2 : s ≤ l.length := by omega
            have hs3 : s ≤ c := by omega
            have hi3 : i ≤ c := by omega
            simp [lk_cons, hlt, hmb, ga, storeL, hne, hne2, Ne.symm hne, optM, asliceSl, bnd, hs2, hi2, hs3, hi3, c2, fillL, repL]
            have rr := rts ⟨(σ'.mem.set σ'.next (.cells 2 [u64 lo1, u64 hi1])).set (σ'.next + 1) (.cells 1 [.sl a o s c t, .sl σ'.next 0 1 1 true, .sl a (o + i * 2) (l.length - i) (c - i) t]), σ'.next + 1 + 1⟩ a o c t vals c2 (by simp; omega) (by simp [hne2, hne3, ga]) c5 c6
            refine concat3_c (l.take s) [⟨lo1, hi1⟩] (l.drop i) _ ?_ ?_ ?_ hlen fun v' hv' => ?_
            · exact rr.1
            · exact rone _ (by simp <;> omega) (by simp)
            · exact rr.2
            simp [lk_cons]
            exact ⟨hup _ _ hv', fun x hx => by have := hg.2 x hx; simp [show ¬ x = σ'.next by omega, show ¬ x = σ'.next + 1 by omega, this], this v' (hcat ▸ hv')⟩
end Go.Proofs.Ytinfnpbglapjhaa.AM

/- Ranges: Remove, Same, In, Has, Check. -/
namespace Go.Proofs.Ytinfnpbglapjhaa.AM
set_option maxRecDepth 100000
set_option linter.unusedVariables false
set_option linter.unusedSimpArgs false

/-- What is made up: nil, or a block that was not there. -/
def Out (lo : Nat) (σ' : St) (v : AVal) (l : List S25) : Prop := v = .nilsl ∧ l = [] ∨ ∃ o, v = .sl o 0 l.length l.length false ∧ 0 < l.length ∧ lo ≤ o ∧ o < σ'.next ∧ σ'.mem.get o = some (.cells 2 (rc l))
theorem Out.frz {lo lo' : Nat} {σ' : St} {v : AVal} {l : List S25} (h : Out lo σ' v l) (hl : lo' ≤ lo) : ∃ v', frz lo' σ'.mem v = some v' ∧ RgI v' l := by
  rcases h with ⟨rfl, rfl⟩ | ⟨o, rfl, h0, h1, h2, h3⟩
  · exact ⟨.nilsl, rfl, .inl ⟨rfl, rfl⟩⟩
  · exact frz_rc (rest := []) (Nat.le_trans hl h1) (by simpa using h3) rfl

def RemJ (v : AVal) (l : List S25) (lo hi : Int) (σ0 : St) (mm : Nat) (rg : Regs) (σ' : St) : Prop := ∃ (i : Nat) (ov : AVal), mm = l.length - i ∧ i ≤ l.length ∧ Grow σ0 σ' ∧ σ0.next < σ'.next ∧ σ'.mem.get σ0.next = some (.cells 2 [u64 lo, u64 hi]) ∧ Out (σ0.next + 1) σ' ov (remM lo hi (l.take i)) ∧ rg = [(3, .ptr σ0.next 0), (5, ov), (8, v), (9, i64 l.length), (10, i64 i)]

theorem remM_app (lo hi : Int) : ∀ (l m : List S25), remM lo hi (l ++ m) = remM lo hi l ++ remM lo hi m
  | [], m => rfl
  | x :: t, m => by simp [remM, remM_app lo hi t m]
theorem remM_len (lo hi : Int) : ∀ (l : List S25), (remM lo hi l).length ≤ 2 * l.length
  | [] => by simp [remM]
  | x :: t => by
    have := remM_len lo hi t
    have h2 : (pieceM lo hi x).length ≤ 2 := by unfold pieceM; repeat' split
                                                all_goals simp
    simp [remM]; omega

/-- A range of a slice, read. -/
theorem RgM.at {σ : St} {v : AVal} {l : List S25} (hv : RgM σ v l) {i : Nat} {x : S25} (hx : l[i]? = some x) {ρ : St} (hm : ∀ a, a < σ.next → ρ.mem.get a = σ.mem.get a) :
    ∃ p, evalV ρ (.idxAddr 2 v (i64 i)) = some (p, ρ) ∧ evalV ρ (.ldn 2 p) = some (.agg [u64 x.f0, u64 x.f1], ρ) ∧ (∃ q, evalV ρ (.fieldAddr 0 p) = some (q, ρ) ∧ evalV ρ (.ld1 q) = some (u64 x.f0, ρ)) ∧ ∃ q, evalV ρ (.fieldAddr 1 p) = some (q, ρ) ∧ evalV ρ (.ld1 q) = some (u64 x.f1, ρ) := by
  have hi := (List.getElem?_eq_some_iff.1 hx).1
  rcases hv with (⟨rfl, rfl⟩ | ⟨t, rfl⟩) | ⟨a, o, c, t, vals, rfl, c2, c3, c4, c5, c6⟩
  · simp at hx
  · have e1 := rc_get hx
    exact ⟨.iptr [u64 x.f0, u64 x.f1], by simp [hi, e1], by simp, ⟨.iptr [u64 x.f0, u64 x.f1], by simp, by simp⟩, ⟨.iptr [u64 x.f1], by simp, by simp⟩⟩
  · obtain ⟨e1, e2, e3, e4⟩ := sl_get c5 c6 hx
    have ga := (hm a c3).trans c4
    exact ⟨.ptr a (o + i * 2), by simp [hi], by simp [ga, e3, e4], ⟨.ptr a (o + i * 2), by simp, by simp [ga, e1]⟩, ⟨.ptr a (o + i * 2 + 1), by simp, by simp [ga, e2]⟩⟩

theorem remove_c {σ : St} {v : AVal} {l : List S25} (hv : RgM σ v l) (hl : l.length ≤ 10000) (lo hi : Int) (Q : AVal → St → Prop) (h : ∀ v', RgI v' (remM lo hi l) → Q v' σ) : ACall Try.prog 67 [v, .agg [u64 lo, u64 hi]] σ Q := by
  refine ACall.freeze ?_
  refine ACall.of_compF hmx (fun a w => Try.call67 a w) Try.func67 cf67 (n := 2) (by decide) rfl ?_
  have l1 := hv.len
  simp [ac67, rs67, lk_cons, ↓l1]
  refine wp_loop (RemJ v l lo hi σ) l.length ?_ ?_
  · exact ⟨0, .nilsl, rfl, Nat.zero_le _, ⟨by simp, fun a ha => by simp [show ¬ a = σ.next by omega]⟩, by simp, by simp, .inl ⟨rfl, rfl⟩, rfl⟩
  · rintro mm rg σ' ⟨i, ov, rfl, hi2, hg, hnx, hmb, ho, rfl⟩
    by_cases hlt : i < l.length
    · obtain ⟨x, hx⟩ : ∃ x, l[i]? = some x := ⟨_, List.getElem?_eq_getElem hlt⟩
      obtain ⟨k, hk⟩ : ∃ k, i + 1 = k := ⟨_, rfl⟩
      have w1 : IntKind.i64.wrap ((i : Int) + 1) = (k : Int) := by rw [IntWalk.i64_in] <;> omega
      have htk : remM lo hi (l.take k) = remM lo hi (l.take i) ++ pieceM lo hi x := by
        rw [← hk, List.take_add_one, hx, remM_app]; simp [remM]
      obtain ⟨p, p1, p2, _, _⟩ := hv.at hx (ρ := σ') hg.2
      have z1 : ¬ σ.next = σ'.next := by omega
      have z2 : ¬ σ'.next = σ.next := by omega
      have z3 : ¬ σ.next = σ'.next + 1 := by omega
      have z4 : ¬ σ.next = σ'.next + 1 + 1 := by omega
      have z5 : ¬ σ.next = σ'.next + 1 + 1 + 1 := by omega
      have z6 : ¬ σ'.next = σ'.next + 1 + 1 := by omega
      have z7 : ¬ σ'.next = σ'.next + 1 := by omega
      have z8 : ¬ σ'.next = σ'.next + 1 + 1 + 1 := by omega
      have z9 : ¬ σ'.next + 1 + 1 = σ'.next + 1 + 1 + 1 := by omega
      have hml := remM_len lo hi (l.take i)
      rw [List.length_take, Nat.min_eq_left (by omega)] at hml
      obtain ⟨m, hm⟩ : ∃ m, remM lo hi (l.take i) = m := ⟨_, rfl⟩
      rw [hm] at ho htk hml
      have q0 : ∀ ρ : St, True := fun _ => trivial
      have fin : ∀ (nb : Nat) (m' : List S25) (σ'' : St), m' = m ++ pieceM lo hi x → 0 < m'.length → Grow σ σ'' → σ.next < σ''.next → σ''.mem.get σ.next = some (.cells 2 [u64 lo, u64 hi]) → σ.next + 1 ≤ nb → nb < σ''.next → σ''.mem.get nb = some (.cells 2 (rc m')) → ∀ kk, kk = m'.length →
          ∃ mm, mm < l.length - i ∧ RemJ v l lo hi σ mm [(3, .ptr σ.next 0), (5, .sl nb 0 kk kk false), (8, v), (9, i64 l.length), (10, i64 k)] σ'' := by
        intro nb m' σ'' e1 e2 e3 e4 e5 e6 e7 e8 kk e9
        subst e9
        exact ⟨l.length - k, by omega, k, _, rfl, by omega, e3, e4, e5, .inr ⟨nb, by rw [htk, ← e1], by rw [htk, ← e1]; exact e2, e6, e7, by rw [htk, ← e1]; exact e8⟩, rfl⟩
      have gr1 := hg.1
      have gold : ∀ a, a < σ.next → σ'.mem.get a = σ.mem.get a := hg.2
      by_cases c1 : hi ≤ lo
      · have hp : pieceM lo hi x = [x] := by unfold pieceM; rw [if_pos (.inl c1)]
        rcases ho with ⟨rfl, h0⟩ | ⟨o, rfl, h0, h1, h2, h3⟩
        · subst h0
          simp [lk_cons, hlt, ↓p1, ↓p2, storeL, hmb, z1, z2, z3, z4, z5, z6, z7, z8, z9, fillL, repL, srcL, w1, c1]
          refine fin (σ'.next + 1 + 1) (pieceM lo hi x) _ (by simp) (by rw [hp]; simp) ⟨by simp; omega, fun a ha => by have := gold a ha; simp [show ¬ a = σ'.next by omega, show ¬ a = σ'.next + 1 by omega, show ¬ a = σ'.next + 1 + 1 by omega, this]⟩ (by simp; omega) (by simp [show ¬ σ.next = σ'.next by omega, show ¬ σ.next = σ'.next + 1 by omega, show ¬ σ.next = σ'.next + 1 + 1 by omega, hmb]) (by omega) (by simp) (by simp [hp, rc]) _ (by rw [hp]; simp)
        · have o1 : ¬ o = σ'.next := by omega
          have o2 : ¬ o = σ'.next + 1 := by omega
          have o3 : ¬ o = σ'.next + 1 + 1 := by omega
          have o4 : ¬ o = σ'.next + 1 + 1 + 1 := by omega
          have o5 : ¬ o = σ.next := by omega
          have k1 : ¬ m.length + 1 ≤ m.length := by omega
          have k2 : m.length * 2 ≤ (rc m).length := by rw [rc_len]; omega
          have k3 : (m.length + 1) * 16 ≤ 140737488355328 ∧ m.length ≤ 9223372036854775806 := by omega
          have k4 : (rc m).take (m.length * 2) = rc m := List.take_of_length_le (by rw [rc_len]; omega)
          simp [lk_cons, hlt, ↓p1, ↓p2, storeL, hmb, z1, z2, z3, z4, z5, z6, z7, z8, z9, fillL, repL, srcL, w1, c1, o1, o2, o3, o4, Ne.symm o1, Ne.symm o2, Ne.symm o3, Ne.symm o5, h3, k1, k2, k3, k4]
          refine fin (σ'.next + 1 + 1) (m ++ pieceM lo hi x) _ rfl (by simp; omega) ⟨by simp; omega, fun a ha => by have := gold a ha; simp [show ¬ a = σ'.next by omega, show ¬ a = σ'.next + 1 by omega, show ¬ a = σ'.next + 1 + 1 by omega, show ¬ a = o by omega, this]⟩ (by simp; omega) (by simp [show ¬ σ.next = σ'.next by omega, show ¬ σ.next = σ'.next + 1 by omega, show ¬ σ.next = σ'.next + 1 + 1 by omega, Ne.symm o5, hmb]) (by omega) (by simp) (by simp [hp, rc, rc_app]) _ (by rw [hp]; simp)
      by_cases c2 : x.f1 ≤ lo
      · have hp : pieceM lo hi x = [x] := by unfold pieceM; rw [if_pos (.inr (.inl c2))]
        rcases ho with ⟨rfl, h0⟩ | ⟨o, rfl, h0, h1, h2, h3⟩
        · subst h0
          simp [lk_cons, hlt, ↓p1, ↓p2, storeL, hmb, z1, z2, z3, z4, z5, z6, z7, z8, z9, fillL, repL, srcL, w1, c1, c2]
          refine fin (σ'.next + 1 + 1) (pieceM lo hi x) _ (by simp) (by rw [hp]; simp) ⟨by simp; omega, fun a ha => by have := gold a ha; simp [show ¬ a = σ'.next by omega, show ¬ a = σ'.next + 1 by omega, show ¬ a = σ'.next + 1 + 1 by omega, this]⟩ (by simp; omega) (by simp [show ¬ σ.next = σ'.next by omega, show ¬ σ.next = σ'.next + 1 by omega, show ¬ σ.next = σ'.next + 1 + 1 by omega, hmb]) (by omega) (by simp) (by simp [hp, rc]) _ (by rw [hp]; simp)
        · have o1 : ¬ o = σ'.next := by omega
          have o2 : ¬ o = σ'.next + 1 := by omega
          have o3 : ¬ o = σ'.next + 1 + 1 := by omega
          have o4 : ¬ o = σ'.next + 1 + 1 + 1 := by omega
          have o5 : ¬ o = σ.next := by omega
          have k1 : ¬ m.length + 1 ≤ m.length := by omega
          have k2 : m.length * 2 ≤ (rc m).length := by rw [rc_len]; omega
          have k3 : (m.length + 1) * 16 ≤ 140737488355328 ∧ m.length ≤ 9223372036854775806 := by omega
          have k4 : (rc m).take (m.length * 2) = rc m := List.take_of_length_le (by rw [rc_len]; omega)
          simp [lk_cons, hlt, ↓p1, ↓p2, storeL, hmb, z1, z2, z3, z4, z5, z6, z7, z8, z9, fillL, repL, srcL, w1, c1, c2, o1, o2, o3, o4, Ne.symm o1, Ne.symm o2, Ne.symm o3, Ne.symm o5, h3, k1, k2, k3, k4]
          refine fin (σ'.next + 1 + 1) (m ++ pieceM lo hi x) _ rfl (by simp; omega) ⟨by simp; omega, fun a ha => by have := gold a ha; simp [show ¬ a = σ'.next by omega, show ¬ a = σ'.next + 1 by omega, show ¬ a = σ'.next + 1 + 1 by omega, show ¬ a = o by omega, this]⟩ (by simp; omega) (by simp [show ¬ σ.next = σ'.next by omega, show ¬ σ.next = σ'.next + 1 by omega, show ¬ σ.next = σ'.next + 1 + 1 by omega, Ne.symm o5, hmb]) (by omega) (by simp) (by simp [hp, rc, rc_app]) _ (by rw [hp]; simp)
      by_cases c3 : hi ≤ x.f0
      · have hp : pieceM lo hi x = [x] := by unfold pieceM; rw [if_pos (.inr (.inr c3))]
        rcases ho with ⟨rfl, h0⟩ | ⟨o, rfl, h0, h1, h2, h3⟩
        · subst h0
          simp [lk_cons, hlt, ↓p1, ↓p2, storeL, hmb, z1, z2, z3, z4, z5, z6, z7, z8, z9, fillL, repL, srcL, w1, c1, c2, c3]
          refine fin (σ'.next + 1 + 1) (pieceM lo hi x) _ (by simp) (by rw [hp]; simp) ⟨by simp; omega, fun a ha => by have := gold a ha; simp [show ¬ a = σ'.next by omega, show ¬ a = σ'.next + 1 by omega, show ¬ a = σ'.next + 1 + 1 by omega, this]⟩ (by simp; omega) (by simp [show ¬ σ.next = σ'.next by omega, show ¬ σ.next = σ'.next + 1 by omega, show ¬ σ.next = σ'.next + 1 + 1 by omega, hmb]) (by omega) (by simp) (by simp [hp, rc]) _ (by rw [hp]; simp)
        · have o1 : ¬ o = σ'.next := by omega
          have o2 : ¬ o = σ'.next + 1 := by omega
          have o3 : ¬ o = σ'.next + 1 + 1 := by omega
          have o4 : ¬ o = σ'.next + 1 + 1 + 1 := by omega
          have o5 : ¬ o = σ.next := by omega
          have k1 : ¬ m.length + 1 ≤ m.length := by omega
          have k2 : m.length * 2 ≤ (rc m).length := by rw [rc_len]; omega
          have k3 : (m.length + 1) * 16 ≤ 140737488355328 ∧ m.length ≤ 9223372036854775806 := by omega
          have k4 : (rc m).take (m.length * 2) = rc m := List.take_of_length_le (by rw [rc_len]; omega)
          simp [lk_cons, hlt, ↓p1, ↓p2, storeL, hmb, z1, z2, z3, z4, z5, z6, z7, z8, z9, fillL, repL, srcL, w1, c1, c2, c3, o1, o2, o3, o4, Ne.symm o1, Ne.symm o2, Ne.symm o3, Ne.symm o5, h3, k1, k2, k3, k4]
          refine fin (σ'.next + 1 + 1) (m ++ pieceM lo hi x) _ rfl (by simp; omega) ⟨by simp; omega, fun a ha => by have := gold a ha; simp [show ¬ a = σ'.next by omega, show ¬ a = σ'.next + 1 by omega, show ¬ a = σ'.next + 1 + 1 by omega, show ¬ a = o by omega, this]⟩ (by simp; omega) (by simp [show ¬ σ.next = σ'.next by omega, show ¬ σ.next = σ'.next + 1 by omega, show ¬ σ.next = σ'.next + 1 + 1 by omega, Ne.symm o5, hmb]) (by omega) (by simp) (by simp [hp, rc, rc_app]) _ (by rw [hp]; simp)
      have hno : ¬ (lo ≥ hi ∨ x.f1 ≤ lo ∨ hi ≤ x.f0) := by omega
      by_cases c4 : x.f0 < lo
      · by_cases c5 : hi < x.f1
        · have hp : pieceM lo hi x = [⟨x.f0, lo⟩, ⟨hi, x.f1⟩] := by unfold pieceM; rw [if_neg hno, if_pos c4, if_pos c5]; rfl
          rcases ho with ⟨rfl, h0⟩ | ⟨o, rfl, h0, h1, h2, h3⟩
          · subst h0
            simp [lk_cons, hlt, ↓p1, ↓p2, storeL, hmb, z1, z2, z3, z4, z5, z6, z7, z8, z9, fillL, repL, srcL, w1, c1, c2, c3, c4, c5]
            refine fin (σ'.next + 1 + 1 + 1 + 1) (pieceM lo hi x) _ (by simp) (by rw [hp]; simp) ⟨by simp; omega, fun a ha => by have := gold a ha; simp [show ¬ a = σ'.next by omega, show ¬ a = σ'.next + 1 by omega, show ¬ a = σ'.next + 1 + 1 by omega, show ¬ a = σ'.next + 1 + 1 + 1 by omega, show ¬ a = σ'.next + 1 + 1 + 1 + 1 by omega, this]⟩ (by simp; omega) (by simp [show ¬ σ.next = σ'.next by omega, show ¬ σ.next = σ'.next + 1 by omega, show ¬ σ.next = σ'.next + 1 + 1 by omega, show ¬ σ.next = σ'.next + 1 + 1 + 1 by omega, show ¬ σ.next = σ'.next + 1 + 1 + 1 + 1 by omega, hmb]) (by omega) (by simp) (by simp [hp, rc]) _ (by rw [hp]; simp)
          · have o1 : ¬ o = σ'.next := by omega
            have o2 : ¬ o = σ'.next + 1 := by omega
            have o3 : ¬ o = σ'.next + 1 + 1 := by omega
            have o4 : ¬ o = σ'.next + 1 + 1 + 1 := by omega
            have o5 : ¬ o = σ.next := by omega
            have k1 : ¬ m.length + 1 ≤ m.length := by omega
            have k2 : m.length * 2 ≤ (rc m).length := by rw [rc_len]; omega
            have k3 : (m.length + 1) * 16 ≤ 140737488355328 ∧ m.length ≤ 9223372036854775806 := by omega
            have k4 : (rc m).take (m.length * 2) = rc m := List.take_of_length_le (by rw [rc_len]; omega)
            have k5 : (m.length + 1) * 2 ≤ (rc m).length + 2 ∧ (m.length + 1 + 1) * 16 ≤ 140737488355328 ∧ m.length ≤ 9223372036854775805 := by rw [rc_len]; omega
            have k6 : (rc m ++ [AVal.int .u64 x.f0, AVal.int .u64 lo]).take ((m.length + 1) * 2) = rc m ++ [AVal.int .u64 x.f0, AVal.int .u64 lo] := List.take_of_length_le (by simp [rc_len]; omega)
            simp [lk_cons, hlt, ↓p1, ↓p2, storeL, hmb, z1, z2, z3, z4, z5, z6, z7, z8, z9, fillL, repL, srcL, w1, c1, c2, c3, c4, c5, k5, o1, o2, o3, o4, Ne.symm o1, Ne.symm o2, Ne.symm o3, Ne.symm o5, h3, k1, k2, k3, k4]
            refine fin (σ'.next + 1 + 1 + 1 + 1) (m ++ pieceM lo hi x) _ rfl (by simp; omega) ⟨by simp; omega, fun a ha => by have := gold a ha; simp [show ¬ a = σ'.next by omega, show ¬ a = σ'.next + 1 by omega, show ¬ a = σ'.next + 1 + 1 by omega, show ¬ a = σ'.next + 1 + 1 + 1 by omega, show ¬ a = σ'.next + 1 + 1 + 1 + 1 by omega, show ¬ a = o by omega, this]⟩ (by simp; omega) (by simp [show ¬ σ.next = σ'.next by omega, show ¬ σ.next = σ'.next + 1 by omega, show ¬ σ.next = σ'.next + 1 + 1 by omega, show ¬ σ.next = σ'.next + 1 + 1 + 1 by omega, show ¬ σ.next = σ'.next + 1 + 1 + 1 + 1 by omega, Ne.symm o5, hmb]) (by omega) (by simp) (by simp [hp, rc, rc_app, k6]) _ (by rw [hp]; simp)
        · have hp : pieceM lo hi x = [⟨x.f0, lo⟩] := by unfold pieceM; rw [if_neg hno, if_pos c4, if_neg c5]; rfl
          rcases ho with ⟨rfl, h0⟩ | ⟨o, rfl, h0, h1, h2, h3⟩
          · subst h0
            simp [lk_cons, hlt, ↓p1, ↓p2, storeL, hmb, z1, z2, z3, z4, z5, z6, z7, z8, z9, fillL, repL, srcL, w1, c1, c2, c3, c4, c5]
            refine fin (σ'.next + 1 + 1) (pieceM lo hi x) _ (by simp) (by rw [hp]; simp) ⟨by simp; omega, fun a ha => by have := gold a ha; simp [show ¬ a = σ'.next by omega, show ¬ a = σ'.next + 1 by omega, show ¬ a = σ'.next + 1 + 1 by omega, this]⟩ (by simp; omega) (by simp [show ¬ σ.next = σ'.next by omega, show ¬ σ.next = σ'.next + 1 by omega, show ¬ σ.next = σ'.next + 1 + 1 by omega, hmb]) (by omega) (by simp) (by simp [hp, rc]) _ (by rw [hp]; simp)
          · have o1 : ¬ o = σ'.next := by omega
            have o2 : ¬ o = σ'.next + 1 := by omega
            have o3 : ¬ o = σ'.next + 1 + 1 := by omega
            have o4 : ¬ o = σ'.next + 1 + 1 + 1 := by omega
            have o5 : ¬ o = σ.next := by omega
            have k1 : ¬ m.length + 1 ≤ m.length := by omega
            have k2 : m.length * 2 ≤ (rc m).length := by rw [rc_len]; omega
            have k3 : (m.length + 1) * 16 ≤ 140737488355328 ∧ m.length ≤ 9223372036854775806 := by omega
            have k4 : (rc m).take (m.length * 2) = rc m := List.take_of_length_le (by rw [rc_len]; omega)
            simp [lk_cons, hlt, ↓p1, ↓p2, storeL, hmb, z1, z2, z3, z4, z5, z6, z7, z8, z9, fillL, repL, srcL, w1, c1, c2, c3, c4, c5, o1, o2, o3, o4, Ne.symm o1, Ne.symm o2, Ne.symm o3, Ne.symm o5, h3, k1, k2, k3, k4]
            refine fin (σ'.next + 1 + 1) (m ++ pieceM lo hi x) _ rfl (by simp; omega) ⟨by simp; omega, fun a ha => by have := gold a ha; simp [show ¬ a = σ'.next by omega, show ¬ a = σ'.next + 1 by omega, show ¬ a = σ'.next + 1 + 1 by omega, show ¬ a = o by omega, this]⟩ (by simp; omega) (by simp [show ¬ σ.next = σ'.next by omega, show ¬ σ.next = σ'.next + 1 by omega, show ¬ σ.next = σ'.next + 1 + 1 by omega, Ne.symm o5, hmb]) (by omega) (by simp) (by simp [hp, rc, rc_app]) _ (by rw [hp]; simp)
      · by_cases c5 : hi < x.f1
        · have hp : pieceM lo hi x = [⟨hi, x.f1⟩] := by unfold pieceM; rw [if_neg hno, if_neg c4, if_pos c5]; rfl
          rcases ho with ⟨rfl, h0⟩ | ⟨o, rfl, h0, h1, h2, h3⟩
          · subst h0
            simp [lk_cons, hlt, ↓p1, ↓p2, storeL, hmb, z1, z2, z3, z4, z5, z6, z7, z8, z9, fillL, repL, srcL, w1, c1, c2, c3, c4, c5]
            refine fin (σ'.next + 1 + 1) (pieceM lo hi x) _ (by simp) (by rw [hp]; simp) ⟨by simp; omega, fun a ha => by have := gold a ha; simp [show ¬ a = σ'.next by omega, show ¬ a = σ'.next + 1 by omega, show ¬ a = σ'.next + 1 + 1 by omega, this]⟩ (by simp; omega) (by simp [show ¬ σ.next = σ'.next by omega, show ¬ σ.next = σ'.next + 1 by omega, show ¬ σ.next = σ'.next + 1 + 1 by omega, hmb]) (by omega) (by simp) (by simp [hp, rc]) _ (by rw [hp]; simp)
          · have o1 : ¬ o = σ'.next := by omega
            have o2 : ¬ o = σ'.next + 1 := by omega
            have o3 : ¬ o = σ'.next + 1 + 1 := by omega
            have o4 : ¬ o = σ'.next + 1 + 1 + 1 := by omega
            have o5 : ¬ o = σ.next := by omega
            have k1 : ¬ m.length + 1 ≤ m.length := by omega
            have k2 : m.length * 2 ≤ (rc m).length := by rw [rc_len]; omega
            have k3 : (m.length + 1) * 16 ≤ 140737488355328 ∧ m.length ≤ 9223372036854775806 := by omega
            have k4 : (rc m).take (m.length * 2) = rc m := List.take_of_length_le (by rw [rc_len]; omega)
            simp [lk_cons, hlt, ↓p1, ↓p2, storeL, hmb, z1, z2, z3, z4, z5, z6, z7, z8, z9, fillL, repL, srcL, w1, c1, c2, c3, c4, c5, o1, o2, o3, o4, Ne.symm o1, Ne.symm o2, Ne.symm o3, Ne.symm o5, h3, k1, k2, k3, k4]
            refine fin (σ'.next + 1 + 1) (m ++ pieceM lo hi x) _ rfl (by simp; omega) ⟨by simp; omega, fun a ha => by have := gold a ha; simp [show ¬ a = σ'.next by omega, show ¬ a = σ'.next + 1 by omega, show ¬ a = σ'.next + 1 + 1 by omega, show ¬ a = o by omega, this]⟩ (by simp; omega) (by simp [show ¬ σ.next = σ'.next by omega, show ¬ σ.next = σ'.next + 1 by omega, show ¬ σ.next = σ'.next + 1 + 1 by omega, Ne.symm o5, hmb]) (by omega) (by simp) (by simp [hp, rc, rc_app]) _ (by rw [hp]; simp)
        · have hp : pieceM lo hi x = [] := by unfold pieceM; rw [if_neg hno, if_neg c4, if_neg c5]; rfl
          simp [lk_cons, hlt, ↓p1, ↓p2, storeL, hmb, z1, z2, z3, z4, z5, z6, z7, z8, z9, fillL, repL, srcL, w1, c1, c2, c3, c4, c5]
          rw [hp, List.append_nil] at htk
          refine ⟨l.length - k, by omega, k, ov, rfl, by omega, ⟨by simp; omega, fun a ha => by simp [show ¬ a = σ'.next by omega]; exact gold a ha⟩, by simp; omega, by simp [z1, hmb], ?_, rfl⟩
          rw [htk]
          rcases ho with ⟨rfl, h0⟩ | ⟨o, rfl, h0, h1, h2, h3⟩
          · exact .inl ⟨rfl, h0⟩
          · exact .inr ⟨o, rfl, h0, h1, by simp; omega, by simp [show ¬ o = σ'.next by omega, h3]⟩
    · have : i = l.length := by omega
      subst this
      rw [List.take_length] at ho
      obtain ⟨v', f1, f2⟩ := ho.frz (Nat.le_succ _)
      simp [lk_cons, hlt]
      exact ⟨fun a ha => hg.2 a ha, v', f1, h v' f2⟩
end Go.Proofs.Ytinfnpbglapjhaa.AM

/- The document's ranges: Same, In, put. -/
namespace Go.Proofs.Ytinfnpbglapjhaa.AM
set_option maxRecDepth 100000
set_option linter.unusedVariables false
set_option linter.unusedSimpArgs false

def SamJ (v w : AVal) (l m : List S25) (σ0 : St) (mm : Nat) (rg : Regs) (σ' : St) : Prop := ∃ i : Nat, mm = l.length - i ∧ i ≤ l.length ∧ l.take i = m.take i ∧ σ' = σ0 ∧ rg = [(0, v), (1, w), (5, i64 i)]
theorem rsame_c {σ : St} {v w : AVal} {l m : List S25} (hv : RgM σ v l) (hw : RgM σ w m) (hl : l.length ≤ 100000) (Q : AVal → St → Prop) (h : Q (.bool (decide (l = m))) σ) : ACall Try.prog 41 [v, w] σ Q := by
  refine ACall.of_compF hmx (fun a w => Try.call41 a w) Try.func41 cf41 (n := 2) (by decide) rfl ?_
  have l1 := hv.len
  have l2 := hw.len
  simp [ac41, rs41, lk_cons, ↓l1, ↓l2]
  by_cases hlen : l.length = m.length
  · have hlen' : (l.length : Int) = m.length := by omega
    simp [lk_cons, hlen, hlen']
    refine wp_loop (SamJ v w l m σ) l.length ?_ ?_
    · exact ⟨0, rfl, Nat.zero_le _, rfl, rfl, rfl⟩
    · rintro mm rg σ' ⟨i, rfl, hi, hp, rfl, rfl⟩
      by_cases hlt : i < l.length
      · have hlt2 : i < m.length := by omega
        obtain ⟨x, hx⟩ : ∃ x, l[i]? = some x := ⟨_, List.getElem?_eq_getElem hlt⟩
        obtain ⟨y, hy⟩ : ∃ y, m[i]? = some y := ⟨_, List.getElem?_eq_getElem hlt2⟩
        obtain ⟨k, hk⟩ : ∃ k, i + 1 = k := ⟨_, rfl⟩
        have w1 : IntKind.i64.wrap ((i : Int) + 1) = (k : Int) := by rw [IntWalk.i64_in] <;> omega
        obtain ⟨p, p1, p2, _, _⟩ := hv.at hx (ρ := σ') fun _ _ => rfl
        obtain ⟨q, q1, q2, _, _⟩ := hw.at hy (ρ := σ') fun _ _ => rfl
        by_cases hxy : x = y
        · subst hxy
          have ke : keysEq [u64 x.f0, u64 x.f1] [u64 x.f0, u64 x.f1] = some true := by simp [keysEq, keyEq]
          simp [lk_cons, ↓l1, ↓l2, hlt, hlt2, ↓p1, ↓p2, ↓q1, ↓q2, shapeOk, kShape, ke, w1]
          exact ⟨l.length - k, by omega, k, rfl, by omega, by rw [← hk, List.take_add_one, List.take_add_one, hp, hx, hy], rfl, rfl⟩
        · have ke : keysEq [u64 x.f0, u64 x.f1] [u64 y.f0, u64 y.f1] = some false := by
            obtain ⟨a, b⟩ := x; obtain ⟨c, d⟩ := y
            by_cases h1 : a = c
            · have h2 : ¬ b = d := fun e => hxy (by rw [h1, e])
              have h3 : (b == d) = false := by simpa using h2
              simp [keysEq, keyEq, h1, h3]
            · have h3 : (a == c) = false := by simpa using h1
              simp [keysEq, keyEq, h3]
          have hne : ¬ l = m := fun e => hxy (by subst e; rw [hx] at hy; cases hy; rfl)
          rw [decide_eq_false hne] at h
          simp [lk_cons, ↓l1, ↓l2, hlt, hlt2, ↓p1, ↓p2, ↓q1, ↓q2, shapeOk, kShape, ke]
          exact h
      · have : i = l.length := by omega
        subst this
        have : l = m := by rw [List.take_length, hlen, List.take_length] at hp; exact hp
        rw [decide_eq_true this] at h
        simp [lk_cons, ↓l1]
        exact h
  · have hlen' : ¬ (l.length : Int) = m.length := by omega
    have hne : ¬ l = m := fun e => hlen (by rw [e])
    rw [decide_eq_false hne] at h
    simp [lk_cons, hlen, hlen']
    exact h

def InJ (v : AVal) (n : Int) (l : List S25) (σ0 : St) (mm : Nat) (rg : Regs) (σ' : St) : Prop := ∃ i : Nat, mm = l.length - i ∧ i ≤ l.length ∧ inB (l.take i) n = false ∧ σ' = σ0 ∧ rg = [(0, v), (1, u64 n), (5, i64 i)]
theorem rin_c {σ : St} {v : AVal} {l : List S25} (hv : RgM σ v l) (n : Int) (hl : l.length ≤ 100000) (Q : AVal → St → Prop) (h : Q (.bool (inB l n)) σ) : ACall Try.prog 47 [v, u64 n] σ Q := by
  refine ACall.of_compF hmx (fun a w => Try.call47 a w) Try.func47 cf47 (n := 2) (by decide) rfl ?_
  have l1 := hv.len
  simp [ac47, rs47, lk_cons]
  refine wp_loop (InJ v n l σ) l.length ?_ ?_
  · exact ⟨0, rfl, Nat.zero_le _, rfl, rfl, rfl⟩
  · rintro mm rg σ' ⟨i, rfl, hi, hp, rfl, rfl⟩
    by_cases hlt : i < l.length
    · obtain ⟨x, hx⟩ : ∃ x, l[i]? = some x := ⟨_, List.getElem?_eq_getElem hlt⟩
      obtain ⟨k, hk⟩ : ∃ k, i + 1 = k := ⟨_, rfl⟩
      have w1 : IntKind.i64.wrap ((i : Int) + 1) = (k : Int) := by rw [IntWalk.i64_in] <;> omega
      obtain ⟨p, p1, _, ⟨q0, a1, a2⟩, ⟨q1, b1, b2⟩⟩ := hv.at hx (ρ := σ') fun _ _ => rfl
      have hst : inB (l.take k) n = decide (x.f0 ≤ n ∧ n < x.f1) := by
        rw [inB] at hp
        rw [← hk, List.take_add_one, hx, inB, List.any_append, hp]; simp
      by_cases h1 : x.f0 ≤ n
      · by_cases h2 : n < x.f1
        · have : inB l n = true := by rw [inB, List.any_eq_true]; exact ⟨x, List.mem_of_getElem? hx, by simp [h1, h2]⟩
          rw [this] at h
          simp [lk_cons, ↓l1, hlt, ↓p1, ↓a1, ↓a2, ↓b1, ↓b2, h1, h2]
          exact h
        · simp [lk_cons, ↓l1, hlt, ↓p1, ↓a1, ↓a2, ↓b1, ↓b2, h1, h2, w1]
          exact ⟨l.length - k, by omega, k, rfl, by omega, by rw [hst]; simp [h2], rfl, rfl⟩
      · simp [lk_cons, ↓l1, hlt, ↓p1, ↓a1, ↓a2, h1, w1]
        exact ⟨l.length - k, by omega, k, rfl, by omega, by rw [hst]; simp [h1], rfl, rfl⟩
    · have : i = l.length := by omega
      subst this
      rw [List.take_length] at hp
      rw [hp] at h
      simp [lk_cons, ↓l1]
      exact h

/-- Numbers that do not change. -/
def nc (ns : List Int) : List AVal := ns.map u64
def NI (v : AVal) (ns : List Int) : Prop := v = .nilsl ∧ ns = [] ∨ ∃ t, v = .isl (nc ns) ns.length t
theorem nc_len (ns : List Int) : (nc ns).length = ns.length := by simp [nc]
theorem nc_upto (lo : Nat) : ∀ ns : List Int, uptoL lo (nc ns) = true
  | [] => rfl
  | x :: t => by have := nc_upto lo t; simp [nc] at this ⊢; exact this
theorem NI.len {v : AVal} {ns : List Int} (h : NI v ns) (ρ : St) : evalV ρ (.len 1 v) = some (i64 ns.length, ρ) := by
  rcases h with ⟨rfl, rfl⟩ | ⟨t, rfl⟩ <;> simp
theorem NI.at {v : AVal} {ns : List Int} (h : NI v ns) {i : Nat} {y : Int} (hy : ns[i]? = some y) (ρ : St) : ∃ p, evalV ρ (.idxAddr 1 v (i64 i)) = some (p, ρ) ∧ evalV ρ (.ld1 p) = some (u64 y, ρ) := by
  have hi := (List.getElem?_eq_some_iff.1 hy).1
  rcases h with ⟨rfl, rfl⟩ | ⟨t, rfl⟩
  · simp at hy
  · have : ((nc ns).drop i).take 1 = [u64 y] := by
      rw [nc, ← List.map_drop, List.drop_eq_getElem_cons hi, (List.getElem?_eq_some_iff.1 hy).2]; rfl
    exact ⟨.iptr [u64 y], by simp [hi, this], by simp⟩

theorem putM_split (e : Int) : ∀ (l : List Int) (i : Nat), i ≤ l.length → (∀ y ∈ l.take i, y < e) → (∀ y, l[i]? = some y → ¬ y < e) → putM e l = l.take i ++ putM e (l.drop i)
  | l, 0, _, _, _ => by simp
  | [], i + 1, h, _, _ => by simp at h
  | y :: t, i + 1, h, h1, h2 => by
    have hy : y < e := h1 y (by simp)
    conv => lhs; unfold putM
    rw [if_pos hy, putM_split e t i (by simpa using h) (fun z hz => h1 z (by simp [hz])) (fun z hz => h2 z (by simpa using hz))]
    simp

def PutJ (v : AVal) (e : Int) (l : List Int) (σ0 : St) (mm : Nat) (rg : Regs) (σ' : St) : Prop := ∃ i : Nat, mm = l.length - i ∧ i ≤ l.length ∧ (∀ y ∈ l.take i, y < e) ∧ σ' = σ0 ∧ rg = [(0, v), (1, u64 e), (5, i64 i)]
theorem frz_nc {lo lo' : Nat} {m : Mem} {b : Nat} {l : List Int} {c : Nat} {t : Bool} (hb : lo ≤ b) (hm : m.get b = some (.cells 1 (nc l))) : ∃ v', frz lo m (.sl b 0 l.length c t) = some v' ∧ NI v' l := by
  have h := frz_sl (o := 0) (len := l.length) (cap := c) (t := t) hb hm (by rw [nc_len]; omega) (nc_upto _ l)
  rw [List.drop_zero, List.take_of_length_le (by rw [nc_len]; omega)] at h
  exact ⟨_, h, .inr ⟨_, rfl⟩⟩
theorem put_c (σ : St) {v : AVal} {l : List Int} (hv : NI v l) (e : Int) (hl : l.length ≤ 100000) (Q : AVal → St → Prop) (h : ∀ v', NI v' (putM e l) → Q v' σ) : ACall Try.prog 84 [v, u64 e] σ Q := by
  refine ACall.freeze ?_
  refine ACall.of_compF hmx (fun a w => Try.call84 a w) Try.func84 cf84 (n := 2) (by decide) rfl ?_
  have l1 := hv.len
  simp [ac84, rs84, lk_cons]
  refine wp_loop (PutJ v e l σ) l.length ?_ ?_
  · exact ⟨0, rfl, Nat.zero_le _, by simp, rfl, rfl⟩
  · rintro mm rg σ' ⟨i, rfl, hi, hp, rfl, rfl⟩
    by_cases hlt : i < l.length
    · obtain ⟨y, hy⟩ : ∃ y, l[i]? = some y := ⟨_, List.getElem?_eq_getElem hlt⟩
      have hye : l[i] = y := (List.getElem?_eq_some_iff.1 hy).2
      obtain ⟨k, hk⟩ : ∃ k, i + 1 = k := ⟨_, rfl⟩
      have w1 : IntKind.i64.wrap ((i : Int) + 1) = (k : Int) := by rw [IntWalk.i64_in] <;> omega
      obtain ⟨p, p1, p2⟩ := hv.at hy σ'
      by_cases h1 : y < e
      · simp [lk_cons, ↓l1, hlt, ↓p1, ↓p2, h1, w1]
        refine ⟨l.length - k, by omega, k, rfl, by omega, fun z hz => ?_, rfl, rfl⟩
        rw [← hk, List.take_add_one, hy] at hz
        rcases List.mem_append.1 hz with hz | hz
        · exact hp z hz
        · simp at hz; subst hz; exact h1
      · have hsp := putM_split e l i hi hp fun z hz => by rw [hy] at hz; cases hz; exact h1
        have hdr : l.drop i = y :: l.drop k := by rw [List.drop_eq_getElem_cons hlt, hye, hk]
        by_cases h2 : y = e
        · have : putM e l = l := by
            rw [hsp, hdr]; conv => lhs; unfold putM
            rw [if_neg h1, if_pos h2, ← hdr, List.take_append_drop]
          rw [this] at h
          simp [lk_cons, ↓l1, hlt, ↓p1, ↓p2, h1, h2]
          refine ⟨fun a ha => rfl, ?_⟩
          rcases hv with ⟨rfl, _⟩ | ⟨t, rfl⟩
          · exact ⟨_, rfl, h _ (.inl ⟨rfl, by assumption⟩)⟩
          · exact ⟨_, by simp only [frz, frz1]; simp [nc_upto], h _ (.inr ⟨t, rfl⟩)⟩
        · have hpm : putM e l = l.take i ++ e :: l.drop i := by
            rw [hsp, hdr]; conv => lhs; unfold putM
            rw [if_neg h1, if_neg h2]
          rw [hpm] at h
          rcases hv with ⟨rfl, rfl⟩ | ⟨t, rfl⟩
          · simp at hy
          have hc1 : ¬ l.length - i = 0 := by omega
          have fin : ∀ (nb : Nat) (σ'' : St) (kk : Nat), Old σ' σ'' → σ'.next ≤ nb → σ''.mem.get nb = some (.cells 1 (nc (l.take i ++ e :: l.drop i))) → kk = (l.take i ++ e :: l.drop i).length → Old σ' σ'' ∧ ∃ v', frz σ'.next σ''.mem (.sl nb 0 kk kk false) = some v' ∧ Q v' σ' := by
            intro nb σ'' kk a1 a2 a3 a5
            subst a5
            obtain ⟨v', f1, f2⟩ := frz_nc (lo' := 0) (c := (l.take i ++ e :: l.drop i).length) (t := false) a2 a3
            exact ⟨a1, v', f1, h v' f2⟩
          have hi8 : i * 8 ≤ 140737488355328 ∧ i ≤ 9223372036854775807 := by omega
          have hc8 : (i + 1) * 8 ≤ 140737488355328 ∧ i + 1 ≤ 9223372036854775807 := by omega
          have hd8 : (i + 1 + (l.length - i)) * 8 ≤ 140737488355328 ∧ i + 1 + (l.length - i) ≤ 9223372036854775807 := by omega
          simp [lk_cons, ↓l1, hlt, ↓p1, ↓p2, h1, h2, optM, asliceSl, bnd, hi, fillL, repL, srcL, storeL, nc_len, hc1]
          by_cases hi0 : i = 0
          · have hc9 : ¬ 1 + l.length ≤ 1 := by omega
            have hd9 : (1 + l.length) * 8 ≤ 140737488355328 ∧ 1 + l.length ≤ 9223372036854775807 := by omega
            have E1 : AVal.int .u64 e :: List.take l.length (nc l) = nc (l.take i ++ e :: l.drop i) := by
              rw [List.take_of_length_le (show (nc l).length ≤ l.length by rw [nc_len]; omega), hi0]; simp [nc]
            simp [lk_cons, hi0, fillL, repL, srcL, storeL, optM, asliceSl, bnd, nc_len, hc9, hd9]
            refine fin (σ'.next + 1 + 1 + 1) _ _ (fun a ha => by simp [show ¬ a = σ'.next by omega, show ¬ a = σ'.next + 1 by omega, show ¬ a = σ'.next + 1 + 1 by omega, show ¬ a = σ'.next + 1 + 1 + 1 by omega, show ¬ a = σ'.next + 1 + 1 + 1 + 1 by omega]) (by omega) (by rw [← E1]; simp) (by simp; omega)
          · have k1 : ¬ i + 1 ≤ i := by omega
            have k2 : ¬ i + 1 + (l.length - i) ≤ i + 1 := by omega
            have k3 : (nc l).length = l.length := nc_len l
            have k4 : min i l.length = i := by omega
            have k5 : ((nc l).take i).length = i := by rw [List.length_take, k3, k4]
            have E2 : List.take (i + 1) (List.take i (List.take i (nc l)) ++ [AVal.int .u64 e]) ++ List.take (l.length - i) (List.drop i (nc l)) = nc (l.take i ++ e :: l.drop i) := by
              rw [List.take_take, Nat.min_self, List.take_of_length_le (show ((nc l).take i ++ [AVal.int .u64 e]).length ≤ i + 1 by simp [k3, k4]), List.take_of_length_le (show ((nc l).drop i).length ≤ l.length - i by simp [k3])]
              simp [nc]
            simp [lk_cons, hi0, hi8, hc8, hd8, fillL, repL, srcL, storeL, optM, asliceSl, bnd, nc_len, hi, k1, k2, k4, hc1]
            refine fin (σ'.next + 1 + 1 + 1 + 1) _ _ (fun a ha => by simp [show ¬ a = σ'.next by omega, show ¬ a = σ'.next + 1 by omega, show ¬ a = σ'.next + 1 + 1 by omega, show ¬ a = σ'.next + 1 + 1 + 1 by omega, show ¬ a = σ'.next + 1 + 1 + 1 + 1 by omega]) (by omega) (by rw [← E2]; simp) (by simp; omega)
    · have hiN : i = l.length := by omega
      subst hiN
      have hpm : putM e l = l ++ [e] := by
        have := putM_split e l l.length (Nat.le_refl _) hp (fun y hy => by simp at hy)
        rw [this]; simp [putM]
      rw [hpm] at h
      have fin : ∀ (nb : Nat) (σ'' : St) (kk cc : Nat) (t : Bool), Old σ' σ'' → σ'.next ≤ nb → σ''.mem.get nb = some (.cells 1 (nc (l ++ [e]))) → kk = (l ++ [e]).length → Old σ' σ'' ∧ ∃ v', frz σ'.next σ''.mem (.sl nb 0 kk cc t) = some v' ∧ Q v' σ' := by
        intro nb σ'' kk cc t a1 a2 a3 a5
        subst a5
        obtain ⟨v', f1, f2⟩ := frz_nc (lo' := 0) (c := cc) (t := t) a2 a3
        exact ⟨a1, v', f1, h v' f2⟩
      have hi8 : l.length * 8 ≤ 140737488355328 ∧ l.length ≤ 9223372036854775807 := by omega
      have hc8 : (l.length + 1) * 8 ≤ 140737488355328 ∧ l.length + 1 ≤ 9223372036854775807 := by omega
      have k3 : (nc l).length = l.length := nc_len l
      have k1 : ¬ l.length + 1 ≤ l.length := by omega
      rcases hv with ⟨rfl, rfl⟩ | ⟨t, rfl⟩
      · simp [lk_cons, optM, asliceSl, bnd, fillL, repL, srcL, storeL, nc_len]
        exact fin (σ'.next + 1 + 1) _ 1 1 false (fun a ha => by simp [show ¬ a = σ'.next by omega, show ¬ a = σ'.next + 1 by omega, show ¬ a = σ'.next + 1 + 1 by omega]) (by omega) (by simp [nc]) (by simp)
      · by_cases hi0 : l.length = 0
        · have hl0 := List.length_eq_zero_iff.1 hi0
          subst hl0
          simp [lk_cons, optM, asliceSl, bnd, fillL, repL, srcL, storeL, nc_len, nc]
          exact fin (σ'.next + 1 + 1) _ 1 1 false (fun a ha => by simp [show ¬ a = σ'.next by omega, show ¬ a = σ'.next + 1 by omega, show ¬ a = σ'.next + 1 + 1 by omega]) (by omega) (by simp [nc]) (by simp)
        · have E3 : List.take l.length (List.take l.length (nc l)) ++ [AVal.int .u64 e] = nc (l ++ [e]) := by
            rw [List.take_take, Nat.min_self, List.take_of_length_le (show (nc l).length ≤ l.length by rw [nc_len]; omega)]; simp [nc]
          simp [lk_cons, optM, asliceSl, bnd, fillL, repL, srcL, storeL, k3, hi0, hi8, hc8, k1]
          exact fin (σ'.next + 1 + 1 + 1) _ _ _ false (fun a ha => by simp [show ¬ a = σ'.next by omega, show ¬ a = σ'.next + 1 by omega, show ¬ a = σ'.next + 1 + 1 by omega, show ¬ a = σ'.next + 1 + 1 + 1 by omega]) (by omega) (by rw [← E3]; simp) (by simp)
end Go.Proofs.Ytinfnpbglapjhaa.AM

/- The document's ranges: ends, Set. -/
namespace Go.Proofs.Ytinfnpbglapjhaa.AM
set_option maxRecDepth 100000
set_option linter.unusedVariables false
set_option linter.unusedSimpArgs false

theorem putM_len (e : Int) : ∀ l : List Int, (putM e l).length ≤ l.length + 1
  | [] => by simp [putM]
  | y :: t => by
    have := putM_len e t
    unfold putM
    split
    · simp; omega
    · split <;> simp
def EndJ (v : AVal) (l : List S25) (σ0 : St) (mm : Nat) (rg : Regs) (σ' : St) : Prop := ∃ (i : Nat) (ov : AVal) (acc : List Int), mm = l.length - i ∧ i ≤ l.length ∧ NI ov acc ∧ endsM l [] = endsM (l.drop i) acc ∧ acc.length ≤ 2 * i ∧ σ' = σ0 ∧ rg = [(0, v), (3, ov), (4, i64 i)]
theorem ends_c {σ : St} {v : AVal} {l : List S25} (hv : RgM σ v l) (hl : l.length ≤ 10000) (Q : AVal → St → Prop) (h : ∀ v', NI v' (endsM l []) → Q v' σ) : ACall Try.prog 66 [v] σ Q := by
  refine ACall.of_compF hmx (fun a w => Try.call66 a w) Try.func66 cf66 (n := 1) (by decide) rfl ?_
  have l1 := hv.len
  simp [ac66, rs66, lk_cons]
  refine wp_loop (EndJ v l σ) l.length ?_ ?_
  · exact ⟨0, .nilsl, [], rfl, Nat.zero_le _, .inl ⟨rfl, rfl⟩, rfl, Nat.zero_le _, rfl, rfl⟩
  · rintro mm rg σ' ⟨i, ov, acc, rfl, hi, ho, he, hal, rfl, rfl⟩
    by_cases hlt : i < l.length
    · obtain ⟨x, hx⟩ : ∃ x, l[i]? = some x := ⟨_, List.getElem?_eq_getElem hlt⟩
      have hdr : l.drop i = x :: l.drop (i + 1) := by rw [List.drop_eq_getElem_cons hlt, (List.getElem?_eq_some_iff.1 hx).2]
      obtain ⟨k, hk⟩ : ∃ k, i + 1 = k := ⟨_, rfl⟩
      have w1 : IntKind.i64.wrap ((i : Int) + 1) = (k : Int) := by rw [IntWalk.i64_in] <;> omega
      obtain ⟨p, p1, _, ⟨q0, a1, a2⟩, ⟨q1, b1, b2⟩⟩ := hv.at hx (ρ := σ') fun _ _ => rfl
      have g1 := putM_len x.f0 acc
      simp [lk_cons, ↓l1, hlt, ↓p1, ↓a1, ↓a2, ↓b1, ↓b2]
      refine put_c σ' ho x.f0 (by omega) _ fun v1 hv1 => ?_
      simp [lk_cons, ↓p1, ↓b1, ↓b2]
      refine put_c σ' hv1 x.f1 (by omega) _ fun v2 hv2 => ?_
      have g2 := putM_len x.f1 (putM x.f0 acc)
      simp [lk_cons, w1]
      exact ⟨l.length - k, by omega, k, v2, _, rfl, by omega, hv2, by rw [he, hdr, hk]; rfl, by omega, rfl, rfl⟩
    · have hiN : i = l.length := by omega
      subst hiN
      rw [List.drop_length] at he
      simp [lk_cons, ↓l1]
      exact h _ (he ▸ ho)

/-- The document's right ranges. -/
def rset (x y : List S25) : List S25 := setM x y [] (endsM (x ++ y) [])
theorem rset_spec {x y : List S25} (hx : ∀ z ∈ x, 0 ≤ z.f0 ∧ 0 ≤ z.f1 ∧ z.f1 ≤ 18446744073709551615) (hy : ∀ z ∈ y, 0 ≤ z.f0 ∧ 0 ≤ z.f1) : GoodR (rset x y) ∧ (∀ n, InP (rset x y) n ↔ InP x n ∧ ¬ InP y n) ∧ (rset x y).length ≤ 2 * (x.length + y.length) ∧ (endsM (x ++ y) []).length ≤ 2 * (x.length + y.length) := by
  have hp : ∀ z ∈ x ++ y, 0 ≤ z.f0 ∧ 0 ≤ z.f1 := fun z hz => by
    rcases List.mem_append.1 hz with h | h
    · exact ⟨(hx z h).1, (hx z h).2.1⟩
    · exact hy z h
  obtain ⟨e1, e2, e3⟩ := ends_spec (x ++ y) [] hp trivial
  simp only [List.length_append, List.length_nil] at e3
  have mx : ∀ z ∈ x, z.f0 ∈ endsM (x ++ y) [] ∧ z.f1 ∈ endsM (x ++ y) [] := fun z hz => ⟨(e2 _).2 (.inr ⟨z, List.mem_append.2 (.inl hz), .inl rfl⟩), (e2 _).2 (.inr ⟨z, List.mem_append.2 (.inl hz), .inr rfl⟩)⟩
  have my : ∀ z ∈ y, z.f0 ∈ endsM (x ++ y) [] ∧ z.f1 ∈ endsM (x ++ y) [] := fun z hz => ⟨(e2 _).2 (.inr ⟨z, List.mem_append.2 (.inr hz), .inl rfl⟩), (e2 _).2 (.inr ⟨z, List.mem_append.2 (.inr hz), .inr rfl⟩)⟩
  have key : Can (-1) (setM x y [] (endsM (x ++ y) [])) ∧ (∀ n, InP (setM x y [] (endsM (x ++ y) [])) n ↔ InP x n ∧ ¬ InP y n) ∧ (setM x y [] (endsM (x ++ y) [])).length ≤ 2 * (x.length + y.length) := by
    cases he : endsM (x ++ y) [] with
    | nil =>
      rw [he] at mx
      have hx0 : x = [] := by
        cases x with
        | nil => rfl
        | cons z t => exact absurd (mx z List.mem_cons_self).1 List.not_mem_nil
      subst hx0
      exact ⟨trivial, fun n => by simp [setM, InP], by simp [setM]⟩
    | cons a t =>
      rw [he] at mx my e1 e3
      obtain ⟨r1, r2, r3⟩ := set_spec mx my t a [] e1.2 (by have := e1.1; omega) (fun m hm => by
        rcases List.mem_cons.1 hm with rfl | h
        · exact .inl (Int.le_refl _)
        · exact .inr h) trivial (fun z hz => absurd hz List.not_mem_nil) (fun n => by
        constructor
        · exact fun h => absurd h (in_nil n)
        · rintro ⟨h1, ⟨z, hz, h2, h3⟩, _⟩
          have hm := (mx z hz).1
          rcases List.mem_cons.1 hm with h | h
          · omega
          · have := inc_mem e1.2 _ h; omega)
      refine ⟨r1, r2, ?_⟩
      simp only [List.length_cons, List.length_nil] at e3 r3
      omega
  refine ⟨⟨key.1, fun n hn => ?_⟩, key.2.1, key.2.2, by omega⟩
  obtain ⟨z, hz, h1, h2⟩ := ((key.2.1 n).1 hn).1
  have := hx z hz
  omega

def SetJ (v w ev : AVal) (x y : List S25) (e : List Int) (σ0 : St) (mm : Nat) (rg : Regs) (σ' : St) : Prop := ∃ (i : Nat) (ov : AVal) (acc : List S25), mm = e.length - i ∧ i ≤ e.length ∧ Grow σ0 σ' ∧ Out σ0.next σ' ov acc ∧ acc.length ≤ i ∧ setM x y [] e = setM x y acc (e.drop i) ∧ rg = [(0, v), (1, w), (5, ev), (6, ov), (7, i64 i)]

theorem Out.len {lo : Nat} {σ : St} {v : AVal} {l : List S25} (h : Out lo σ v l) (ρ : St) : evalV ρ (.len 1 v) = some (i64 l.length, ρ) := by
  rcases h with ⟨rfl, rfl⟩ | ⟨o, rfl, _⟩ <;> simp

theorem rc_at {l : List S25} {i : Nat} {x : S25} (h : l[i]? = some x) : (rc l)[i * 2 + 1]? = some (u64 x.f1) := by
  have hg := rc_get h
  have e1 : (rc l)[i * 2 + 1]? = (((rc l).drop (i * 2)).take 2)[1]? := by simp
  rw [e1, hg]; rfl
theorem rc_last (m : List S25) (z : S25) (c : Int) : (rc (m ++ [z])).set (m.length * 2 + 1) (u64 c) = rc (m ++ [⟨z.f0, c⟩]) := by
  rw [rc_app, rc_app, ← rc_len m]
  rw [List.set_append_right _ _ (by omega)]
  congr 1
  simp [rc]
theorem set_step (x y acc : List S25) (a c : Int) (t : List Int) : setM x y acc (a :: c :: t) = setM x y (if keepB x y a = true then pushM acc a c else acc) (c :: t) := rfl

set_option maxHeartbeats 2000000 in
theorem set_c {σ : St} {v w : AVal} {x y : List S25} (hv : RgM σ v x) (hw : RgM σ w y) (hlx : x.length + y.length ≤ 1000) (hx : ∀ z ∈ x, 0 ≤ z.f0 ∧ 0 ≤ z.f1 ∧ z.f1 ≤ 18446744073709551615) (hy : ∀ z ∈ y, 0 ≤ z.f0 ∧ 0 ≤ z.f1) (Q : AVal → St → Prop) (h : ∀ v', RgI v' (rset x y) → Q v' σ) : ACall Try.prog 34 [v, w] σ Q := by
  refine ACall.freeze ?_
  refine ACall.of_compF hmx (fun a w => Try.call34 a w) Try.func34 cf34 (n := 2) (by decide) rfl ?_
  obtain ⟨_, _, _, hel⟩ := rset_spec hx hy
  obtain ⟨e, he⟩ : ∃ e, endsM (x ++ y) [] = e := ⟨_, rfl⟩
  rw [he] at hel
  rw [rset, he] at h
  have main : ∀ (σ1 : St) (ev : AVal), Grow σ σ1 → NI ev e → SetJ v w ev x y e σ e.length [(0, v), (1, w), (5, ev), (6, .nilsl), (7, i64 0)] σ1 := fun σ1 ev hg hev => ⟨0, .nilsl, [], rfl, Nat.zero_le _, hg, .inl ⟨rfl, rfl⟩, Nat.zero_le _, rfl, rfl⟩
  have sx : ∀ ρ : St, (∀ a, a < σ.next → ρ.mem.get a = σ.mem.get a) → srcL ρ 2 v = some (rc x, x.length) := fun ρ hρ => hv.src hρ
  have sy : ∀ ρ : St, (∀ a, a < σ.next → ρ.mem.get a = σ.mem.get a) → srcL ρ 2 w = some (rc y, y.length) := fun ρ hρ => hw.src hρ
  have hb1 : x.length * 16 ≤ 140737488355328 ∧ x.length ≤ 9223372036854775807 := by omega
  have hb2 : y.length * 16 ≤ 140737488355328 ∧ y.length ≤ 9223372036854775807 := by omega
  have hb3 : (x.length + y.length) * 16 ≤ 140737488355328 ∧ x.length + y.length ≤ 9223372036854775807 := by omega
  have s1 := sx ⟨σ.mem.set σ.next (.cells 2 []), σ.next + 1⟩ fun a ha => by simp [show ¬ a = σ.next by omega]
  have u1 : ¬ σ.next + 1 = σ.next + 1 + 1 := by omega
  have g0 : ∀ (b1 b2 : Blk), Grow σ ⟨(σ.mem.set σ.next b1).set σ.next b2, σ.next + 1⟩ := fun b1 b2 => ⟨by simp, fun a ha => by simp [show ¬ a = σ.next by omega]⟩
  have g1 : ∀ (b1 b2 : Blk), Grow σ ⟨(σ.mem.set σ.next b1).set (σ.next + 1) b2, σ.next + 1 + 1⟩ := fun b1 b2 => ⟨by simp; omega, fun a ha => by simp [show ¬ a = σ.next by omega, show ¬ a = σ.next + 1 by omega]⟩
  have hl2 : (x ++ y).length ≤ 10000 := by simp; omega
  rcases Nat.eq_zero_or_pos x.length with hx0 | hx0 <;> rcases Nat.eq_zero_or_pos y.length with hy0 | hy0
  case' inl.inl =>
    have hxn := List.length_eq_zero_iff.1 hx0
    have hyn := List.length_eq_zero_iff.1 hy0
    have s2 := sy ⟨(σ.mem.set σ.next (.cells 2 [])).set σ.next (.cells 2 (storeL [] 0 (rc x))), σ.next + 1⟩ fun a ha => by simp [show ¬ a = σ.next by omega]
    simp [ac34, rs34, lk_cons, fillL, repL, s1, hx0, s2, hy0, hyn]
    refine ends_c (l := x ++ y) (.inr ⟨σ.next, 0, 0, true, [], by rw [hxn, hyn]; rfl, by rw [hxn, hyn]; simp, by simp, by simp [hxn, hyn, rc, storeL], by rw [hxn, hyn]; simp, by rw [hxn, hyn]; simp [rc]⟩) hl2 _ fun ev hev => ?_
    rw [he] at hev
    simp [lk_cons]
    refine wp_loop _ _ (main _ ev ?_ hev) ?_
    focus exact ⟨by simp, fun a ha => by simp [show ¬ a = σ.next by omega]⟩
  case' inl.inr =>
    replace hy0 : ¬ y.length = 0 := by omega
    have hxn := List.length_eq_zero_iff.1 hx0
    have hyn : ¬ y = [] := fun e => hy0 (by rw [e]; rfl)
    have s2 := sy ⟨(σ.mem.set σ.next (.cells 2 [])).set σ.next (.cells 2 (storeL [] 0 (rc x))), σ.next + 1⟩ fun a ha => by simp [show ¬ a = σ.next by omega]
    simp [ac34, rs34, lk_cons, fillL, repL, s1, hx0, s2, hy0, hyn, hb2]
    refine ends_c (l := x ++ y) (.inr ⟨σ.next + 1, 0, y.length, false, rc y, by rw [hxn]; rfl, by rw [hxn]; simp, by simp, by simp, by rw [hxn]; simp [rc_len], by rw [hxn]; simp [List.take_of_length_le (show (rc y).length ≤ y.length * 2 by rw [rc_len]; omega)]⟩) hl2 _ fun ev hev => ?_
    rw [he] at hev
    simp [lk_cons]
    refine wp_loop _ _ (main _ ev ?_ hev) ?_
    focus exact ⟨by simp; omega, fun a ha => by simp [show ¬ a = σ.next by omega, show ¬ a = σ.next + 1 by omega]⟩
  case' inr.inl =>
    replace hx0 : ¬ x.length = 0 := by omega
    have hyn := List.length_eq_zero_iff.1 hy0
    have s2 := sy ⟨(σ.mem.set σ.next (.cells 2 [])).set (σ.next + 1) (.cells 2 (rc x)), σ.next + 1 + 1⟩ fun a ha => by simp [show ¬ a = σ.next by omega, show ¬ a = σ.next + 1 by omega]
    have k1 : x.length * 2 ≤ (rc x).length := by rw [rc_len]; omega
    simp [ac34, rs34, lk_cons, fillL, repL, s1, hx0, s2, hb1, hy0, k1]
    refine ends_c (l := x ++ y) (.inr ⟨σ.next + 1, 0, x.length, false, rc x, by simp [hyn], by simp [hyn], by simp, by simp [hyn, rc, storeL], by rw [hyn]; simp [rc_len], by rw [hyn]; simp [List.take_of_length_le (show (rc x).length ≤ x.length * 2 by rw [rc_len]; omega)]⟩) hl2 _ fun ev hev => ?_
    rw [he] at hev
    simp [lk_cons]
    refine wp_loop _ _ (main _ ev ?_ hev) ?_
    focus exact ⟨by simp; omega, fun a ha => by simp [show ¬ a = σ.next by omega, show ¬ a = σ.next + 1 by omega]⟩
  case' inr.inr =>
    replace hx0 : ¬ x.length = 0 := by omega
    replace hy0 : ¬ y.length = 0 := by omega
    have s2 := sy ⟨(σ.mem.set σ.next (.cells 2 [])).set (σ.next + 1) (.cells 2 (rc x)), σ.next + 1 + 1⟩ fun a ha => by simp [show ¬ a = σ.next by omega, show ¬ a = σ.next + 1 by omega]
    have k1 : x.length * 2 ≤ (rc x).length := by rw [rc_len]; omega
    have k2 : ¬ x.length + y.length ≤ x.length := by omega
    have k3 : ¬ y = [] := fun e => hy0 (by rw [e]; rfl)
    have k4 : (rc x).take (x.length * 2) = rc x := List.take_of_length_le (by rw [rc_len]; omega)
    simp [ac34, rs34, lk_cons, fillL, repL, s1, hx0, s2, hb1, hy0, k1, k2, k3, hb3, k4]
    refine ends_c (l := x ++ y) (.inr ⟨σ.next + 1 + 1, 0, x.length + y.length, false, rc x ++ rc y, by rw [List.length_append], by rw [List.length_append]; exact Nat.le_refl _, by simp, by simp, by rw [List.length_append, List.length_append, rc_len, rc_len]; omega, by rw [rc_app]; simp [List.take_of_length_le (show (rc x ++ rc y).length ≤ (x.length + y.length) * 2 by simp [rc_len]; omega)]⟩) hl2 _ fun ev hev => ?_
    rw [he] at hev
    simp [lk_cons]
    refine wp_loop _ _ (main _ ev ?_ hev) ?_
    focus exact ⟨by simp; omega, fun a ha => by simp [show ¬ a = σ.next by omega, show ¬ a = σ.next + 1 by omega, show ¬ a = σ.next + 1 + 1 by omega]⟩
  all_goals
    clear s2 s1 u1 g0 g1
    rintro mm rg σ' ⟨i, ov, acc, rfl, hi, hg, ho, hal, hse, rfl⟩
    have l1 := hev.len
    have l2 := ho.len
    obtain ⟨k, hk⟩ : ∃ k, i + 1 = k := ⟨_, rfl⟩
    have w1 : IntKind.i64.wrap ((i : Int) + 1) = (k : Int) := by rw [IntWalk.i64_in] <;> omega
    have hvr : RgM σ' v x := hv.frame hg.1 hg.2
    have hwr : RgM σ' w y := hw.frame hg.1 hg.2
    by_cases hlt : k < e.length
    · obtain ⟨a, ha⟩ : ∃ a, e[i]? = some a := ⟨_, List.getElem?_eq_getElem (by omega)⟩
      obtain ⟨c, hc⟩ : ∃ c, e[k]? = some c := ⟨_, List.getElem?_eq_getElem hlt⟩
      obtain ⟨p, p1, p2⟩ := hev.at ha σ'
      obtain ⟨q, q1, q2⟩ := hev.at hc σ'
      have hd1 : e.drop i = a :: e.drop k := by rw [List.drop_eq_getElem_cons (by omega), (List.getElem?_eq_some_iff.1 ha).2, hk]
      have hd2 : e.drop k = c :: e.drop (k + 1) := by rw [List.drop_eq_getElem_cons hlt, (List.getElem?_eq_some_iff.1 hc).2]
      rw [hd1, hd2, set_step, ← hd2] at hse
      have skip : keepB x y a = false → ∃ m', m' < e.length - i ∧ SetJ v w ev x y e σ m' [(0, v), (1, w), (5, ev), (6, ov), (7, i64 k)] σ' := fun hkb => by
        rw [hkb] at hse
        exact ⟨e.length - k, by omega, k, ov, acc, rfl, by omega, hg, ho, by omega, hse, rfl⟩
      simp [lk_cons, ↓l1, w1, hlt, ↓p1, ↓p2]
      refine rin_c hvr a (by omega) _ ?_
      cases hbx : inB x a with
      | false =>
        simp [lk_cons, w1]
        exact skip (by simp [keepB, hbx])
      | true =>
        simp [lk_cons, ↓p1, ↓p2]
        refine rin_c hwr a (by omega) _ ?_
        cases hby : inB y a with
        | true =>
          simp [lk_cons, w1]
          exact skip (by simp [keepB, hby])
        | false =>
          have hkb : keepB x y a = true := by simp [keepB, hbx, hby]
          rw [hkb, if_pos rfl] at hse
          rcases List.eq_nil_or_concat acc with rfl | ⟨m, z, rfl⟩
          · rcases ho with ⟨rfl, _⟩ | ⟨o, rfl, h0, _⟩
            · simp [lk_cons, ↓l1, w1, ↓p1, ↓p2, ↓q1, ↓q2, fillL, repL, srcL, storeL]
              exact ⟨e.length - k, by omega, k, _, [⟨a, c⟩], rfl, by omega, ⟨by have := hg.1; simp; omega, fun b hb => by have := hg.1; simp [show ¬ b = σ'.next by omega, show ¬ b = σ'.next + 1 by omega]; exact hg.2 b hb⟩, .inr ⟨σ'.next + 1, rfl, by simp, by have := hg.1; omega, by simp, by simp [rc]⟩, by simp; omega, by rw [hse, push_nil], rfl⟩
            · simp at h0
          · rw [List.concat_eq_append] at *
            rcases ho with ⟨_, h0⟩ | ⟨o, rfl, h0, h1, h2, h3⟩
            · simp at h0
            · have hzz : (m ++ [z])[m.length]? = some z := by simp
              have hz1 := rc_at hzz
              have hl1 : (m ++ [z]).length = m.length + 1 := by simp
              have w2 : IntKind.i64.wrap (((m ++ [z]).length : Int) - 1) = (m.length : Int) := by rw [IntWalk.i64_in] <;> omega
              have hg1 := hg.1
              have w3 : IntKind.i64.wrap (((m.length + 1 : Nat) : Int) - 1) = (m.length : Int) := by rw [IntWalk.i64_in] <;> omega
              rw [hl1] at l2 hal
              have w4 : (0 : Int) < ((m.length + 1 : Nat) : Int) := by omega
              have hlt3 : (m.length : Int) < ((m.length + 1 : Nat) : Int) := by omega
              have hrl : m.length * 2 + 1 < (rc (m ++ [z])).length := by rw [rc_len, hl1]; omega
              have hl3 : m.length < m.length + 1 := by omega
              have i2 := push_snoc m z a c
              have w5 : IntKind.i64.wrap (m.length : Int) = (m.length : Int) := by rw [IntWalk.i64_in] <;> omega
              obtain ⟨hz2, hz3⟩ := List.getElem?_eq_some_iff.1 hz1
              have w7 : m.length * 2 + 1 + 1 ≤ (rc (m ++ [z])).length := by rw [rc_len, hl1]; omega
              have w6 : (m.length : Int) < (m.length : Int) + 1 := by omega
              by_cases hza : z.f1 = a
              · rw [if_pos hza] at i2
                rw [i2] at hse
                have hlast := rc_last m z c
                simp [lk_cons, ↓l1, ↓l2, w1, w5, w6, ↓p1, ↓p2, ↓q1, ↓q2, fillL, repL, srcL, storeL, h3, hz1, hz3, hza, hl1, hlast, hrl, w7]
                exact ⟨e.length - k, by omega, k, _, m ++ [⟨z.f0, c⟩], rfl, by omega, ⟨hg1, fun b hb => by simp [show ¬ b = o by omega]; exact hg.2 b hb⟩, .inr ⟨o, by simp, by simp, h1, h2, by simp⟩, by simp; omega, hse, rfl⟩
              · rw [if_neg hza] at i2
                have kk1 : ¬ m.length + 1 + 1 ≤ m.length + 1 := by omega
                have kk2 : (m.length + 1) * 2 ≤ (rc (m ++ [z])).length := by rw [rc_len, hl1]; omega
                have kk3 : (m.length + 1 + 1) * 16 ≤ 140737488355328 ∧ m.length + 1 + 1 ≤ 9223372036854775807 := by omega
                have kk4 : (rc (m ++ [z])).take ((m.length + 1) * 2) = rc (m ++ [z]) := List.take_of_length_le (by rw [rc_len, hl1]; omega)
                have kk5 : m.length ≤ 9223372036854775805 := by omega
                have kk6 : ¬ o = σ'.next := by omega
                rw [i2] at hse
                simp [lk_cons, ↓l1, ↓l2, w1, w5, w6, ↓p1, ↓p2, ↓q1, ↓q2, fillL, repL, srcL, storeL, h3, hz1, hz3, hza, hl1, kk1, kk2, kk3, kk4, kk5, kk6, Ne.symm kk6]
                exact ⟨e.length - k, by omega, k, _, m ++ [z] ++ [⟨a, c⟩], rfl, by omega, ⟨by simp; omega, fun b hb => by simp [show ¬ b = σ'.next by omega, show ¬ b = σ'.next + 1 by omega, show ¬ b = o by omega]; exact hg.2 b hb⟩, .inr ⟨σ'.next + 1, by simp, by simp, by omega, by simp, by rw [rc_app (m ++ [z])]; simp [rc]⟩, by simp; omega, hse, rfl⟩
    · have hsd : setM x y acc (e.drop i) = acc := by
        cases hd : e.drop i with
        | nil => rfl
        | cons a t =>
          have : t = [] := List.eq_nil_of_length_eq_zero (by have := congrArg List.length hd; simp at this; omega)
          subst this; rfl
      rw [hsd] at hse
      obtain ⟨v', f1, f2⟩ := ho.frz (Nat.le_refl _)
      simp [lk_cons, ↓l1, w1, hlt]
      exact ⟨fun a ha => hg.2 a ha, v', f1, h v' (hse ▸ f2)⟩
end Go.Proofs.Ytinfnpbglapjhaa.AM

/- Ranges: Right, Has, Check. -/
namespace Go.Proofs.Ytinfnpbglapjhaa.AM
set_option maxRecDepth 100000
set_option linter.unusedVariables false
set_option linter.unusedSimpArgs false

def HasJ (v : AVal) (n : Int) (l : List S25) (σ0 : St) (mm : Nat) (rg : Regs) (σ' : St) : Prop := ∃ i : Nat, mm = l.length - i ∧ i ≤ l.length ∧ inB l n = inB (l.drop i) n ∧ σ' = σ0 ∧ rg = [(0, v), (1, u64 n), (5, i64 i)]
theorem inB_cons (x : S25) (t : List S25) (n : Int) : inB (x :: t) n = (decide (x.f0 ≤ n ∧ n < x.f1) || inB t n) := by simp [inB]
theorem inB_behind {l : List S25} {x : S25} {b n : Int} (hc : Can b (x :: l)) (h : ¬ x.f0 ≤ n) : inB (x :: l) n = false := by
  rw [← Bool.not_eq_true, inB_iff]
  rintro ⟨z, hz, h1, h2⟩
  rcases List.mem_cons.1 hz with rfl | hz
  · omega
  · have := can_mem hc.2.2 z hz
    have := hc.2.1
    omega
theorem can_drop : ∀ {l : List S25} {b : Int} (i : Nat), Can b l → ∃ c, Can c (l.drop i)
  | l, b, 0, h => ⟨b, h⟩
  | [], b, i + 1, h => ⟨b, by simp [Can]⟩
  | x :: t, b, i + 1, h => can_drop i h.2.2
theorem has_c {σ : St} {v : AVal} {l : List S25} (hv : RgM σ v l) (hl : l.length < 1000000) {b : Int} (hc : Can b l) (n : Int) (Q : AVal → St → Prop) (h : Q (.bool (inB l n)) σ) : ACall Try.prog 45 [v, u64 n] σ Q := by
  refine ACall.of_compF hmx (fun a w => Try.call45 a w) Try.func45 cf45 (n := 2) (by decide) rfl ?_
  have l1 := hv.len
  obtain ⟨r1, r2, r3⟩ := cut_spec (a := n) hc
  simp [ac45, rs45, lk_cons]
  refine behind_c hv hl hc _ ?_
  have hic := in_cut (n := n) l
  obtain ⟨s, hs⟩ : ∃ s, cutM n l = s := ⟨_, rfl⟩
  rw [hs] at hic r1 ⊢
  simp [lk_cons]
  refine wp_loop (HasJ v n l σ) (l.length - s) ?_ ?_
  · exact ⟨s, rfl, r1, hic.symm, rfl, rfl⟩
  · rintro mm rg σ' ⟨i, rfl, hi, hp, rfl, rfl⟩
    by_cases hlt : i < l.length
    · obtain ⟨x, hx⟩ : ∃ x, l[i]? = some x := ⟨_, List.getElem?_eq_getElem hlt⟩
      obtain ⟨k, hk⟩ : ∃ k, i + 1 = k := ⟨_, rfl⟩
      have w1 : IntKind.i64.wrap ((i : Int) + 1) = (k : Int) := by rw [IntWalk.i64_in] <;> omega
      obtain ⟨p, p1, _, ⟨q0, a1, a2⟩, ⟨q1, b1, b2⟩⟩ := hv.at hx (ρ := σ') fun _ _ => rfl
      have hdr : l.drop i = x :: l.drop k := by rw [List.drop_eq_getElem_cons hlt, (List.getElem?_eq_some_iff.1 hx).2, hk]
      obtain ⟨c, hcd⟩ := can_drop i hc
      rw [hdr] at hp hcd
      by_cases h1 : x.f0 ≤ n
      · by_cases h2 : n < x.f1
        · have : inB l n = true := by rw [hp, inB_cons]; simp [h1, h2]
          rw [this] at h
          simp [lk_cons, ↓l1, hlt, ↓p1, ↓a1, ↓a2, ↓b1, ↓b2, h1, h2]
          exact h
        · simp [lk_cons, ↓l1, hlt, ↓p1, ↓a1, ↓a2, ↓b1, ↓b2, h1, h2, w1]
          exact ⟨l.length - k, by omega, k, rfl, by omega, by rw [hp, inB_cons]; simp [h2], rfl, rfl⟩
      · have : inB l n = false := by rw [hp]; exact inB_behind hcd h1
        rw [this] at h
        simp [lk_cons, ↓l1, hlt, ↓p1, ↓a1, ↓a2, h1]
        exact h
    · have : i = l.length := by omega
      subst this
      rw [List.drop_length] at hp
      have : inB l n = false := by rw [hp]; rfl
      rw [this] at h
      simp [lk_cons, ↓l1]
      exact h

def ChkJ (v : AVal) (l : List S25) (σ0 : St) (mm : Nat) (rg : Regs) (σ' : St) : Prop := ∃ i : Nat, mm = l.length - i ∧ i ≤ l.length ∧ Grow σ0 σ' ∧ rg = [(0, v), (5, v), (6, i64 l.length), (7, i64 i)]
/-- Right ranges are checked as right. -/
theorem check_c {σ : St} {v : AVal} {l : List S25} (hv : RgM σ v l) (hl : l.length < 1000000) {b : Int} (hc : Can b l) (Q : AVal → St → Prop) (h : Q (.bool true) σ) : ACall Try.prog 50 [v] σ Q := by
  refine ACall.scrub ?_
  refine ACall.of_compF hmx (fun a w => Try.call50 a w) Try.func50 cf50 (n := 1) (by decide) rfl ?_
  have l1 := hv.len
  simp [ac50, rs50, lk_cons, ↓l1]
  refine wp_loop (ChkJ v l σ) l.length ?_ ?_
  · exact ⟨0, rfl, Nat.zero_le _, Grow.refl _, rfl⟩
  · rintro mm rg σ' ⟨i, rfl, hi, hg, rfl⟩
    by_cases hlt : i < l.length
    · obtain ⟨x, hx⟩ : ∃ x, l[i]? = some x := ⟨_, List.getElem?_eq_getElem hlt⟩
      obtain ⟨k, hk⟩ : ∃ k, i + 1 = k := ⟨_, rfl⟩
      have w1 : IntKind.i64.wrap ((i : Int) + 1) = (k : Int) := by rw [IntWalk.i64_in] <;> omega
      obtain ⟨p, p1, p2, _, _⟩ := hv.at hx (ρ := σ') hg.2
      have hxm := can_mem hc x (List.mem_of_getElem? hx)
      have c1 : ¬ x.f1 ≤ x.f0 := by omega
      have hg1 := hg.1
      have gr : ∀ b0 b1 : Blk, Grow σ ⟨(σ'.mem.set σ'.next b0).set σ'.next b1, σ'.next + 1⟩ := fun b0 b1 => ⟨by simp; omega, fun a ha => by simp [show ¬ a = σ'.next by omega]; exact hg.2 a ha⟩
      by_cases hi0 : i = 0
      · have hi0' : ¬ (0 : Int) < (i : Int) := by omega
        have hi1 : ¬ 0 < i := by omega
        simp [lk_cons, hlt, ↓p1, ↓p2, storeL, c1, hi1, w1]
        exact ⟨l.length - k, by omega, k, rfl, by omega, gr _ _, rfl⟩
      · obtain ⟨j, hj⟩ : ∃ j, j + 1 = i := ⟨i - 1, by omega⟩
        obtain ⟨y, hy⟩ : ∃ y, l[j]? = some y := ⟨_, List.getElem?_eq_getElem (by omega)⟩
        have w2 : IntKind.i64.wrap ((i : Int) - 1) = (j : Int) := by rw [IntWalk.i64_in] <;> omega
        have hi1 : 0 < i := by omega
        have hlt2 : ¬ x.f0 ≤ y.f1 := by
          obtain ⟨c, hcd⟩ := can_drop j hc
          have hjl : j < l.length := by omega
          have hd : l.drop j = y :: x :: l.drop (i + 1) := by
            rw [List.drop_eq_getElem_cons hjl, (List.getElem?_eq_some_iff.1 hy).2, hj, List.drop_eq_getElem_cons hlt, (List.getElem?_eq_some_iff.1 hx).2]
          rw [hd] at hcd
          have := hcd.2.2.1
          omega
        have hgm : ∀ a, a < σ.next → (⟨(σ'.mem.set σ'.next (.cells 2 [u64 0, u64 0])).set σ'.next (.cells 2 [u64 x.f0, u64 x.f1]), σ'.next + 1⟩ : St).mem.get a = σ.mem.get a := (gr _ _).2
        obtain ⟨q, q1, _, _, ⟨r, r1, r2⟩⟩ := hv.at hy hgm
        simp [lk_cons, hlt, ↓p1, ↓p2, storeL, c1, hi1, w1, w2, ↓q1, ↓r1, ↓r2, hlt2]
        exact ⟨l.length - k, by omega, k, rfl, by omega, gr _ _, rfl⟩
    · have : i = l.length := by omega
      subst this
      simp [lk_cons]
      exact ⟨fun a ha => hg.2 a ha, h⟩

end Go.Proofs.Ytinfnpbglapjhaa.AM

/- What is added, what is taken away. -/
namespace Go.Proofs.Ytinfnpbglapjhaa.AM
open Go.RowKit
set_option maxRecDepth 100000
set_option linter.unusedVariables false
set_option linter.unusedSimpArgs false

/-- What the program adds. -/
def addL (lo hi : Int) (l : List S25) : List S25 := if lo < hi then addM lo hi l else l
theorem addL_spec {lo hi : Int} {l : List S25} (hl : GoodR l) (h0 : 0 ≤ lo) (h1 : hi ≤ 18446744073709551615) : GoodR (addL lo hi l) ∧ (∀ n, InP (addL lo hi l) n ↔ InP l n ∨ (lo ≤ n ∧ n < hi)) ∧ (addL lo hi l).length ≤ l.length + 1 := by
  unfold addL
  by_cases h : lo < hi
  · rw [if_pos h]
    obtain ⟨a1, a2, a3⟩ := addM_spec l (-1) lo hi h hl.1 (by omega)
    refine ⟨⟨a1, fun n hn => ?_⟩, a2, a3⟩
    rcases (a2 n).1 hn with h | h
    · exact hl.2 n h
    · omega
  · rw [if_neg h]
    exact ⟨hl, fun n => ⟨.inl, fun h' => h'.elim id fun h' => by omega⟩, by omega⟩
theorem addl_c {σ : St} {v : AVal} {l : List S25} (hv : RgM σ v l) (hl : l.length ≤ 10000) (lo hi : Int) (hc : GoodR l) (Q : AVal → St → Prop) (h : ∀ v', RgI v' (addL lo hi l) → Q v' σ) : ACall Try.prog 69 [v, .agg [u64 lo, u64 hi]] σ Q := by
  refine add_c hv hl lo hi hc.1 Q (fun hle v' hv' => h v' ?_) fun hlt v' hv' => h v' ?_
  · unfold addL; rw [if_neg (by omega)]; exact hv'
  · unfold addL; rw [if_pos hlt]; exact hv'
theorem remM_good {lo hi : Int} {l : List S25} (hl : GoodR l) : GoodR (remM lo hi l) ∧ (∀ n, InP (remM lo hi l) n ↔ InP l n ∧ ¬ (lo ≤ n ∧ n < hi)) := by
  obtain ⟨a1, a2, _⟩ := rem_spec lo hi l (-1) hl.1
  exact ⟨⟨a1, fun n hn => hl.2 n ((a2 n).1 hn).1⟩, a2⟩
theorem add_set {lo hi : Int} {l : List S25} (hl : GoodR l) (h0 : 0 ≤ lo) (h00 : 0 ≤ hi) (h1 : hi ≤ 18446744073709551615) : addL lo hi l = rset (l ++ [⟨lo, hi⟩]) [] := by
  obtain ⟨a1, a2, _⟩ := addL_spec hl h0 h1
  obtain ⟨s1, s2, _⟩ := rset_spec (x := l ++ [⟨lo, hi⟩]) (y := []) (fun z hz => by
    rcases List.mem_append.1 hz with hz | hz
    · have := good_mem hl z hz; omega
    · simp at hz; subst hz; exact ⟨h0, h00, h1⟩) (by simp)
  refine good_eq a1 s1 fun n => ?_
  rw [a2, s2, in_app]
  simp [InP]
theorem rem_set {lo hi : Int} {l : List S25} (hl : GoodR l) (h0 : 0 ≤ lo) (h00 : 0 ≤ hi) : remM lo hi l = rset l [⟨lo, hi⟩] := by
  obtain ⟨a1, a2⟩ := remM_good (lo := lo) (hi := hi) hl
  obtain ⟨s1, s2, _⟩ := rset_spec (x := l) (y := [⟨lo, hi⟩]) (fun z hz => by have := good_mem hl z hz; omega) (fun z hz => by simp at hz; subst hz; exact ⟨h0, h00⟩)
  refine good_eq a1 s1 fun n => ?_
  rw [a2, s2]
  simp [InP]

/-! ### Arguments -/

theorem u64_of {n : Int} (h : (Lit.int .u64 n).wf = true) : 0 ≤ n ∧ n ≤ 18446744073709551615 := by
  obtain ⟨k, rfl, hk⟩ := wf_u64 h
  omega
def RgArg (x : List AVal) : Prop := ∃ a b, x = a ++ b ∧ (∃ n, a = [.int .u64 n] ∧ (Lit.int .u64 n).wf = true) ∧ (∃ n, b = [.int .u64 n] ∧ (Lit.int .u64 n).wf = true)
theorem rgCells : ∀ xs : List (List AVal), (∀ x ∈ xs, x.length = 2 ∧ RgArg x) → ∃ l : List S25, xs.flatten = rc l ∧ l.length = xs.length ∧ ∀ z ∈ l, 0 ≤ z.f0 ∧ 0 ≤ z.f1 ∧ z.f1 ≤ 18446744073709551615
  | [], _ => ⟨[], rfl, rfl, by simp⟩
  | x :: xs, h => by
    obtain ⟨l, h1, h2, h3⟩ := rgCells xs fun y hy => h y (by simp [hy])
    obtain ⟨_, _, _, rfl, ⟨a, rfl, ha⟩, b, rfl, hb⟩ := h x (by simp)
    have a1 := u64_of ha
    have b1 := u64_of hb
    refine ⟨⟨a, b⟩ :: l, by simp [h1, rc], by simp [h2], fun z hz => ?_⟩
    rcases List.mem_cons.1 hz with rfl | hz
    · exact ⟨a1.1, b1.1, b1.2⟩
    · exact h3 z hz
theorem rgsArg {v : AVal} (h : [v] = [.nilsl] ∨ ∃ xs : List (List AVal), [v] = [.isl xs.flatten xs.length false] ∧ (∀ x ∈ xs, x.length = 2 ∧ RgArg x) ∧ xs.length ≤ 9223372036854775807 ∧ xs.length * 16 ≤ 140737488351232) : ∃ l : List S25, RgI v l ∧ l.length ≤ 9223372036854775807 ∧ ∀ z ∈ l, 0 ≤ z.f0 ∧ 0 ≤ z.f1 ∧ z.f1 ≤ 18446744073709551615 := by
  rcases h with h | ⟨xs, h, hx, hl, _⟩
  · cases h; exact ⟨[], .inl ⟨rfl, rfl⟩, by simp, by simp⟩
  · cases h
    obtain ⟨l, h1, h2, h3⟩ := rgCells xs hx
    exact ⟨l, .inr ⟨false, by rw [h1, h2]⟩, by omega, h3⟩
end Go.Proofs.Ytinfnpbglapjhaa.AM

/- Ledgers: order, size, at. -/
namespace Go.Proofs.Ytinfnpbglapjhaa.AM
set_option maxRecDepth 100000
set_option linter.unusedVariables false
set_option linter.unusedSimpArgs false

abbrev ps (a b : Int) : AVal := .agg [u64 a, u64 b]
abbrev la (x : Ld) : AVal := .agg [u64 x.f0, .bool x.f1, u64 x.f2]
theorem eqs_ps (ρ : St) (a b c d : Int) : evalV ρ (.eqs false [1, 1] (.agg [u64 a, u64 b]) (.agg [u64 c, u64 d])) = some (.bool (decide (a = c ∧ b = d)), ρ) := by
  simp only [evalV, shapeOk, keysEq, kShape, keyEq]
  cases h1 : (a == c) <;> cases h2 : (b == d) <;> simp_all
theorem nan_c (a : Int) (σ : St) (Q : AVal → St → Prop) (h : Q (.bool false) σ) : ACall Try.prog 73 [u64 a] σ Q := by
  refine ACall.of_compF hmx (fun a w => Try.call73 a w) Try.func73 cf73 (n := 1) (by decide) rfl ?_
  simp [ac73, rs73, lk_cons]
  exact h
theorem cmpu_c (a b : Int) (σ : St) (Q : AVal → St → Prop) (h : Q (i64 (cmpM a b)) σ) : ACall Try.prog 49 [u64 a, u64 b] σ Q := by
  refine ACall.of_compF hmx (fun a w => Try.call49 a w) Try.func49 cf49 (n := 2) (by decide) rfl ?_
  simp [ac49, rs49, lk_cons]
  refine nan_c _ _ _ ?_
  simp [lk_cons]
  refine nan_c _ _ _ ?_
  simp [lk_cons]
  unfold cmpM at h
  by_cases h1 : a < b
  · rw [if_pos h1] at h
    simp [lk_cons, h1]
    exact h
  · rw [if_neg h1] at h
    by_cases h2 : a > b
    · rw [if_pos h2] at h
      simp [lk_cons, h1, h2]
      exact h
    · rw [if_neg h2] at h
      simp [lk_cons, h1, h2]
      exact h
def OrJ (n : Nat) (t : Bool) (a b : Int) (σ0 : St) (mm : Nat) (rg : Regs) (σ' : St) : Prop := ∃ i : Nat, mm = 2 - i ∧ i ≤ 2 ∧ (1 ≤ i → a = 0) ∧ (2 ≤ i → b = 0) ∧ σ' = σ0 ∧ rg = [(3, i64 0), (6, .sl n 0 2 2 t), (7, i64 2), (8, i64 i)]
theorem or_c (a b : Int) (n : Nat) (t : Bool) (σ : St) (hm : σ.mem.get n = some (.cells 1 [i64 a, i64 b])) (Q : AVal → St → Prop) (h : Q (i64 (if a = 0 then b else a)) σ) : ACall Try.prog 48 [.sl n 0 2 2 t] σ Q := by
  refine ACall.of_compF hmx (fun a w => Try.call48 a w) Try.func48 cf48 (n := 1) (by decide) rfl ?_
  simp [ac48, rs48, lk_cons]
  refine wp_loop (OrJ n t a b σ) 2 ?_ ?_
  · exact ⟨0, rfl, by omega, by omega, by omega, rfl, rfl⟩
  · rintro mm rg σ' ⟨i, rfl, hi, h1, h2, rfl, rfl⟩
    have w0 : IntKind.i64.wrap (0 + 1) = 1 := by rw [IntWalk.i64_in] <;> omega
    have w1 : IntKind.i64.wrap (1 + 1) = 2 := by rw [IntWalk.i64_in] <;> omega
    rcases (by omega : i = 0 ∨ i = 1 ∨ i = 2) with rfl | rfl | rfl
    · by_cases ha : a = 0
      · simp [lk_cons, hm, ha, w0]
        exact ⟨1, by omega, 1, by omega, by omega, fun _ => rfl, by omega, rfl, rfl⟩
      · rw [if_neg ha] at h
        simp [lk_cons, hm, ha]
        exact h
    · have ha := h1 (by omega)
      rw [if_pos ha] at h
      by_cases hb : b = 0
      · simp [lk_cons, hm, hb, w1]
        exact ⟨2, by omega, by omega, fun _ => ha, fun _ => rfl, rfl, rfl⟩
      · simp [lk_cons, hm, hb]
        exact h
    · have ha := h1 (by omega)
      have hb := h2 (by omega)
      rw [if_pos ha, hb] at h
      simp [lk_cons]
      exact h
theorem size_c (x : Ld) (o : Int) (σ : St) (Q : AVal → St → Prop) (h : Q (u64 (szM x o)) σ) : ACall Try.prog 74 [la x, u64 o] σ Q := by
  refine ACall.scrub ?_
  refine ACall.of_compF hmx (fun a w => Try.call74 a w) Try.func74 cf74 (n := 2) (by decide) rfl ?_
  obtain ⟨i, c, n⟩ := x
  unfold szM at h
  cases c <;> simp at h <;> simp [ac74, rs74, lk_cons] <;> exact ⟨fun a ha => by simp [show ¬ a = σ.next by omega], h⟩
theorem rsize_c (x : Ld) (o : Int) (σ : St) (Q : AVal → St → Prop) (h : Q (u64 (szM x o)) σ) : ACall Try.prog 54 [la x, u64 o] σ Q := by
  refine ACall.scrub ?_
  refine ACall.of_compF hmx (fun a w => Try.call54 a w) Try.func54 cf54 (n := 2) (by decide) rfl ?_
  obtain ⟨i, c, n⟩ := x
  unfold szM at h
  cases c <;> simp at h <;> simp [ac54, rs54, lk_cons] <;> exact ⟨fun a ha => by simp [show ¬ a = σ.next by omega], h⟩
theorem at_c (pl pe id : Int) (σ : St) (Q : AVal → St → Prop) (h : Q (u64 (atM pl pe id)) σ) : ACall Try.prog 75 [ps pl pe, u64 id] σ Q := by
  refine ACall.scrub ?_
  refine ACall.of_compF hmx (fun a w => Try.call75 a w) Try.func75 cf75 (n := 2) (by decide) rfl ?_
  unfold atM at h
  by_cases h1 : pl < id
  · rw [if_pos h1] at h
    simp [ac75, rs75, lk_cons, h1]
    exact ⟨fun a ha => by simp [show ¬ a = σ.next by omega], h⟩
  · rw [if_neg h1] at h
    by_cases h2 : pl > id
    · rw [if_pos h2] at h
      simp [ac75, rs75, lk_cons, h1, h2]
      exact ⟨fun a ha => by simp [show ¬ a = σ.next by omega], h⟩
    · rw [if_neg h2] at h
      simp [ac75, rs75, lk_cons, h1, h2]
      exact ⟨fun a ha => by simp [show ¬ a = σ.next by omega], h⟩
/-- The place behind one that isn't the last. -/
theorem behindp_c (a b : Int) (hb : 0 ≤ b ∧ b < 18446744073709551615) (σ : St) (Q : AVal → St → Prop) (h : Q (ps a (b + 1)) σ) : ACall Try.prog 42 [ps a b] σ Q := by
  refine ACall.scrub ?_
  refine ACall.of_compF hmx (fun a w => Try.call42 a w) Try.func42 cf42 (n := 1) (by decide) rfl ?_
  have h1 : ¬ b = 18446744073709551615 := by omega
  have h2 : IntKind.u64.wrap (b + 1) = b + 1 := by rw [IntWalk.u64_in]; omega
  simp [ac42, rs42, lk_cons, h1, h2, storeL, fillL]
  exact ⟨fun a ha => by simp [show ¬ a = σ.next by omega, show ¬ a = σ.next + 1 by omega], h⟩
theorem rbehindp_c (a b : Int) (hb : 0 ≤ b ∧ b < 18446744073709551615) (σ : St) (Q : AVal → St → Prop) (h : Q (ps a (b + 1)) σ) : ACall Try.prog 44 [ps a b] σ Q := by
  refine ACall.scrub ?_
  refine ACall.of_compF hmx (fun a w => Try.call44 a w) Try.func44 cf44 (n := 1) (by decide) rfl ?_
  have h1 : ¬ b = 18446744073709551615 := by omega
  have h2 : IntKind.u64.wrap (b + 1) = b + 1 := by rw [IntWalk.u64_in]; omega
  simp [ac44, rs44, lk_cons, h1, h2, storeL, fillL]
  exact ⟨fun a ha => by simp [show ¬ a = σ.next by omega, show ¬ a = σ.next + 1 by omega], h⟩
theorem rorder_c (a b c d : Int) (σ : St) (Q : AVal → St → Prop) (h : Q (i64 (ordM a b c d)) σ) : ACall Try.prog 43 [ps a b, ps c d] σ Q := by
  refine ACall.scrub ?_
  refine ACall.of_compF hmx (fun a w => Try.call43 a w) Try.func43 cf43 (n := 2) (by decide) rfl ?_
  have fin : ∀ m : Mem, m = (σ.mem.set σ.next (.cells 2 [u64 a, u64 b])).set (σ.next + 1) (.cells 2 [u64 c, u64 d]) → ∀ x, x < σ.next → m.get x = σ.mem.get x := fun m hm x hx => by
    subst hm; simp [show ¬ x = σ.next by omega, show ¬ x = σ.next + 1 by omega]
  unfold ordM cmpM at h
  by_cases h1 : a < c
  · have : ¬ a > c := by omega
    simp [h1] at h
    simp [ac43, rs43, lk_cons, h1]
    exact ⟨fin _ rfl, h⟩
  · by_cases h2 : a = c
    · subst h2
      by_cases h3 : b < d
      · simp [h3] at h
        simp [ac43, rs43, lk_cons, h3]
        exact ⟨fin _ rfl, h⟩
      · by_cases h4 : b = d
        · subst h4
          simp at h
          simp [ac43, rs43, lk_cons, ↓eqs_ps]
          exact ⟨fin _ rfl, h⟩
        · have h5 : b > d := by omega
          simp [h3, h5] at h
          simp [ac43, rs43, lk_cons, h3, h4, ↓eqs_ps]
          exact ⟨fin _ rfl, h⟩
    · have h3 : a > c := by omega
      simp [h1, h3] at h
      simp [ac43, rs43, lk_cons, h1, h2, ↓eqs_ps]
      exact ⟨fin _ rfl, h⟩
theorem order_c (a b c d : Int) (σ : St) (Q : AVal → St → Prop) (h : Q (i64 (ordM a b c d)) σ) : ACall Try.prog 20 [ps a b, ps c d] σ Q := by
  refine ACall.scrub ?_
  refine ACall.of_compF hmx (fun a w => Try.call20 a w) Try.func20 cf20 (n := 2) (by decide) rfl ?_
  simp [ac20, rs20, lk_cons]
  refine cmpu_c _ _ _ _ ?_
  simp [lk_cons]
  refine cmpu_c _ _ _ _ ?_
  simp [lk_cons, fillL, storeL, repL]
  refine or_c (cmpM a c) (cmpM b d) _ _ _ (by simp) _ ?_
  simp [lk_cons]
  exact ⟨fun x hx => by simp [show ¬ x = σ.next by omega, show ¬ x = σ.next + 1 by omega, show ¬ x = σ.next + 1 + 1 by omega], h⟩

end Go.Proofs.Ytinfnpbglapjhaa.AM

/- Ledgers: Next, Between. -/
namespace Go.Proofs.Ytinfnpbglapjhaa.AM
set_option maxRecDepth 100000
set_option linter.unusedVariables false
set_option linter.unusedSimpArgs false

def ldc : List Ld → List AVal
  | [] => []
  | x :: t => u64 x.f0 :: .bool x.f1 :: u64 x.f2 :: ldc t
theorem ldc_len : ∀ l : List Ld, (ldc l).length = l.length * 3
  | [] => rfl
  | x :: t => by simp [ldc, ldc_len t]; omega
theorem ldc_drop : ∀ (l : List Ld) (i : Nat), (ldc l).drop (i * 3) = ldc (l.drop i)
  | [], i => by simp [ldc]
  | x :: t, 0 => by simp [ldc]
  | x :: t, i + 1 => by rw [show (i + 1) * 3 = i * 3 + 1 + 1 + 1 by omega]; simp [ldc, ldc_drop t i]
theorem ldc_get {l : List Ld} {i : Nat} {x : Ld} (h : l[i]? = some x) : ((ldc l).drop (i * 3)).take 3 = [u64 x.f0, .bool x.f1, u64 x.f2] := by
  have hi := (List.getElem?_eq_some_iff.1 h).1
  rw [ldc_drop, List.drop_eq_getElem_cons hi, (List.getElem?_eq_some_iff.1 h).2]
  simp [ldc]
theorem ldc_upto (lo : Nat) : ∀ l : List Ld, uptoL lo (ldc l) = true
  | [] => rfl
  | x :: t => by simp [ldc, ldc_upto lo t]
/-- Ledgers that do not change. -/
def LdI (v : AVal) (l : List Ld) : Prop := v = .nilsl ∧ l = [] ∨ ∃ t, v = .isl (ldc l) l.length t
theorem LdI.len {v : AVal} {l : List Ld} (h : LdI v l) (ρ : St) : evalV ρ (.len 1 v) = some (i64 l.length, ρ) := by
  rcases h with ⟨rfl, rfl⟩ | ⟨t, rfl⟩ <;> simp
theorem LdI.at {v : AVal} {l : List Ld} (h : LdI v l) {i : Nat} {x : Ld} (hx : l[i]? = some x) (ρ : St) :
    ∃ p, evalV ρ (.idxAddr 3 v (i64 i)) = some (p, ρ) ∧ evalV ρ (.ldn 3 p) = some (la x, ρ) ∧ ∃ q, evalV ρ (.fieldAddr 0 p) = some (q, ρ) ∧ evalV ρ (.ld1 q) = some (u64 x.f0, ρ) := by
  have hi := (List.getElem?_eq_some_iff.1 hx).1
  rcases h with ⟨rfl, rfl⟩ | ⟨t, rfl⟩
  · simp at hx
  · have e := ldc_get hx
    exact ⟨.iptr [u64 x.f0, .bool x.f1, u64 x.f2], by simp [hi, e], by simp, .iptr [u64 x.f0, .bool x.f1, u64 x.f2], by simp, by simp⟩

def NxJ (v : AVal) (o pl pe : Int) (l : List Ld) (σ0 : St) (mm : Nat) (rg : Regs) (σ' : St) : Prop := ∃ (i : Nat) (el ee : Int), mm = l.length - i ∧ i ≤ l.length ∧ nextM o pl pe 0 0 l = nextM o pl pe el ee (l.drop i) ∧ Grow σ0 σ' ∧ σ0.next + 1 + 1 + 1 ≤ σ'.next ∧
  σ'.mem.get σ0.next = some (.cells 2 [u64 pl, u64 pe]) ∧ σ'.mem.get (σ0.next + 1) = some (.cells 2 [u64 0, u64 0]) ∧ σ'.mem.get (σ0.next + 1 + 1) = some (.cells 2 [u64 el, u64 ee]) ∧
  rg = [(1, u64 o), (5, .ptr σ0.next 0), (6, .ptr (σ0.next + 1) 0), (8, .ptr (σ0.next + 1 + 1) 0), (14, v), (15, i64 l.length), (16, i64 i)]
/-- The place that a search says, and whether. -/
abbrev np (r : Int × Int × Bool) : AVal := .tup [ps r.1 r.2.1, .bool r.2.2]
theorem next_c {v : AVal} {l : List Ld} (hv : LdI v l) (hl : l.length ≤ 1000000) (o pl pe : Int) (σ : St) (Q : AVal → St → Prop) (h : Q (np (nextM o pl pe 0 0 l)) σ) : ACall Try.prog 51 [v, u64 o, ps pl pe] σ Q := by
  refine ACall.scrub ?_
  refine ACall.of_compF hmx (fun a w => Try.call51 a w) Try.func51 cf51 (n := 3) (by decide) rfl ?_
  have l1 := hv.len
  simp [ac51, rs51, lk_cons, ↓l1, fillL, storeL]
  refine wp_loop (NxJ v o pl pe l σ) l.length ?_ ?_
  · exact ⟨0, 0, 0, rfl, Nat.zero_le _, rfl, ⟨by simp; omega, fun a ha => by simp [show ¬ a = σ.next by omega, show ¬ a = σ.next + 1 by omega, show ¬ a = σ.next + 1 + 1 by omega]⟩, by simp, by simp [show ¬ σ.next = σ.next + 1 + 1 by omega], by simp, by simp, rfl⟩
  · rintro mm rg σ' ⟨i, el, ee, rfl, hi, hp, hg, hn, m1, m2, m3, rfl⟩
    have gold : ∀ a, a < σ.next → σ'.mem.get a = σ.mem.get a := hg.2
    by_cases hlt : i < l.length
    · obtain ⟨x, hx⟩ : ∃ x, l[i]? = some x := ⟨_, List.getElem?_eq_getElem hlt⟩
      obtain ⟨k, hk⟩ : ∃ k, i + 1 = k := ⟨_, rfl⟩
      have w1 : IntKind.i64.wrap ((i : Int) + 1) = (k : Int) := by rw [IntWalk.i64_in] <;> omega
      obtain ⟨p, p1, p2, _⟩ := hv.at hx σ'
      have hdr : l.drop i = x :: l.drop k := by rw [List.drop_eq_getElem_cons hlt, (List.getElem?_eq_some_iff.1 hx).2, hk]
      rw [hdr] at hp
      have z1 : ¬ σ.next = σ'.next := by omega
      have z2 : ¬ σ.next + 1 = σ'.next := by omega
      have z3 : ¬ σ.next + 1 + 1 = σ'.next := by omega
      simp [lk_cons, hlt, ↓p1, ↓p2, storeL, fillL]
      refine size_c x o _ _ ?_
      simp [lk_cons, m1, z1]
      refine at_c pl pe x.f0 _ _ ?_
      by_cases hc : atM pl pe x.f0 < szM x o
      · have hr : nextM o pl pe el ee (x :: l.drop k) = (x.f0, atM pl pe x.f0, true) := by simp only [nextM]; rw [if_pos hc]
        rw [hp, hr] at h
        simp [lk_cons, hc, fillL, storeL, m2, z1, z2, z3]
        refine ⟨fun a ha => ?_, h⟩
        simp [show ¬ a = σ'.next by omega, show ¬ a = σ.next + 1 by omega]
        exact gold a ha
      · have hr : nextM o pl pe el ee (x :: l.drop k) = nextM o pl pe x.f0 (szM x o) (l.drop k) := by simp only [nextM]; rw [if_neg hc]
        simp [lk_cons, hc, fillL, storeL, m3, z1, z2, z3, w1]
        refine ⟨l.length - k, by omega, k, x.f0, szM x o, rfl, by omega, by rw [hp, hr], ⟨by simp; omega, fun a ha => ?_⟩, by simp; omega, ?_, ?_, by simp, rfl⟩
        · simp [show ¬ a = σ'.next by omega, show ¬ a = σ.next + 1 + 1 by omega]
          exact gold a ha
        · simp [z1, show ¬ σ.next = σ.next + 1 + 1 by omega]; exact m1
        · simp [z2, show ¬ σ.next + 1 = σ.next + 1 + 1 by omega]; exact m2
    · have : i = l.length := by omega
      subst this
      rw [List.drop_length] at hp
      have hr : nextM o pl pe el ee [] = (el, ee, false) := rfl
      rw [hp, hr] at h
      simp [lk_cons, m3, m2, storeL]
      refine ⟨fun a ha => ?_, h⟩
      simp [show ¬ a = σ.next + 1 by omega]
      exact gold a ha

end Go.Proofs.Ytinfnpbglapjhaa.AM

/- Ledgers: Has, Between, All. -/
namespace Go.Proofs.Ytinfnpbglapjhaa.AM
set_option maxRecDepth 100000
set_option linter.unusedVariables false
set_option linter.unusedSimpArgs false

def hasM (o pl pe : Int) (l : List Ld) : Bool := (nextM o pl pe 0 0 l).2.2 && decide ((nextM o pl pe 0 0 l).1 = pl ∧ (nextM o pl pe 0 0 l).2.1 = pe)
theorem has13_c {v : AVal} {l : List Ld} (hv : LdI v l) (hl : l.length ≤ 1000000) (o pl pe : Int) (σ : St) (Q : AVal → St → Prop) (h : Q (.bool (hasM o pl pe l)) σ) : ACall Try.prog 22 [v, u64 o, ps pl pe] σ Q := by
  refine ACall.scrub ?_
  refine ACall.of_compF hmx (fun a w => Try.call22 a w) Try.func22 cf22 (n := 3) (by decide) rfl ?_
  simp [ac22, rs22, lk_cons, storeL]
  refine next_c hv hl o pl pe _ _ ?_
  unfold hasM at h
  obtain ⟨r, hr⟩ : ∃ r, nextM o pl pe 0 0 l = r := ⟨_, rfl⟩
  rw [hr] at h ⊢
  obtain ⟨a, b, c⟩ := r
  cases c with
  | false =>
    simp at h
    simp [lk_cons, storeL]
    exact ⟨fun a ha => by simp [show ¬ a = σ.next by omega, show ¬ a = σ.next + 1 by omega], h⟩
  | true =>
    simp at h
    simp [lk_cons, storeL, ↓eqs_ps]
    exact ⟨fun a ha => by simp [show ¬ a = σ.next by omega, show ¬ a = σ.next + 1 by omega], h⟩

def BwJ (v : AVal) (o al ae bl be : Int) (l : List Ld) (σ0 : St) (mm : Nat) (rg : Regs) (σ' : St) : Prop := ∃ (i : Nat) (n : Int), mm = l.length - i ∧ i ≤ l.length ∧ 0 ≤ n ∧ n + sumB o al ae bl be (l.drop i) = sumB o al ae bl be l ∧ Grow σ0 σ' ∧ σ0.next + 1 + 1 ≤ σ'.next ∧
  σ'.mem.get σ0.next = some (.cells 2 [u64 al, u64 ae]) ∧ σ'.mem.get (σ0.next + 1) = some (.cells 2 [u64 bl, u64 be]) ∧
  rg = [(1, u64 o), (6, .ptr σ0.next 0), (7, .ptr (σ0.next + 1) 0), (9, u64 n), (14, v), (15, i64 l.length), (16, i64 i)]
theorem between_c {v : AVal} {l : List Ld} (hv : LdI v l) (hl : l.length ≤ 64) {o : Int} (hs : ∀ x ∈ l, 0 ≤ szM x o ∧ szM x o ≤ 1099511627776) {al ae bl be : Int} (ha : 0 ≤ ae) (hb : 0 ≤ be) (σ : St) (Q : AVal → St → Prop) (h : Q (u64 (sumB o al ae bl be l)) σ) : ACall Try.prog 53 [v, u64 o, ps al ae, ps bl be] σ Q := by
  refine ACall.scrub ?_
  refine ACall.of_compF hmx (fun a w => Try.call53 a w) Try.func53 cf53 (n := 4) (by decide) rfl ?_
  have l1 := hv.len
  have hB := sumB_bd' (al := al) (bl := bl) ha hb l hs
  simp [ac53, rs53, lk_cons, ↓l1]
  refine wp_loop (BwJ v o al ae bl be l σ) l.length ?_ ?_
  · exact ⟨0, 0, rfl, Nat.zero_le _, Int.le_refl _, by simp, ⟨by simp; omega, fun a ha => by simp [show ¬ a = σ.next by omega, show ¬ a = σ.next + 1 by omega]⟩, by simp, by simp, by simp, rfl⟩
  · rintro mm rg σ' ⟨i, n, rfl, hi, h0, hp, hg, hn, m1, m2, rfl⟩
    have gold : ∀ a, a < σ.next → σ'.mem.get a = σ.mem.get a := hg.2
    by_cases hlt : i < l.length
    · obtain ⟨x, hx⟩ : ∃ x, l[i]? = some x := ⟨_, List.getElem?_eq_getElem hlt⟩
      obtain ⟨k, hk⟩ : ∃ k, i + 1 = k := ⟨_, rfl⟩
      have w1 : IntKind.i64.wrap ((i : Int) + 1) = (k : Int) := by rw [IntWalk.i64_in] <;> omega
      obtain ⟨p, p1, p2, _⟩ := hv.at hx σ'
      have hdr : l.drop i = x :: l.drop k := by rw [List.drop_eq_getElem_cons hlt, (List.getElem?_eq_some_iff.1 hx).2, hk]
      rw [hdr] at hp
      have hc := con_bd' (al := al) (bl := bl) (hs x (List.mem_of_getElem? hx)) ha hb
      have hB2 := sumB_bd' (al := al) (bl := bl) ha hb (l.drop k) fun y hy => hs y (List.mem_of_mem_drop hy)
      simp only [sumB] at hp
      have z1 : ¬ σ.next = σ'.next := by omega
      have z2 : ¬ σ.next + 1 = σ'.next := by omega
      simp [lk_cons, hlt, ↓p1, ↓p2, storeL, fillL, m1, m2, z1, z2]
      refine at_c al ae x.f0 _ _ ?_
      simp [lk_cons, m1, m2, z1, z2]
      refine size_c x o _ _ ?_
      simp [lk_cons, m1, m2, z1, z2]
      refine at_c bl be x.f0 _ _ ?_
      simp [lk_cons, m1, m2, z1, z2]
      refine size_c x o _ _ ?_
      obtain ⟨A, hA⟩ : ∃ A, mn (atM al ae x.f0) (szM x o) = A := ⟨_, rfl⟩
      obtain ⟨B, hBB⟩ : ∃ B, mn (atM bl be x.f0) (szM x o) = B := ⟨_, rfl⟩
      have eA : (if szM x o < atM al ae x.f0 then szM x o else atM al ae x.f0) = A := hA
      have eB : (if szM x o < atM bl be x.f0 then szM x o else atM bl be x.f0) = B := hBB
      have ec : con o al ae bl be x = if B > A then B - A else 0 := by unfold con; rw [hA, hBB]
      rw [ec] at hc hp
      by_cases hgt : B > A
      · rw [if_pos hgt] at hp hc
        have w2 : IntKind.u64.wrap (B - A) = B - A := by rw [IntWalk.u64_in]; omega
        have w3 : IntKind.u64.wrap (n + (B - A)) = n + (B - A) := by rw [IntWalk.u64_in]; omega
        simp [lk_cons, m1, m2, z1, z2, eA, eB, hgt, w1, w2, w3]
        refine ⟨l.length - k, by omega, k, n + (B - A), rfl, by omega, by omega, by omega, ⟨by simp; omega, fun a ha => ?_⟩, by simp; omega, ?_, ?_, rfl⟩
        · simp [show ¬ a = σ'.next by omega]; exact gold a ha
        · simp [z1]; exact m1
        · simp [z2]; exact m2
      · rw [if_neg hgt] at hp hc
        simp [lk_cons, m1, m2, z1, z2, eA, eB, hgt, w1]
        refine ⟨l.length - k, by omega, k, n, rfl, by omega, by omega, by omega, ⟨by simp; omega, fun a ha => ?_⟩, by simp; omega, ?_, ?_, rfl⟩
        · simp [show ¬ a = σ'.next by omega]; exact gold a ha
        · simp [z1]; exact m1
        · simp [z2]; exact m2
    · have : i = l.length := by omega
      subst this
      rw [List.drop_length] at hp
      simp only [sumB] at hp
      have : n = sumB o al ae bl be l := by omega
      subst this
      simp [lk_cons]
      exact ⟨gold, h⟩

end Go.Proofs.Ytinfnpbglapjhaa.AM

/- Ledgers: All, the document's Next. -/
namespace Go.Proofs.Ytinfnpbglapjhaa.AM
set_option maxRecDepth 100000
set_option linter.unusedVariables false
set_option linter.unusedSimpArgs false

theorem Out.set {lo : Nat} {σ' : St} {v : AVal} {l : List S25} (h : Out lo σ' v l) (b : Blk) : Out lo ⟨σ'.mem.set σ'.next b, σ'.next + 1⟩ v l := by
  rcases h with h | ⟨o, h1, h2, h3, h4, h5⟩
  · exact .inl h
  · exact .inr ⟨o, h1, h2, h3, by show o < σ'.next + 1; omega, by show (σ'.mem.set σ'.next b).get o = _; rw [Mem.get_set_ne _ _ (by omega)]; exact h5⟩
theorem out_app {lo : Nat} {ρ : St} {ov : AVal} {acc : List S25} (ho : Out lo ρ ov acc) (hacc : acc.length ≤ 100000) {b : Nat} {x y : Int} (hb : ρ.mem.get b = some (.cells 2 [u64 x, u64 y])) (hlo : lo ≤ ρ.next) :
    ∃ w ρ', evalV ρ (.append 2 16 ov (.sl b 0 1 1 true)) = some (w, ρ') ∧ Out lo ρ' w (acc ++ [⟨x, y⟩]) ∧ ρ'.next = ρ.next + 1 ∧ ∀ a, a < lo → ρ'.mem.get a = ρ.mem.get a := by
  rcases ho with ⟨rfl, rfl⟩ | ⟨o, rfl, h2, h3, h4, h5⟩
  · refine ⟨.sl ρ.next 0 1 1 false, ⟨ρ.mem.set ρ.next (.cells 2 [u64 x, u64 y]), ρ.next + 1⟩, by simp [srcL, hb], .inr ⟨ρ.next, rfl, by simp, hlo, Nat.lt_succ_self _, by simp [rc]⟩, rfl, fun a ha => ?_⟩
    simp [show ¬ a = ρ.next by omega]
  · have k1 : ¬ acc.length + 1 ≤ acc.length := by omega
    have k2 : acc.length * 2 ≤ (rc acc).length := by rw [rc_len]; omega
    have k3 : (acc.length + 1) * 16 ≤ 140737488355328 ∧ acc.length ≤ 9223372036854775806 := by omega
    have k4 : (rc acc).take (acc.length * 2) = rc acc := List.take_of_length_le (by rw [rc_len]; omega)
    refine ⟨.sl ρ.next 0 (acc.length + 1) (acc.length + 1) false, ⟨(ρ.mem.del o).set ρ.next (.cells 2 (rc acc ++ [u64 x, u64 y])), ρ.next + 1⟩, by simp [srcL, hb, h5, k1, k2, k3, k4], .inr ⟨ρ.next, by simp, by simp, hlo, Nat.lt_succ_self _, by simp [rc_app, rc]⟩, rfl, fun a ha => ?_⟩
    simp [show ¬ a = ρ.next by omega, show ¬ a = o by omega]

def AlJ2 (v : AVal) (o : Int) (i sz : Nat) (id : Int) (acc0 : List S25) (σ0 : St) (mm : Nat) (rg : Regs) (σ' : St) : Prop := ∃ (e : Nat) (ov : AVal), mm = sz - e ∧ e ≤ sz ∧ Grow σ0 σ' ∧ Out σ0.next σ' ov (acc0 ++ (List.range e).map fun j : Nat => (⟨id, (j : Int)⟩ : S25)) ∧ rg = [(0, v), (1, u64 o), (5, ov), (6, i64 i), (7, u64 sz), (8, u64 e)]
def AlJ (v : AVal) (o : Int) (l : List Ld) (σ0 : St) (mm : Nat) (rg : Regs) (σ' : St) : Prop := ∃ (i : Nat) (ov : AVal) (acc : List S25), mm = l.length - i ∧ i ≤ l.length ∧ Grow σ0 σ' ∧ Out σ0.next σ' ov acc ∧ acc ++ allM o (l.drop i) = allM o l ∧ rg = [(0, v), (1, u64 o), (5, ov), (6, i64 i)]
theorem all_c {v : AVal} {l : List Ld} (hv : LdI v l) (hl : l.length ≤ 64) {o : Int} (hs : ∀ x ∈ l, 0 ≤ szM x o ∧ szM x o ≤ 100) (σ : St) (Q : AVal → St → Prop) (h : ∀ v', RgI v' (allM o l) → Q v' σ) : ACall Try.prog 27 [v, u64 o] σ Q := by
  refine ACall.freeze ?_
  refine ACall.of_compF hmx (fun a w => Try.call27 a w) Try.func27 cf27 (n := 2) (by decide) rfl ?_
  have l1 := hv.len
  have hA := all_len l hs
  simp [ac27, rs27, lk_cons]
  refine wp_loop (AlJ v o l σ) l.length ?_ ?_
  · exact ⟨0, .nilsl, [], rfl, Nat.zero_le _, Grow.refl _, .inl ⟨rfl, rfl⟩, rfl, rfl⟩
  · rintro mm rg σ1 ⟨i, ov, acc, rfl, hi, hg, ho, hp, rfl⟩
    by_cases hlt : i < l.length
    · obtain ⟨x, hx⟩ : ∃ x, l[i]? = some x := ⟨_, List.getElem?_eq_getElem hlt⟩
      obtain ⟨k, hk⟩ : ∃ k, i + 1 = k := ⟨_, rfl⟩
      have w1 : IntKind.i64.wrap ((i : Int) + 1) = (k : Int) := by rw [IntWalk.i64_in] <;> omega
      obtain ⟨p, p1, p2, q, q1, q2⟩ := hv.at hx σ1
      have hdr : l.drop i = x :: l.drop k := by rw [List.drop_eq_getElem_cons hlt, (List.getElem?_eq_some_iff.1 hx).2, hk]
      rw [hdr] at hp
      simp only [allM] at hp
      have hxs := hs x (List.mem_of_getElem? hx)
      obtain ⟨sz, hsz⟩ : ∃ sz : Nat, szM x o = (sz : Int) := ⟨(szM x o).toNat, by omega⟩
      have hrow : row1 o x = (List.range sz).map fun j : Nat => (⟨x.f0, (j : Int)⟩ : S25) := by unfold row1; rw [hsz]; simp
      have hbd : acc.length + sz ≤ 100 * l.length := by
        have := congrArg List.length hp
        simp only [List.length_append, hrow, List.length_map, List.length_range] at this
        omega
      simp [lk_cons, ↓l1, hlt, ↓p1, ↓p2]
      refine rsize_c x o _ _ ?_
      rw [hsz]
      simp [lk_cons]
      refine wp_loop (AlJ2 v o i sz x.f0 acc σ) sz ?_ ?_
      · exact ⟨0, ov, rfl, Nat.zero_le _, hg, by simpa using ho, rfl⟩
      · rintro m2 rg2 σ2 ⟨e, ov2, rfl, he, hg2, ho2, rfl⟩
        by_cases hlt2 : e < sz
        · obtain ⟨k2, hk2⟩ : ∃ k, e + 1 = k := ⟨_, rfl⟩
          have w2 : IntKind.u64.wrap ((e : Int) + 1) = (k2 : Int) := by rw [IntWalk.u64_in] <;> omega
          obtain ⟨p', p1', p2', q', q1', q2'⟩ := hv.at hx σ2
          obtain ⟨w, ρ', e1, e2, e3, e4⟩ := out_app (b := σ2.next) (x := x.f0) (y := (e : Int)) (ho2.set (.cells 2 [u64 x.f0, u64 (e : Int)])) (by simp; omega) (by simp) (by have := hg2.1; simp; omega)
          simp [lk_cons, ↓l1, hlt2, ↓p1', ↓q1', ↓q2', fillL, storeL, repL, ↓e1, w2]

          refine ⟨sz - k2, by omega, k2, w, rfl, by omega, ⟨by rw [e3]; have := hg2.1; simp; omega, fun a ha => ?_⟩, ?_, rfl⟩
          · rw [e4 a ha]
            have := hg2.1
            simp [show ¬ a = σ2.next by omega]
            exact hg2.2 a ha
          · rw [← hk2, List.range_succ, List.map_append, ← List.append_assoc]
            exact e2
        · have : e = sz := by omega
          subst this
          simp [lk_cons, w1]
          exact ⟨l.length - k, by omega, k, ov2, _, rfl, by omega, hg2, ho2, by rw [← hrow, List.append_assoc]; exact hp, rfl⟩
    · have : i = l.length := by omega
      subst this
      rw [List.drop_length] at hp
      simp only [allM, List.append_nil] at hp
      subst hp
      obtain ⟨v', f1, f2⟩ := ho.frz (Nat.le_refl _)
      simp [lk_cons, ↓l1, f1]
      exact ⟨hg.2, h v' f2⟩

end Go.Proofs.Ytinfnpbglapjhaa.AM
