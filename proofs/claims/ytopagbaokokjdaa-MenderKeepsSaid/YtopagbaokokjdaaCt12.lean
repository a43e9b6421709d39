/- What the functions of this chapter give: their contracts over the machine. -/
import Derived.Test.YtopagbaokokjdaaC12
import Derived.Test.YtopagbaokokjdaaAm3
import Derived.IntWalk
/- Quorums, and what the document says of them: what their functions give. -/
namespace Go.Proofs.Ytopagbaokokjdaa.AM
set_option maxRecDepth 100000
set_option linter.unusedVariables false
set_option linter.unusedSimpArgs false

theorem frz_sl {lo n o len cap es : Nat} {t : Bool} {m : Mem} {vals : List AVal} (hn : lo ≤ n) (hm : m.get n = some (.cells es vals)) (hl : o + len * es ≤ vals.length) (hu : uptoL lo vals = true) : frz lo m (.sl n o len cap t) = some (.isl ((vals.drop o).take (len * es)) len (t && decide (cap = len))) := by
  simp only [frz, frz1]
  rw [if_neg (by omega), hm]
  simp only
  rw [if_pos ⟨hl, hu⟩]
@[simp] theorem frz_int (lo : Nat) (m : Mem) (k : IntKind) (n : Int) : frz lo m (.int k n) = some (.int k n) := rfl
@[simp] theorem frz_bool (lo : Nat) (m : Mem) (b : Bool) : frz lo m (.bool b) = some (.bool b) := rfl
@[simp] theorem frz_nilsl (lo : Nat) (m : Mem) : frz lo m .nilsl = some .nilsl := rfl
@[simp] theorem frz_str (lo : Nat) (m : Mem) (s : ByteArray) : frz lo m (.str s) = some (.str s) := rfl
attribute [simp] AVal.upto uptoL
theorem uptoL_ints (lo : Nat) (k : IntKind) (l : List Nat) : uptoL lo (l.map fun (x : Nat) => .int k (x : Int)) = true := by
  induction l with
  | nil => rfl
  | cons x l ih => simp only [List.map_cons, uptoL, AVal.upto, ih, Bool.and_true]

abbrev i64 (n : Int) : AVal := .int .i64 n
abbrev u64 (n : Int) : AVal := .int .u64 n
abbrev qv (P W A : Int) : AVal := .agg [i64 P, i64 W, i64 A]

attribute [simp] i64 u64 qv

theorem qcheck (P W A : Int) (σ : St) (Q : AVal → St → Prop) (h : Q (.bool (decide (1 ≤ A ∧ A ≤ W ∧ W ≤ P ∧ P ≤ 7))) σ) : ACall Try.prog 26 [qv P W A] σ Q := by
  refine ACall.pure rfl ?_
  refine ACall.of_compF hmx (fun a w => Try.call26 a w) Try.func26 cf26 (n := 1) (by decide) rfl ?_
  by_cases h1 : 1 ≤ A <;> by_cases h2 : A ≤ W <;> by_cases h3 : W ≤ P <;> by_cases h4 : P ≤ 7 <;> simp [h1, h2, h3, h4] at h <;> simp [ac26, rs26, lk_cons, h1, h2, h3, h4, h]

theorem rcheck (P W A : Int) (σ : St) (Q : AVal → St → Prop) (h : Q (.bool (decide (1 ≤ A ∧ A ≤ W ∧ W ≤ P ∧ P ≤ 7))) σ) : ACall Try.prog 10 [qv P W A] σ Q := by
  refine ACall.pure rfl ?_
  refine ACall.of_compF hmx (fun a w => Try.call10 a w) Try.func10 cf10 (n := 1) (by decide) rfl ?_
  by_cases h1 : 1 ≤ A <;> by_cases h2 : A ≤ W <;> by_cases h3 : W ≤ P <;> by_cases h4 : P ≤ 7 <;> simp [h1, h2, h3, h4] at h <;> simp [ac10, rs10, lk_cons, h1, h2, h3, h4, h]
end Go.Proofs.Ytopagbaokokjdaa.AM

namespace Go.Proofs.Ytopagbaokokjdaa.AM
set_option maxRecDepth 100000
set_option linter.unusedVariables false
set_option linter.unusedSimpArgs false

/-- An entry's places. -/
def setP (P W n : Nat) : List Nat := (List.range W).map fun i => (n % P + i) % P
def iv (l : List Nat) : List AVal := l.map fun (x : Nat) => .int .i64 (x : Int)

theorem setP_snoc (P i n : Nat) : setP P (i + 1) n = setP P i n ++ [(n % P + i) % P] := by simp [setP, List.range_succ]
theorem setP_len (P W n : Nat) : (setP P W n).length = W := by simp [setP]

theorem qset (P W A n : Nat) (hq : 1 ≤ A ∧ A ≤ W ∧ W ≤ P ∧ P ≤ 7) (hn : n < 18446744073709551616) (σ : St) (Q : AVal → St → Prop) (h : Q (.isl (iv (setP P W n)) W false) σ) : ACall Try.prog 36 [qv P W A, u64 n] σ Q := by
  refine ACall.pure rfl ?_
  refine ACall.of_compF hmx (fun a w => Try.call36 a w) Try.func36 cf36 (n := 2) (by decide) rfl ?_
  simp [ac36, rs36, lk_cons]
  refine qcheck _ _ _ _ _ ?_
  have hd : decide ((1:Int) ≤ A ∧ (A:Int) ≤ W ∧ (W:Int) ≤ P ∧ (P:Int) ≤ 7) = true := by simp; omega
  rw [hd]
  simp [lk_cons]
  refine wp_loop (fun m r σ' => ∃ (i : Nat) (v : AVal), m = W - i ∧ i ≤ W ∧ r = [(1, u64 n), (2, .ptr 0 0), (5, v), (11, i64 W), (12, i64 i)] ∧ σ'.mem.get 0 = some (.cells 3 [i64 P, i64 W, i64 A]) ∧ 0 < σ'.next ∧
    (i = 0 ∧ v = .nilsl ∨ ∃ id, 0 < id ∧ id < σ'.next ∧ v = .sl id 0 i i false ∧ σ'.mem.get id = some (.cells 1 (iv (setP P i n))))) W ?_ ?_
  · exact ⟨0, .nilsl, by simp, by simp, rfl, by simp, by simp, .inl ⟨rfl, rfl⟩⟩
  · rintro m r σ' ⟨i, v, rfl, hi, rfl, hm, hx, hv⟩
    by_cases hlt : i < W
    · have hwP : IntKind.u64.wrap (P : Int) = P := by rw [IntWalk.u64_in]; omega
      have hwi : IntKind.u64.wrap (i : Int) = i := by rw [IntWalk.u64_in]; omega
      have hP0 : ¬ (P : Int) = 0 := by omega
      have hP1 : ¬ P = 0 := by omega
      obtain ⟨x, hx0⟩ : ∃ x, n % P = x := ⟨_, rfl⟩
      obtain ⟨z, hz⟩ : ∃ z, x + i = z := ⟨_, rfl⟩
      obtain ⟨y, hy⟩ : ∃ y, z % P = y := ⟨_, rfl⟩
      obtain ⟨k, hk⟩ : ∃ k, i + 1 = k := ⟨_, rfl⟩
      have hx7 : x < 7 := hx0 ▸ Nat.lt_of_lt_of_le (Nat.mod_lt _ (by omega)) (by omega)
      have hy7 : y < 7 := hy ▸ Nat.lt_of_lt_of_le (Nat.mod_lt _ (by omega)) (by omega)
      have hmod : (n : Int).tmod (P : Int) = (x : Int) := by rw [← hx0]; exact (Int.ofNat_tmod n P).symm
      have hw2 : IntKind.u64.wrap ((x : Int) + (i : Int)) = (z : Int) := by rw [IntWalk.u64_in] <;> omega
      have hmod2 : (z : Int).tmod (P : Int) = (y : Int) := by rw [← hy]; exact (Int.ofNat_tmod z P).symm
      have hw3 : IntKind.i64.wrap (y : Int) = (y : Int) := by rw [IntWalk.i64_in]; omega
      have hw4 : IntKind.i64.wrap ((i : Int) + 1) = (k : Int) := by rw [IntWalk.i64_in] <;> omega
      have hs : iv (setP P k n) = iv (setP P i n) ++ [.int .i64 (y : Int)] := by rw [← hk, setP_snoc, hx0, hz, hy]; simp [iv]
      have hl : (iv (setP P i n)).length = i := by simp [iv, setP]
      have e3 : ¬ 0 = σ'.next := by omega
      have g1 : ¬ i + 1 ≤ i := by omega
      have g2 : (i + 1) * 8 ≤ 140737488355328 ∧ i ≤ 9223372036854775806 := by omega
      rcases hv with ⟨h0, rfl⟩ | ⟨id, h1, h2, rfl, h3⟩
      · simp [lk_cons, hlt, hm, e3, hwP, hwi, hP0, hP1, hmod, hw2, hmod2, hw3, hw4, fillL, repL, storeL, srcL]
        refine ⟨W - k, by omega, k, rfl, by omega, .sl (σ'.next + 1) 0 1 1 false, ⟨rfl, rfl⟩, ?_⟩
        refine .inr ⟨σ'.next + 1, by omega, by omega, by rw [← hk, h0], ?_⟩
        rw [if_pos rfl, hs]; subst h0; rfl
      · have e1 : ¬ id = σ'.next := by omega
        have e2 : ¬ id = σ'.next + 1 := by omega
        simp [lk_cons, hlt, hm, hwP, hwi, hP0, hP1, hmod, hw2, hmod2, hw3, hw4, fillL, repL, storeL, srcL, h3, e1, e2, e3, hl, g1, g2]
        refine ⟨W - k, by omega, k, rfl, by omega, _, ⟨rfl, rfl⟩, ?_⟩
        refine ⟨by omega, .inr ⟨σ'.next + 1, by omega, by omega, by rw [hk], ?_⟩⟩
        rw [if_pos rfl, hs, List.take_of_length_le (by omega)]
    · have : i = W := by omega
      subst this
      simp [lk_cons]
      rcases hv with ⟨h0, rfl⟩ | ⟨id, h1, h2, rfl, h3⟩
      · omega
      · have hl : (iv (setP P i n)).length = i := by simp [iv, setP]
        refine ⟨_, frz_sl (Nat.zero_le _) h3 (by omega) (uptoL_ints _ _ _), ?_, ?_⟩
        · rw [List.drop_zero, List.take_of_length_le (by omega)]
          simp only [AVal.upto]; exact uptoL_ints _ _ _
        · rw [List.drop_zero, List.take_of_length_le (by omega)]; exact h
end Go.Proofs.Ytopagbaokokjdaa.AM

namespace Go.Proofs.Ytopagbaokokjdaa.AM
set_option maxRecDepth 100000
set_option linter.unusedVariables false
set_option linter.unusedSimpArgs false

theorem iv_get (l : List Nat) (i : Nat) (h : i < l.length) : (iv l)[i]? = some (i64 (l[i] : Nat)) := by simp [iv, List.getElem?_eq_getElem h]

theorem isl_one (l : List Nat) (i : Nat) (h : i < l.length) : ((iv l).drop i).take 1 = [i64 (l[i] : Nat)] := by
  rw [List.drop_eq_getElem_cons (by simpa [iv] using h)]; simp [iv]

theorem index_c (l : List Nat) (t : Bool) (x : Int) (hl : l.length ≤ 1000000) (σ : St) (Q : AVal → St → Prop) (h : ∀ k : Int, (0 ≤ k ↔ ∃ y ∈ l, (y : Int) = x) → Q (.int .i64 k) σ) : ACall Try.prog 41 [.isl (iv l) l.length t, i64 x] σ Q := by
  refine ACall.of_compF hmx (fun a w => Try.call41 a w) Try.func41 cf41 (n := 2) (by decide) rfl ?_
  simp [ac41, rs41, lk_cons]
  refine wp_loop (fun m r σ' => ∃ i : Nat, m = l.length - i ∧ i ≤ l.length ∧ σ' = σ ∧ r = [(0, .isl (iv l) l.length t), (1, i64 x), (7, i64 l.length), (8, i64 i)] ∧ ∀ (j : Nat) (hj : j < i), ∀ hj' : j < l.length, (l[j] : Int) ≠ x) l.length ?_ ?_
  · exact ⟨0, rfl, by omega, rfl, rfl, fun j hj => by omega⟩
  · rintro m r σ' ⟨i, rfl, hi, rfl, rfl, hn⟩
    by_cases hlt : i < l.length
    · obtain ⟨k, hk⟩ : ∃ k, i + 1 = k := ⟨_, rfl⟩
      have hw : IntKind.i64.wrap ((i : Int) + 1) = (k : Int) := by rw [IntWalk.i64_in] <;> omega
      have h1 := isl_one l i hlt
      by_cases hx : x = (l[i] : Int)
      · simp [lk_cons, hlt, h1, hx]
        exact h i ⟨fun _ => ⟨l[i], List.getElem_mem hlt, hx.symm⟩, fun _ => by omega⟩
      · simp [lk_cons, hlt, h1, hx, hw]
        refine ⟨l.length - k, by omega, k, rfl, by omega, rfl, fun j hj hj' => ?_⟩
        by_cases hji : j < i
        · exact hn j hji hj'
        · have : j = i := by omega
          subst this; exact fun e => hx e.symm
    · have : i = l.length := by omega
      subst this
      simp [lk_cons]
      refine h _ ⟨fun hh => by omega, fun ⟨y, hy, hyx⟩ => ?_⟩
      obtain ⟨j, hj, rfl⟩ := List.getElem_of_mem hy
      exact absurd hyx (hn j hj hj)

theorem contains_c (l : List Nat) (t : Bool) (x : Int) (hl : l.length ≤ 1000000) (σ : St) (Q : AVal → St → Prop) (h : Q (.bool (decide (∃ y ∈ l, (y : Int) = x))) σ) : ACall Try.prog 35 [.isl (iv l) l.length t, i64 x] σ Q := by
  refine ACall.of_compF hmx (fun a w => Try.call35 a w) Try.func35 cf35 (n := 2) (by decide) rfl ?_
  simp [ac35, rs35, lk_cons]
  refine index_c l t x hl _ _ fun k hk => ?_
  simp [lk_cons]
  have : decide (0 ≤ k) = decide (∃ y ∈ l, (y : Int) = x) := by simp only [decide_eq_decide]; exact hk
  rw [this]; exact h
end Go.Proofs.Ytopagbaokokjdaa.AM

namespace Go.Proofs.Ytopagbaokokjdaa.AM
set_option maxRecDepth 100000
set_option linter.unusedVariables false
set_option linter.unusedSimpArgs false

theorem in_c (l : List Nat) (t : Bool) (x : Int) (hl : l.length ≤ 1000000) (σ : St) (Q : AVal → St → Prop) (h : Q (.bool (decide (∃ y ∈ l, (y : Int) = x))) σ) : ACall Try.prog 40 [.isl (iv l) l.length t, i64 x] σ Q := by
  refine ACall.of_compF hmx (fun a w => Try.call40 a w) Try.func40 cf40 (n := 2) (by decide) rfl ?_
  simp [ac40, rs40, lk_cons]
  refine wp_loop (fun m r σ' => ∃ i : Nat, m = l.length - i ∧ i ≤ l.length ∧ σ' = σ ∧ r = [(0, .isl (iv l) l.length t), (1, i64 x), (5, i64 i)] ∧ ∀ (j : Nat) (hj : j < i), ∀ hj' : j < l.length, (l[j] : Int) ≠ x) l.length ?_ ?_
  · exact ⟨0, rfl, by omega, rfl, rfl, fun j hj => by omega⟩
  · rintro m r σ' ⟨i, rfl, hi, rfl, rfl, hn⟩
    by_cases hlt : i < l.length
    · obtain ⟨k, hk⟩ : ∃ k, i + 1 = k := ⟨_, rfl⟩
      have hw : IntKind.i64.wrap ((i : Int) + 1) = (k : Int) := by rw [IntWalk.i64_in] <;> omega
      have h1 := isl_one l i hlt
      by_cases hx : (l[i] : Int) = x
      · have hd : decide (∃ y ∈ l, (y : Int) = x) = true := by simpa using ⟨l[i], List.getElem_mem hlt, hx⟩
        rw [hd] at h
        simp [lk_cons, hlt, h1, hx, h]
      · simp [lk_cons, hlt, h1, hx, hw]
        refine ⟨l.length - k, by omega, k, rfl, by omega, rfl, fun j hj hj' => ?_⟩
        by_cases hji : j < i
        · exact hn j hji hj'
        · have : j = i := by omega
          subst this; exact hx
    · have : i = l.length := by omega
      subst this
      have hd : decide (∃ y ∈ l, (y : Int) = x) = false := by
        simp only [decide_eq_false_iff_not]
        rintro ⟨y, hy, hyx⟩
        obtain ⟨j, hj, rfl⟩ := List.getElem_of_mem hy
        exact absurd hyx (hn j hj hj)
      rw [hd] at h
      simp [lk_cons, h]

def RSetJ (P W A n x0 : Nat) (m : Nat) (r : Regs) (σ' : St) : Prop := ∃ (i : Nat) (v : AVal) (p : Nat), m = W - i ∧ i ≤ W ∧ p = (x0 + i) % P ∧ r = [(2, .ptr 0 0), (5, v), (6, i64 p), (7, i64 i)] ∧ σ'.mem.get 0 = some (.cells 3 [i64 P, i64 W, i64 A]) ∧ 0 < σ'.next ∧
    (i = 0 ∧ v = .nilsl ∨ ∃ id, 0 < id ∧ id < σ'.next ∧ v = .sl id 0 i i false ∧ σ'.mem.get id = some (.cells 1 (iv (setP P i n))))

theorem rset (P W A n : Nat) (hq : 1 ≤ A ∧ A ≤ W ∧ W ≤ P ∧ P ≤ 7) (hn : n < 18446744073709551616) (σ : St) (Q : AVal → St → Prop) (h : Q (.isl (iv (setP P W n)) W false) σ) : ACall Try.prog 22 [qv P W A, u64 n] σ Q := by
  refine ACall.pure rfl ?_
  refine ACall.of_compF hmx (fun a w => Try.call22 a w) Try.func22 cf22 (n := 2) (by decide) rfl ?_
  simp [ac22, rs22, lk_cons]
  refine rcheck _ _ _ _ _ ?_
  have hd : decide ((1:Int) ≤ A ∧ (A:Int) ≤ W ∧ (W:Int) ≤ P ∧ (P:Int) ≤ 7) = true := by simp; omega
  rw [hd]
  have hwP : IntKind.u64.wrap (P : Int) = P := by rw [IntWalk.u64_in]; omega
  have hP0 : ¬ (P : Int) = 0 := by omega
  have hP1 : ¬ P = 0 := by omega
  obtain ⟨x0, hx0⟩ : ∃ x, n % P = x := ⟨_, rfl⟩
  have hx7 : x0 < P := hx0 ▸ Nat.mod_lt _ (by omega)
  have hmod : (n : Int).tmod (P : Int) = (x0 : Int) := by rw [← hx0]; exact (Int.ofNat_tmod n P).symm
  have hw3 : IntKind.i64.wrap (x0 : Int) = (x0 : Int) := by rw [IntWalk.i64_in]; omega
  simp [lk_cons, hwP, hP0, hP1, hmod, hw3]
  refine wp_loop (RSetJ P W A n x0) W ?_ ?_
  · exact ⟨0, .nilsl, x0, by simp, by simp, by rw [Nat.add_zero, Nat.mod_eq_of_lt hx7], rfl, by simp, by simp, .inl ⟨rfl, rfl⟩⟩
  · rintro m r σ' ⟨i, v, p, rfl, hi, hp, rfl, hm, hx, hv⟩
    by_cases hlt : i < W
    · obtain ⟨k, hk⟩ : ∃ k, i + 1 = k := ⟨_, rfl⟩
      have hp7 : p < P := hp ▸ Nat.mod_lt _ (by omega)
      obtain ⟨p', hp'⟩ : ∃ k, p + 1 = k := ⟨_, rfl⟩
      have hw4 : IntKind.i64.wrap ((i : Int) + 1) = (k : Int) := by rw [IntWalk.i64_in] <;> omega
      have hw5 : IntKind.i64.wrap ((p : Int) + 1) = (p' : Int) := by rw [IntWalk.i64_in] <;> omega
      have hs : iv (setP P k n) = iv (setP P i n) ++ [.int .i64 (p : Int)] := by rw [← hk, setP_snoc, hx0, ← hp]; simp [iv]
      have hl : (iv (setP P i n)).length = i := by simp [iv, setP]
      have e3 : ¬ 0 = σ'.next := by omega
      have e4 : ¬ 0 = σ'.next + 1 := by omega
      have g1 : ¬ i + 1 ≤ i := by omega
      have g2 : (i + 1) * 8 ≤ 140737488355328 ∧ i ≤ 9223372036854775806 := by omega
      have hnext : (if p' = P then 0 else p') = (x0 + k) % P := by
        rw [← hp', ← hk, ← Nat.add_assoc, Nat.add_mod, ← hp]
        by_cases hpp : p + 1 = P
        · rw [if_pos hpp]
          rcases Nat.lt_or_ge 1 P with h1 | h1
          · rw [Nat.mod_eq_of_lt h1, hpp, Nat.mod_self]
          · have : P = 1 := by omega
            subst this; omega
        · rw [if_neg hpp, Nat.mod_eq_of_lt (show 1 < P by omega), Nat.mod_eq_of_lt (by omega)]
      rcases hv with ⟨h0, rfl⟩ | ⟨id, h1, h2, rfl, h3⟩
      · by_cases hpp : p' = P
        · rw [if_pos hpp] at hnext
          have hpi : (p' : Int) = (P : Int) := by omega
          simp [lk_cons, hlt, hm, e3, e4, hw4, hw5, fillL, repL, storeL, srcL, hpp, hpi]
          refine ⟨W - k, by omega, k, .sl (σ'.next + 1) 0 1 1 false, 0, rfl, by omega, hnext, rfl, by simpa [e3, e4] using hm, by simp, .inr ⟨σ'.next + 1, by omega, by simp, by rw [← hk, h0], ?_⟩⟩
          subst h0; simp; exact hs.symm
        · rw [if_neg hpp] at hnext
          have hpi : ¬ (p' : Int) = (P : Int) := by omega
          simp [lk_cons, hlt, hm, e3, e4, hw4, hw5, fillL, repL, storeL, srcL, hpp, hpi]
          refine ⟨W - k, by omega, k, .sl (σ'.next + 1) 0 1 1 false, p', rfl, by omega, hnext, rfl, by simpa [e3, e4] using hm, by simp, .inr ⟨σ'.next + 1, by omega, by simp, by rw [← hk, h0], ?_⟩⟩
          subst h0; simp; exact hs.symm
      · have e1 : ¬ id = σ'.next := by omega
        have e2 : ¬ id = σ'.next + 1 := by omega
        have e5 : ¬ 0 = id := by omega
        by_cases hpp : p' = P
        · rw [if_pos hpp] at hnext
          have hpi : (p' : Int) = (P : Int) := by omega
          simp [lk_cons, hlt, hm, e3, e4, hw4, hw5, fillL, repL, storeL, srcL, hpp, hpi, h3, e1, e2, e5, hl, g1, g2]
          refine ⟨W - k, by omega, k, _, 0, rfl, by omega, hnext, rfl, by simpa [e3, e4, e5] using hm, by simp, .inr ⟨σ'.next + 1, by omega, by simp, by rw [← hk], ?_⟩⟩
          simp; rw [hs, List.take_of_length_le (by omega)]
        · rw [if_neg hpp] at hnext
          have hpi : ¬ (p' : Int) = (P : Int) := by omega
          simp [lk_cons, hlt, hm, e3, e4, hw4, hw5, fillL, repL, storeL, srcL, hpp, hpi, h3, e1, e2, e5, hl, g1, g2]
          refine ⟨W - k, by omega, k, _, p', rfl, by omega, hnext, rfl, by simpa [e3, e4, e5] using hm, by simp, .inr ⟨σ'.next + 1, by omega, by simp, by rw [← hk], ?_⟩⟩
          simp; rw [hs, List.take_of_length_le (by omega)]
    · have : i = W := by omega
      subst this
      simp [lk_cons, hm]
      rcases hv with ⟨h0, rfl⟩ | ⟨id, h1, h2, rfl, h3⟩
      · omega
      · have hl : (iv (setP P i n)).length = i := by simp [iv, setP]
        refine ⟨_, frz_sl (Nat.zero_le _) h3 (by omega) (uptoL_ints _ _ _), ?_, ?_⟩
        · rw [List.drop_zero, List.take_of_length_le (by omega)]
          simp only [AVal.upto]; exact uptoL_ints _ _ _
        · rw [List.drop_zero, List.take_of_length_le (by omega)]; exact h
end Go.Proofs.Ytopagbaokokjdaa.AM

namespace Go.Proofs.Ytopagbaokokjdaa.AM
set_option maxRecDepth 100000
set_option linter.unusedVariables false
set_option linter.unusedSimpArgs false

def bv (l : List Bool) : List AVal := l.map AVal.bool
@[simp] theorem bv_len (l : List Bool) : (bv l).length = l.length := by simp [bv]
theorem bv_get (l : List Bool) (i : Nat) (h : i < l.length) : (bv l)[i]? = some (.bool (l.getD i false)) := by
  simp [bv, List.getElem?_eq_getElem h, List.getD_eq_getElem?_getD]
def cnt (bs : List Bool) (l : List Nat) : Nat := l.countP fun p => bs.getD p false
theorem cnt_le (bs : List Bool) (l : List Nat) : cnt bs l ≤ l.length := List.countP_le_length
theorem setP_lt {P W n p : Nat} (hP : 0 < P) (h : p ∈ setP P W n) : p < P := by
  simp only [setP, List.mem_map] at h
  obtain ⟨i, _, rfl⟩ := h
  exact Nat.mod_lt _ hP

def CountJ (bs : List Bool) (l : List Nat) (said : AVal) (s : Nat) (n0 : Nat) (mem : Mem) (m : Nat) (r : Regs) (σ' : St) : Prop := ∃ (i c : Nat), m = l.length - i ∧ i ≤ l.length ∧ c = cnt bs (l.take i) ∧
  r = [(2, said), (7, i64 c), (12, .isl (iv l) l.length false), (13, i64 l.length), (14, i64 i)] ∧ σ'.mem.get s = some (.cells 1 (bv bs)) ∧ ∀ a, a < n0 → σ'.mem.get a = mem.get a

theorem qcount (P W A n s : Nat) (bs : List Bool) (hq : 1 ≤ A ∧ A ≤ W ∧ W ≤ P ∧ P ≤ 7) (hb : bs.length = P) (hn : n < 18446744073709551616) (σ : St) (hs : σ.mem.get s = some (.cells 1 (bv bs))) (hlt : s < σ.next) (Q : AVal → St → Prop) (h : Q (i64 (cnt bs (setP P W n))) σ) :
    ACall Try.prog 39 [qv P W A, u64 n, .sl s 0 P P true] σ Q := by
  refine ACall.scrub ?_
  refine ACall.of_compF hmx (fun a w => Try.call39 a w) Try.func39 cf39 (n := 3) (by decide) rfl ?_
  have e1 : ¬ s = σ.next := by omega
  simp [ac39, rs39, lk_cons]
  refine qset P W A n hq hn _ _ ?_
  simp [lk_cons]
  have hsl : (setP P W n).length = W := setP_len P W n
  have hin : ∀ p ∈ setP P W n, p < P := fun p hp => setP_lt (by omega) hp
  generalize setP P W n = l at hsl hin h ⊢
  subst hsl
  refine wp_loop (CountJ bs l (.sl s 0 P P true) s σ.next σ.mem) l.length ?_ ?_
  · exact ⟨0, 0, rfl, by omega, rfl, rfl, by simp [e1, hs], fun a ha => by simp [show ¬ a = σ.next by omega]⟩
  · rintro m r σ' ⟨i, c, rfl, hi, hc, rfl, hm, ho⟩
    by_cases hlt2 : i < l.length
    · obtain ⟨k, hk⟩ : ∃ k, i + 1 = k := ⟨_, rfl⟩
      obtain ⟨c', hc'⟩ : ∃ k, c + 1 = k := ⟨_, rfl⟩
      have hcl : c ≤ i := by rw [hc]; exact Nat.le_trans (cnt_le _ _) (by simp; omega)
      have hw : IntKind.i64.wrap ((i : Int) + 1) = (k : Int) := by rw [IntWalk.i64_in] <;> omega
      have hw2 : IntKind.i64.wrap ((c : Int) + 1) = (c' : Int) := by rw [IntWalk.i64_in] <;> omega
      have h1 := isl_one l i hlt2
      obtain ⟨p, hp⟩ : ∃ p, l[i] = p := ⟨_, rfl⟩
      have hpP : p < P := by rw [← hp]; exact hin _ (List.getElem_mem hlt2)
      have h2 := bv_get bs p (by omega)
      have ht : cnt bs (l.take k) = cnt bs (l.take i) + if bs.getD p false then 1 else 0 := by
        rw [← hk, List.take_succ_eq_append_getElem hlt2, hp]
        simp only [cnt, List.countP_append, List.countP_cons, List.countP_nil, Nat.zero_add]
      rw [hp] at h1
      cases hbp : bs.getD p false with
      | true =>
        rw [hbp] at h2 ht
        simp [lk_cons, hlt2, h1, hpP, hm, h2, hw, hw2]
        exact ⟨l.length - k, by omega, k, c', rfl, by omega, by rw [ht, ← hc, ← hc']; rfl, rfl, hm, ho⟩
      | false =>
        rw [hbp] at h2 ht
        simp [lk_cons, hlt2, h1, hpP, hm, h2, hw, hw2]
        exact ⟨l.length - k, by omega, k, c, rfl, by omega, by rw [ht, ← hc]; rfl, rfl, hm, ho⟩
    · have : i = l.length := by omega
      subst this
      rw [List.take_length] at hc
      subst hc
      simp [lk_cons]
      exact ⟨ho, h⟩

theorem qenough (P W A n s : Nat) (bs : List Bool) (hq : 1 ≤ A ∧ A ≤ W ∧ W ≤ P ∧ P ≤ 7) (hb : bs.length = P) (hn : n < 18446744073709551616) (σ : St) (hs : σ.mem.get s = some (.cells 1 (bv bs))) (hlt : s < σ.next) (Q : AVal → St → Prop) (h : Q (.bool (decide (A ≤ cnt bs (setP P W n)))) σ) :
    ACall Try.prog 37 [qv P W A, u64 n, .sl s 0 P P true] σ Q := by
  refine ACall.scrub ?_
  refine ACall.of_compF hmx (fun a w => Try.call37 a w) Try.func37 cf37 (n := 3) (by decide) rfl ?_
  have e1 : ¬ s = σ.next := by omega
  simp [ac37, rs37, lk_cons]
  refine qcheck _ _ _ _ _ ?_
  have hd : decide ((1:Int) ≤ A ∧ (A:Int) ≤ W ∧ (W:Int) ≤ P ∧ (P:Int) ≤ 7) = true := by simp; omega
  rw [hd]
  simp [lk_cons]
  refine qcount P W A n s bs hq hb hn _ (by simp [e1, hs]) (by simp; omega) _ ?_
  simp [lk_cons]
  exact ⟨fun a ha => by simp [show ¬ a = σ.next by omega], h⟩
end Go.Proofs.Ytopagbaokokjdaa.AM

namespace Go.Proofs.Ytopagbaokokjdaa.AM
set_option maxRecDepth 100000
set_option linter.unusedVariables false
set_option linter.unusedSimpArgs false

def cntR (bs : List Bool) (l : List Nat) (i : Nat) : Nat := (List.range i).countP fun p => bs.getD p false && decide (p ∈ l)

theorem setP_nodup {P W n : Nat} (hW : W ≤ P) : (setP P W n).Nodup := by
  rw [setP, List.nodup_iff_pairwise_ne, List.pairwise_map]
  refine List.Pairwise.imp_of_mem ?_ (List.pairwise_lt_range (n := W))
  intro a b ha hb hab he
  have ha' := List.mem_range.1 ha
  have hb' := List.mem_range.1 hb
  have hm : n % P < P := Nat.mod_lt _ (by omega)
  generalize n % P = x at he hm
  have h1 := Nat.div_add_mod (x + a) P
  have h2 := Nat.div_add_mod (x + b) P
  rw [he] at h1
  have h3 : P * ((x + b) / P) - P * ((x + a) / P) = b - a := by omega
  rw [← Nat.mul_sub] at h3
  rcases Nat.eq_zero_or_pos ((x + b) / P - (x + a) / P) with h0 | h0
  · rw [h0] at h3; omega
  · have := Nat.le_mul_of_pos_right P h0
    omega

theorem cntR_eq {bs : List Bool} {l : List Nat} {P : Nat} (hn : l.Nodup) (hl : ∀ p ∈ l, p < P) : cntR bs l P = cnt bs l := by
  have hp : (List.range P).filter (fun p => decide (p ∈ l)) |>.Perm l := by
    rw [List.perm_ext_iff_of_nodup (List.nodup_range.filter _) hn]
    intro a
    simp only [List.mem_filter, List.mem_range, decide_eq_true_eq]
    exact ⟨fun h => h.2, fun h => ⟨hl a h, h⟩⟩
  rw [cntR, cnt, ← hp.countP_eq, List.countP_filter]

def RCountJ (P W A n : Nat) (bs : List Bool) (l : List Nat) (said : AVal) (s : Nat) (n0 : Nat) (mem : Mem) (m : Nat) (r : Regs) (σ' : St) : Prop := ∃ (i c : Nat), m = P - i ∧ i ≤ P ∧ c = cntR bs l i ∧
  r = [(1, u64 n), (2, said), (3, .ptr n0 0), (7, i64 c), (8, i64 i)] ∧ σ'.mem.get s = some (.cells 1 (bv bs)) ∧ σ'.mem.get n0 = some (.cells 3 [i64 P, i64 W, i64 A]) ∧ ∀ a, a < n0 → σ'.mem.get a = mem.get a

theorem rcount (P W A n s : Nat) (bs : List Bool) (hq : 1 ≤ A ∧ A ≤ W ∧ W ≤ P ∧ P ≤ 7) (hb : bs.length = P) (hn : n < 18446744073709551616) (σ : St) (hs : σ.mem.get s = some (.cells 1 (bv bs))) (hlt : s < σ.next) (Q : AVal → St → Prop) (h : Q (i64 (cnt bs (setP P W n))) σ) :
    ACall Try.prog 33 [qv P W A, u64 n, .sl s 0 P P true] σ Q := by
  refine ACall.scrub ?_
  refine ACall.of_compF hmx (fun a w => Try.call33 a w) Try.func33 cf33 (n := 3) (by decide) rfl ?_
  have e1 : ¬ s = σ.next := by omega
  rw [← cntR_eq (setP_nodup hq.2.2.1) (fun p hp => setP_lt (by omega) hp)] at h
  have hsl : (setP P W n).length = W := setP_len P W n
  have hset := rset P W A n hq hn
  generalize setP P W n = l at hsl h hset
  simp [ac33, rs33, lk_cons]
  refine wp_loop (RCountJ P W A n bs l (.sl s 0 P P true) s σ.next σ.mem) P ?_ ?_
  · exact ⟨0, 0, rfl, by omega, rfl, rfl, by simp [e1, hs], by simp, fun a ha => by simp [show ¬ a = σ.next by omega]⟩
  · rintro m r σ' ⟨i, c, rfl, hi, hc, rfl, hm, hm2, ho⟩
    by_cases hlt2 : i < P
    · obtain ⟨k, hk⟩ : ∃ k, i + 1 = k := ⟨_, rfl⟩
      obtain ⟨c', hc'⟩ : ∃ k, c + 1 = k := ⟨_, rfl⟩
      have hcl : c ≤ i := by rw [hc]; exact Nat.le_trans List.countP_le_length (by simp)
      have hw : IntKind.i64.wrap ((i : Int) + 1) = (k : Int) := by rw [IntWalk.i64_in] <;> omega
      have hw2 : IntKind.i64.wrap ((c : Int) + 1) = (c' : Int) := by rw [IntWalk.i64_in] <;> omega
      have h2 := bv_get bs i (by omega)
      have ht : cntR bs l k = cntR bs l i + if bs.getD i false && decide (i ∈ l) then 1 else 0 := by
        rw [← hk]
        simp only [cntR, List.range_succ, List.countP_append, List.countP_cons, List.countP_nil, Nat.zero_add]
      have hmem : decide (∃ y ∈ l, (y : Int) = (i : Int)) = decide (i ∈ l) := by
        simp only [decide_eq_decide]
        exact ⟨fun ⟨y, hy, e⟩ => by have : y = i := by omega
                                    subst this; exact hy, fun h => ⟨i, h, rfl⟩⟩
      cases hbp : bs.getD i false with
      | true =>
        rw [hbp] at h2 ht
        simp [lk_cons, hlt2, hm, hm2, h2]
        refine hset _ _ ?_
        simp [lk_cons]
        rw [← hsl]
        refine in_c l false i (by omega) _ _ ?_
        rw [hmem]
        by_cases hil : i ∈ l
        · simp [hil] at ht
          simp [lk_cons, hil, hw, hw2]
          exact ⟨P - k, by omega, k, c', rfl, by omega, by rw [ht, ← hc, ← hc'], rfl, hm, by rw [hsl]; exact hm2, ho⟩
        · simp [hil] at ht
          simp [lk_cons, hil, hw, hw2]
          exact ⟨P - k, by omega, k, c, rfl, by omega, by rw [ht, ← hc], rfl, hm, by rw [hsl]; exact hm2, ho⟩
      | false =>
        rw [hbp] at h2 ht
        simp at ht
        simp [lk_cons, hlt2, hm, hm2, h2, hw, hw2]
        exact ⟨P - k, by omega, k, c, rfl, by omega, by rw [ht, ← hc], rfl, hm, hm2, ho⟩
    · have : i = P := by omega
      subst this
      subst hc
      simp [lk_cons, hm2]
      exact ⟨ho, h⟩

end Go.Proofs.Ytopagbaokokjdaa.AM

namespace Go.Proofs.Ytopagbaokokjdaa.AM
set_option maxRecDepth 100000
set_option linter.unusedVariables false
set_option linter.unusedSimpArgs false

theorem clone_nil (σ : St) (Q : AVal → St → Prop) (h : Q .nilsl σ) : ACall Try.prog 30 [.nilsl] σ Q := by
  refine ACall.of_compF hmx (fun a w => Try.call30 a w) Try.func30 cf30 (n := 1) (by decide) rfl ?_
  simp [ac30, rs30, lk_cons, h]

theorem clone_isl (cs : List AVal) (k : Nat) (t : Bool) (hl : cs.length = k) (hk : k ≤ 140737488355328) (σ : St) (hu : uptoL σ.next cs = true) (Q : AVal → St → Prop) (h : ∀ t, Q (.isl cs k t) σ) : ACall Try.prog 30 [.isl cs k t] σ Q := by
  refine ACall.freeze ?_
  refine ACall.of_compF hmx (fun a w => Try.call30 a w) Try.func30 cf30 (n := 1) (by decide) rfl ?_
  by_cases h0 : k = 0
  · subst h0
    have : cs = [] := List.eq_nil_of_length_eq_zero hl
    subst this
    simp [ac30, rs30, lk_cons, fillL, repL, srcL, storeL]
    exact ⟨fun a ha => by simp [show ¬ a = σ.next by omega], _, frz_sl (es := 1) (vals := []) (Nat.le_refl _) (by simp) (by simp) rfl, by simpa using h true⟩
  · have g1 : k ≤ 9223372036854775807 := by omega
    simp [ac30, rs30, lk_cons, fillL, repL, srcL, hl, h0, hk, g1]
    exact ⟨fun a ha => by simp [show ¬ a = σ.next by omega, show ¬ a = σ.next + 1 by omega], _, frz_sl (es := 1) (vals := cs) (by omega) (by simp) (by omega) hu, by
      rw [List.drop_zero, List.take_of_length_le (by omega)]; exact h _⟩

theorem clone_sl (a k c : Nat) (t : Bool) (cs : List AVal) (hl : cs.length = k) (hk : k ≤ 140737488355328) (σ : St) (hm : σ.mem.get a = some (.cells 1 cs)) (ha : a < σ.next) (hu : uptoL σ.next cs = true) (Q : AVal → St → Prop) (h : ∀ t, Q (.isl cs k t) σ) : ACall Try.prog 30 [.sl a 0 k c t] σ Q := by
  refine ACall.freeze ?_
  refine ACall.of_compF hmx (fun a w => Try.call30 a w) Try.func30 cf30 (n := 1) (by decide) rfl ?_
  have e1 : ¬ a = σ.next := by omega
  by_cases h0 : k = 0
  · subst h0
    have : cs = [] := List.eq_nil_of_length_eq_zero hl
    subst this
    simp [ac30, rs30, lk_cons, fillL, repL, srcL, storeL, hm, e1]
    exact ⟨fun a ha => by simp [show ¬ a = σ.next by omega], _, frz_sl (es := 1) (vals := []) (Nat.le_refl _) (by simp) (by simp) rfl, by simpa using h true⟩
  · have g1 : k ≤ 9223372036854775807 := by omega
    have g2 : cs.take k = cs := List.take_of_length_le (by omega)
    simp [ac30, rs30, lk_cons, fillL, repL, srcL, hl, h0, hk, g1, hm, e1, g2]
    exact ⟨fun a ha => by simp [show ¬ a = σ.next by omega, show ¬ a = σ.next + 1 by omega], _, frz_sl (es := 1) (vals := cs) (by omega) (by simp) (by omega) hu, by
      rw [List.drop_zero, List.take_of_length_le (by omega)]; exact h _⟩

/-- The quorum of a number. -/
def qP (n : Nat) : Nat := 1 + n % 7
def qW (n : Nat) : Nat := 1 + (n / 7) % qP n
def qA (n : Nat) : Nat := 1 + (n / 49) % qW n
theorem q_ok (n : Nat) : 1 ≤ qA n ∧ qA n ≤ qW n ∧ qW n ≤ qP n ∧ qP n ≤ 7 := by
  have h1 : n / 7 % qP n < qP n := Nat.mod_lt _ (by simp [qP]; omega)
  have h2 : n / 49 % qW n < qW n := Nat.mod_lt _ (by simp [qW]; omega)
  refine ⟨by simp only [qA]; omega, by simp only [qA]; omega, by simp only [qW]; omega, by simp only [qP]; omega⟩

theorem quorum_c (n : Nat) (hn : n < 65536) (σ : St) (Q : AVal → St → Prop) (h : Q (qv (qP n) (qW n) (qA n)) σ) : ACall Try.prog 11 [.int .u16 n] σ Q := by
  refine ACall.pure rfl ?_
  refine ACall.of_compF hmx (fun a w => Try.call11 a w) Try.func11 cf11 (n := 1) (by decide) rfl ?_
  have hq := q_ok n
  have t1 : (n : Int).tmod 7 = ((n % 7 : Nat) : Int) := (Int.ofNat_tmod n 7).symm
  have t2 : (n : Int).tdiv 7 = ((n / 7 : Nat) : Int) := (Int.ofNat_tdiv n 7).symm
  have t3 : (n : Int).tdiv 49 = ((n / 49 : Nat) : Int) := (Int.ofNat_tdiv n 49).symm
  have t4 : ((n / 7 : Nat) : Int).tmod (qP n : Int) = ((n / 7 % qP n : Nat) : Int) := (Int.ofNat_tmod _ _).symm
  have t5 : ((n / 49 : Nat) : Int).tmod (qW n : Int) = ((n / 49 % qW n : Nat) : Int) := (Int.ofNat_tmod _ _).symm
  have m1 : n % 7 < 7 := Nat.mod_lt _ (by omega)
  have m2 : n / 7 < 65536 := by omega
  have m3 : n / 49 < 65536 := by omega
  have m4 : n / 7 % qP n < 7 := Nat.lt_of_lt_of_le (Nat.mod_lt _ (by omega)) (by omega)
  have m5 : n / 49 % qW n < 7 := Nat.lt_of_lt_of_le (Nat.mod_lt _ (by omega)) (by omega)
  have e1 : 1 + n % 7 = qP n := rfl
  have e2 : 1 + n / 7 % qP n = qW n := rfl
  have e3 : 1 + n / 49 % qW n = qA n := rfl
  generalize n % 7 = x1 at *
  generalize n / 7 % qP n = x4 at *
  generalize n / 49 % qW n = x5 at *
  generalize n / 7 = x2 at *
  generalize n / 49 = x3 at *
  generalize qP n = p at *
  generalize qW n = w at *
  generalize qA n = a at *
  have w1 : IntKind.i64.wrap (x1 : Int) = x1 := by rw [IntWalk.i64_in]; omega
  have w2 : IntKind.i64.wrap (1 + (x1 : Int)) = p := by rw [IntWalk.i64_in] <;> omega
  have w3 : IntKind.i64.wrap (x2 : Int) = x2 := by rw [IntWalk.i64_in]; omega
  have w4 : IntKind.i64.wrap (1 + (x4 : Int)) = w := by rw [IntWalk.i64_in] <;> omega
  have w5 : IntKind.i64.wrap (x3 : Int) = x3 := by rw [IntWalk.i64_in]; omega
  have w6 : IntKind.i64.wrap (1 + (x5 : Int)) = a := by rw [IntWalk.i64_in] <;> omega
  have w7 : IntKind.u16.wrap (x2 : Int) = x2 := by rw [IntWalk.u16_in]; omega
  have w8 : IntKind.u16.wrap (x3 : Int) = x3 := by rw [IntWalk.u16_in]; omega
  have z1 : ¬ p = 0 := by omega
  have z2 : ¬ w = 0 := by omega
  simp [ac11, rs11, lk_cons, t1, t2, t3, t4, t5, w1, w2, w3, w4, w5, w6, w7, w8, z1, z2, fillL, storeL]
  exact ⟨_, rfl, rfl, h⟩
end Go.Proofs.Ytopagbaokokjdaa.AM

namespace Go.Proofs.Ytopagbaokokjdaa.AM
set_option maxRecDepth 100000
set_option linter.unusedVariables false
set_option linter.unusedSimpArgs false

/-- An entry that waits: its number, its data, the block of what was said of it, that. -/
structure WEnt where
  n : Nat
  d : AVal
  s : Nat
  bs : List Bool

def cellsE (P : Nat) (e : WEnt) : List AVal := [u64 e.n, e.d, .sl e.s 0 P P true]
def cellsEs (P : Nat) : List WEnt → List AVal
  | [] => []
  | e :: es => cellsE P e ++ cellsEs P es
@[simp] theorem cellsEs_len (P : Nat) (es : List WEnt) : (cellsEs P es).length = 3 * es.length := by
  induction es with
  | nil => rfl
  | cons e es ih => simp only [cellsEs, cellsE, List.length_append, List.length_cons, List.length_nil, ih]; omega
theorem cellsEs_append (P : Nat) (a b : List WEnt) : cellsEs P (a ++ b) = cellsEs P a ++ cellsEs P b := by
  induction a with
  | nil => rfl
  | cons e es ih => simp only [List.cons_append, cellsEs, ih, List.append_assoc]

/-- What waits, as the slice wv. -/
def WaitV (σ : St) (P : Nat) (fp : Nat → Prop) (ents : List WEnt) (wv : AVal) : Prop :=
  (ents = [] ∧ wv = .nilsl) ∨ ∃ (a : Nat) (pre : List AVal), wv = .sl a pre.length ents.length ents.length false ∧ σ.mem.get a = some (.cells 3 (pre ++ cellsEs P ents)) ∧ fp a ∧ ∀ e ∈ ents, e.s ≠ a

structure WRep (σ : St) (w : Nat) (fp : Nat → Prop) (P W A sure : Nat) (ents : List WEnt) (closed : Bool) (wv : AVal) : Prop where
  head : σ.mem.get w = some (.cells 6 [i64 P, i64 W, i64 A, u64 sure, wv, .bool closed])
  wfp : fp w
  wait : WaitV σ P (fun a => fp a ∧ a ≠ w) ents wv
  said : ∀ e ∈ ents, σ.mem.get e.s = some (.cells 1 (bv e.bs)) ∧ e.bs.length = P ∧ fp e.s ∧ e.s ≠ w
  apart : (ents.map (·.s)).Nodup
  num : ∀ (i : Nat) (e : WEnt), ents[i]? = some e → e.n = sure + i
  lt : ∀ a, fp a → a < σ.next
  done : ∀ e ∈ ents, e.d.one = true ∧ cellsOf e.d = [e.d]

/-- Outside of fp, what was there is as it was. -/
def Keeps (fp : Nat → Prop) (σ σ' : St) : Prop := σ.next ≤ σ'.next ∧ ∀ a, a < σ.next → ¬ fp a → σ'.mem.get a = σ.mem.get a

theorem wv_len {σ : St} {P : Nat} {fp : Nat → Prop} {ents : List WEnt} {wv : AVal} (h : WaitV σ P fp ents wv) (ρ : St) : evalV ρ (.len 1 wv) = some (i64 ents.length, ρ) := by
  rcases h with ⟨rfl, rfl⟩ | ⟨a, pre, rfl, _⟩ <;> simp

theorem count_c {σ : St} {w : Nat} {fp : Nat → Prop} {P W A sure : Nat} {ents : List WEnt} {closed : Bool} {wv : AVal} (h : WRep σ w fp P W A sure ents closed wv) (hs : sure + ents.length ≤ 2000000) (Q : AVal → St → Prop) (hq : Q (u64 (sure + ents.length : Nat)) σ) : ACall Try.prog 34 [.ptr w 0] σ Q := by
  refine ACall.of_compF hmx (fun a w => Try.call34 a w) Try.func34 cf34 (n := 1) (by decide) rfl ?_
  have h1 := h.head
  have w1 : IntKind.u64.wrap (ents.length : Int) = ents.length := by rw [IntWalk.u64_in]; omega
  obtain ⟨z, hz⟩ : ∃ z, sure + ents.length = z := ⟨_, rfl⟩
  have w2 : IntKind.u64.wrap ((sure : Int) + (ents.length : Int)) = (z : Int) := by rw [IntWalk.u64_in] <;> omega
  rw [hz] at hq
  rcases h.wait with ⟨rfl, rfl⟩ | ⟨a, pre, rfl, _⟩
  · simp at w1 w2
    simp [ac34, rs34, lk_cons, h1, w1, w2, hq]
  · simp [ac34, rs34, lk_cons, h1, w1, w2, hq]

theorem sure_c {σ : St} {w : Nat} {fp : Nat → Prop} {P W A sure : Nat} {ents : List WEnt} {closed : Bool} {wv : AVal} (h : WRep σ w fp P W A sure ents closed wv) (Q : AVal → St → Prop) (hq : Q (u64 sure) σ) : ACall Try.prog 24 [.ptr w 0] σ Q := by
  refine ACall.of_compF hmx (fun a w => Try.call24 a w) Try.func24 cf24 (n := 1) (by decide) rfl ?_
  have h1 := h.head
  simp [ac24, rs24, lk_cons, h1, hq]

theorem new_c (P W A : Nat) (hq : 1 ≤ A ∧ A ≤ W ∧ W ≤ P ∧ P ≤ 7) (σ : St) (Q : AVal → St → Prop) (h : ∀ w fp σ', WRep σ' w fp P W A 0 [] false .nilsl → Keeps (fun _ => False) σ σ' → (∀ a, fp a → σ.next ≤ a) → Q (.tup [.ptr w 0, i64 0]) σ') : ACall Try.prog 20 [qv P W A] σ Q := by
  refine ACall.of_compF hmx (fun a w => Try.call20 a w) Try.func20 cf20 (n := 1) (by decide) rfl ?_
  simp [ac20, rs20, lk_cons]
  refine qcheck _ _ _ _ _ ?_
  have hd : decide ((1:Int) ≤ A ∧ (A:Int) ≤ W ∧ (W:Int) ≤ P ∧ (P:Int) ≤ 7) = true := by simp; omega
  rw [hd]
  simp [lk_cons, fillL, storeL]
  refine h (σ.next + 1) (fun a => a = σ.next + 1) _ ⟨by simp, rfl, .inl ⟨rfl, rfl⟩, fun e he => by simp at he, by simp, fun i e he => by simp at he, fun a ha => by subst ha; simp, fun e he => by simp at he⟩ ⟨by simp; omega, fun a ha _ => ?_⟩ (fun a ha => by omega)
  simp [show ¬ a = σ.next by omega, show ¬ a = σ.next + 1 by omega]

end Go.Proofs.Ytopagbaokokjdaa.AM

namespace Go.Proofs.Ytopagbaokokjdaa.AM
set_option maxRecDepth 100000
set_option linter.unusedVariables false
set_option linter.unusedSimpArgs false

structure DataOk (σ : St) (d : AVal) (k : Nat) (dc : Bool → AVal) : Prop where
  len : (d = .nilsl ∧ k = 0) ∨ (∃ cs t, d = .isl cs k t) ∨ ∃ a c t, d = .sl a 0 k c t
  clone : ∀ (σ2 : St) (Q : AVal → St → Prop), σ.next ≤ σ2.next → (∀ a, a < σ.next → σ2.mem.get a = σ.mem.get a) → (∀ t, Q (dc t) σ2) → ACall Try.prog 30 [d] σ2 Q
  one : ∀ t, dc t = .nilsl ∨ ∃ cs n t', dc t = .isl cs n t'

theorem dlen {σ : St} {d : AVal} {k : Nat} {dc : Bool → AVal} (h : DataOk σ d k dc) (ρ : St) : evalV ρ (.len 1 d) = some (i64 k, ρ) := by
  rcases h.len with ⟨rfl, rfl⟩ | ⟨cs, t, rfl⟩ | ⟨a, c, t, rfl⟩ <;> simp

theorem bv_rep (n : Nat) : bv (List.replicate n false) = List.replicate n (AVal.bool false) := by simp [bv]

theorem WRep.add {σ σ' : St} {w : Nat} {fp : Nat → Prop} {P W A sure : Nat} {ents : List WEnt} {closed : Bool} {wv : AVal} (h : WRep σ w fp P W A sure ents closed wv) {s a' : Nat} {dd : AVal} (hs : σ.next ≤ s) (ha : σ.next ≤ a') (hsa : s ≠ a') (hs2 : s < σ'.next) (ha2 : a' < σ'.next) (hnx : σ.next ≤ σ'.next)
    (m1 : σ'.mem.get w = some (.cells 6 [i64 P, i64 W, i64 A, u64 sure, .sl a' 0 (ents.length + 1) (ents.length + 1) false, .bool closed])) (m2 : σ'.mem.get s = some (.cells 1 (bv (List.replicate P false))))
    (m3 : σ'.mem.get a' = some (.cells 3 (cellsEs P ents ++ [u64 (sure + ents.length : Nat), dd, .sl s 0 P P true]))) (m4 : ∀ e ∈ ents, σ'.mem.get e.s = σ.mem.get e.s) (m5 : dd.one = true ∧ cellsOf dd = [dd]) :
    WRep σ' w (fun x => fp x ∨ x = s ∨ x = a') P W A sure (ents ++ [⟨sure + ents.length, dd, s, List.replicate P false⟩]) closed (.sl a' 0 (ents.length + 1) (ents.length + 1) false) := by
  have hw := h.lt w h.wfp
  refine ⟨m1, .inl h.wfp, .inr ⟨a', [], ?_, ?_, ⟨.inr (.inr rfl), by omega⟩, ?_⟩, ?_, ?_, ?_, ?_, ?_⟩
  · simp
  · rw [m3, cellsEs_append]; simp [cellsEs, cellsE]
  · intro e he
    rcases List.mem_append.1 he with he | he
    · have := h.lt _ (h.said e he).2.2.1; omega
    · simp at he; subst he; exact hsa
  · intro e he
    rcases List.mem_append.1 he with he | he
    · have g := h.said e he
      exact ⟨by rw [m4 e he]; exact g.1, g.2.1, .inl g.2.2.1, g.2.2.2⟩
    · simp at he; subst he
      exact ⟨m2, by simp, .inr (.inl rfl), by show s ≠ w; omega⟩
  · rw [List.map_append, List.nodup_append]
    refine ⟨h.apart, by simp, fun x hx y hy => ?_⟩
    obtain ⟨e, he, rfl⟩ := List.mem_map.1 hx
    simp at hy; subst hy
    have := h.lt _ (h.said e he).2.2.1
    omega
  · intro i e he
    by_cases hi : i < ents.length
    · rw [List.getElem?_append_left hi] at he; exact h.num i e he
    · rw [List.getElem?_append_right (by omega)] at he
      have h0 : i - ents.length = 0 := by
        rcases Nat.eq_zero_or_pos (i - ents.length) with h0 | h0
        · exact h0
        · rw [List.getElem?_eq_none (by simp; omega)] at he; cases he
      rw [h0] at he
      simp at he; subst he
      show sure + ents.length = sure + i
      omega
  · intro x hx
    rcases hx with hx | rfl | rfl
    · exact Nat.lt_of_lt_of_le (h.lt x hx) hnx
    · exact hs2
    · exact ha2
  · intro e he
    rcases List.mem_append.1 he with he | he
    · exact h.done e he
    · simp at he; subst he; exact m5

theorem add_c {σ : St} {w : Nat} {fp : Nat → Prop} {P W A sure : Nat} {ents : List WEnt} {closed : Bool} {wv : AVal} (h : WRep σ w fp P W A sure ents closed wv) (hP : P ≤ 7) (hs : sure + ents.length ≤ 1000000) {d : AVal} {k : Nat} {dc : Bool → AVal} (hd : DataOk σ d k dc) (Q : AVal → St → Prop)
    (q1 : closed = true → Q (.tup [u64 0, i64 24]) σ) (q2 : closed = false → 256 < k → Q (.tup [u64 0, i64 3]) σ) (q3 : closed = false → k ≤ 256 → 64 ≤ ents.length → Q (.tup [u64 0, i64 14]) σ)
    (q4 : ∀ (σ' : St) (fp' : Nat → Prop) (s : Nat) (t : Bool) (wv' : AVal), closed = false → k ≤ 256 → ents.length < 64 → WRep σ' w fp' P W A sure (ents ++ [⟨sure + ents.length, dc t, s, List.replicate P false⟩]) false wv' → Keeps fp σ σ' → (∀ a, fp' a → fp a ∨ σ.next ≤ a) → Q (.tup [u64 (sure + ents.length : Nat), i64 0]) σ') :
    ACall Try.prog 21 [.ptr w 0, d] σ Q := by
  refine ACall.of_compF hmx (fun a w => Try.call21 a w) Try.func21 cf21 (n := 2) (by decide) rfl ?_
  have hh := h.head
  have hlt := h.lt w h.wfp
  have hdl := dlen hd
  have hwl : ∀ ρ, evalV ρ (.len 1 wv) = some (i64 ents.length, ρ) := wv_len h.wait
  obtain ⟨z, hz⟩ : ∃ z, sure + ents.length = z := ⟨_, rfl⟩
  cases closed with
  | true =>
    simp [ac21, rs21, lk_cons, hh]
    exact q1 rfl
  | false =>
    by_cases hk : 256 < k
    · have hk' : (256 : Int) < k := by omega
      simp [ac21, rs21, lk_cons, hh, ↓hdl, hk']
      exact q2 rfl hk
    · have hk' : k ≤ 256 := by omega
      have hk2 : ¬ (256 : Int) < k := by omega
      by_cases hw : 64 ≤ ents.length
      · have hw' : (64 : Int) ≤ ents.length := by omega
        simp [ac21, rs21, lk_cons, hh, ↓hdl, ↓hwl, hk2, hw']
        exact q3 rfl hk' hw
      · have hw' : ¬ (64 : Int) ≤ ents.length := by omega
        have hz' : ¬ (1048576 : Int) ≤ z := by omega
        simp [ac21, rs21, lk_cons, hh, ↓hdl, ↓hwl, hk2, hw']
        refine count_c h (by omega) _ ?_
        rw [hz]
        simp [lk_cons, hz']
        refine count_c h (by omega) _ ?_
        rw [hz]
        have hPb : (P : Int) ≤ 9223372036854775807 ∧ (P : Int) ≤ 140737488355328 := by omega
        have e1 : ¬ w = σ.next := by omega
        have e2 : ¬ w = σ.next + 1 := by omega
        have e3 : ¬ w = σ.next + 1 + 1 := by omega
        simp [lk_cons, hh, hPb]
        refine hd.clone _ _ (by simp) (fun a ha => by simp [show ¬ a = σ.next by omega]) fun t => ?_
        have q5 := fun σ' fp' s wv' => q4 σ' fp' s t wv'
        have hone : ∃ dd, dc t = dd ∧ cellsOf dd = [dd] ∧ dd.one = true := by
          rcases hd.one t with e | ⟨cs, n, t', e⟩ <;> exact ⟨_, e, rfl, rfl⟩
        obtain ⟨dd, hdd, one1, one2⟩ := hone
        rw [hdd]
        simp only [hdd] at q5
        rcases h.wait with ⟨rfl, rfl⟩ | ⟨a, pre, rfl, g2, g3, g4⟩
        · simp [lk_cons, hh, e1, e2, e3, one1, one2, fillL, storeL, srcL, repL]
          rw [← hz, ← bv_rep]
          refine q5 _ _ σ.next _ trivial hk' (by simp) (h.add (Nat.le_refl _) (a' := σ.next + 1 + 1) (by omega) (by omega) (by simp; omega) (by simp) (by simp; omega) (by simp) (by simp [Ne.symm e1, show ¬ σ.next = σ.next + 1 + 1 by omega]) ?_ (fun e he => by simp at he) ⟨one2, one1⟩) ⟨by simp; omega, fun a ha hf => ?_⟩ (fun a ha => ?_)
          · simp [Ne.symm e3, cellsEs]
          · have : ¬ a = w := fun e => hf (e ▸ h.wfp)
            simp [this, show ¬ a = σ.next by omega, show ¬ a = σ.next + 1 by omega, show ¬ a = σ.next + 1 + 1 by omega]
          · rcases ha with ha | rfl | rfl
            · exact .inl ha
            · exact .inr (Nat.le_refl _)
            · exact .inr (by omega)
        · have e4 : ¬ a = σ.next := by have := h.lt a g3.1; omega
          have e5 : ¬ a = σ.next + 1 := by have := h.lt a g3.1; omega
          have e6 : ¬ w = a := fun e => g3.2 e.symm
          have gl : ¬ ents.length + 1 ≤ ents.length := by omega
          have gm : ents.length * 3 ≤ 3 * ents.length := by omega
          have gb : (ents.length + 1) * 56 ≤ 140737488355328 ∧ ents.length ≤ 9223372036854775806 := by omega
          simp [lk_cons, hh, e1, e2, e3, e4, e5, e6, g2, gl, gb, gm, one1, one2, fillL, storeL, srcL, repL]
          rw [← hz, ← bv_rep]
          refine q5 _ _ σ.next _ trivial hk' (by omega) (h.add (Nat.le_refl _) (a' := σ.next + 1 + 1) (by omega) (by omega) (by simp; omega) (by simp) (by simp; omega) (by simp) (by simp [Ne.symm e1, Ne.symm e4, show ¬ σ.next = σ.next + 1 + 1 by omega]) ?_ (fun e he => ?_) ⟨one2, one1⟩) ⟨by simp; omega, fun b hb hf => ?_⟩ (fun b hb => ?_)
          · simp [Ne.symm e3]
            exact List.take_of_length_le (by simp; omega)
          · have g := h.said e he
            have g5 := h.lt _ g.2.2.1
            have g6 := g4 e he
            simp [g.2.2.2, g6, show ¬ e.s = σ.next by omega, show ¬ e.s = σ.next + 1 by omega, show ¬ e.s = σ.next + 1 + 1 by omega]
          · have g5 : ¬ b = w := fun e => hf (e ▸ h.wfp)
            have g6 : ¬ b = a := fun e => hf (e ▸ g3.1)
            simp [g5, g6, show ¬ b = σ.next by omega, show ¬ b = σ.next + 1 by omega, show ¬ b = σ.next + 1 + 1 by omega]
          · rcases hb with hb | rfl | rfl
            · exact .inl hb
            · exact .inr (Nat.le_refl _)
            · exact .inr (by omega)
end Go.Proofs.Ytopagbaokokjdaa.AM

namespace Go.Proofs.Ytopagbaokokjdaa.AM
set_option maxRecDepth 100000
set_option linter.unusedVariables false
set_option linter.unusedSimpArgs false

def itemsC : List WEnt → List AVal
  | [] => []
  | e :: es => [u64 e.n, e.d] ++ itemsC es
theorem itemsC_append (a b : List WEnt) : itemsC (a ++ b) = itemsC a ++ itemsC b := by
  induction a with
  | nil => rfl
  | cons e es ih => simp only [List.cons_append, itemsC, ih, List.append_assoc]
@[simp] theorem itemsC_len (es : List WEnt) : (itemsC es).length = 2 * es.length := by
  induction es with
  | nil => rfl
  | cons e es ih => simp only [itemsC, List.length_append, List.length_cons, List.length_nil, ih]; omega

def enoughE (P W A : Nat) (e : WEnt) : Bool := decide (A ≤ cnt e.bs (setP P W e.n))
def setSaid (p : Nat) (b : Bool) (e : WEnt) : WEnt := { e with bs := e.bs.set p b }
/-- The entry at j hears p. -/
def heard (ents : List WEnt) (j p : Nat) : List WEnt := ents.modify j (setSaid p true)

theorem WRep.pop {σ σ' : St} {w : Nat} {fp : Nat → Prop} {P W A sure : Nat} {e : WEnt} {ents : List WEnt} {closed : Bool} {a : Nat} {pre : List AVal} (h : WRep σ w fp P W A sure (e :: ents) closed (.sl a pre.length (ents.length + 1) (ents.length + 1) false))
    (hm : σ.mem.get a = some (.cells 3 (pre ++ cellsEs P (e :: ents)))) (ha : fp a ∧ a ≠ w) (hae : ∀ x ∈ e :: ents, x.s ≠ a)
    (m1 : σ'.mem.get w = some (.cells 6 [i64 P, i64 W, i64 A, u64 (sure + 1 : Nat), .sl a (pre.length + 3) ents.length ents.length false, .bool closed])) (m2 : ∀ x, fp x → x ≠ w → σ'.mem.get x = σ.mem.get x) (hn : σ.next ≤ σ'.next) :
    WRep σ' w fp P W A (sure + 1) ents closed (.sl a (pre.length + 3) ents.length ents.length false) := by
  refine ⟨m1, h.wfp, .inr ⟨a, pre ++ cellsE P e, by simp [cellsE], ?_, ha, fun x hx => hae x (List.mem_cons_of_mem _ hx)⟩, ?_, ?_, ?_, ?_, fun x hx => h.done x (List.mem_cons_of_mem _ hx)⟩
  · rw [m2 a ha.1 ha.2, hm]; simp [cellsEs, List.append_assoc]
  · intro x hx
    have g := h.said x (List.mem_cons_of_mem _ hx)
    exact ⟨by rw [m2 _ g.2.2.1 g.2.2.2]; exact g.1, g.2⟩
  · have := h.apart
    simp only [List.map_cons, List.nodup_cons] at this
    exact this.2
  · intro i x hx
    have := h.num (i + 1) x (by simpa using hx)
    omega
  · intro x hx
    exact Nat.lt_of_lt_of_le (h.lt x hx) hn

def AckJ (w : Nat) (fp : Nat → Prop) (P W A sure : Nat) (ents : List WEnt) (closed : Bool) (σ0 : St) (m : Nat) (r : Regs) (σ' : St) : Prop := ∃ (k : Nat) (wv ov : AVal), m = ents.length - k ∧ k ≤ ents.length ∧ WRep σ' w fp P W A (sure + k) (ents.drop k) closed wv ∧ Keeps fp σ0 σ' ∧
  (∀ (i : Nat) (e : WEnt), i < k → ents[i]? = some e → enoughE P W A e = true) ∧ r = [(0, .ptr w 0), (7, ov)] ∧
  (k = 0 ∧ ov = .nilsl ∨ ∃ o, ov = .sl o 0 k k false ∧ σ0.next ≤ o ∧ o < σ'.next ∧ σ'.mem.get o = some (.cells 2 (itemsC (ents.take k))))
end Go.Proofs.Ytopagbaokokjdaa.AM

namespace Go.Proofs.Ytopagbaokokjdaa.AM
set_option maxRecDepth 100000
set_option linter.unusedVariables false
set_option linter.unusedSimpArgs false

theorem cellsEs_modify (P p : Nat) (b : Bool) : ∀ (ents : List WEnt) (j : Nat), cellsEs P (ents.modify j (setSaid p b)) = cellsEs P ents
  | [], j => by cases j <;> rfl
  | e :: es, 0 => rfl
  | e :: es, j + 1 => by simp only [List.modify_succ_cons, cellsEs, cellsEs_modify P p b es j]

theorem map_s_modify (p : Nat) (b : Bool) : ∀ (ents : List WEnt) (j : Nat), (ents.modify j (setSaid p b)).map (·.s) = ents.map (·.s)
  | [], j => by cases j <;> rfl
  | e :: es, 0 => rfl
  | e :: es, j + 1 => by simp only [List.modify_succ_cons, List.map_cons, map_s_modify p b es j]

theorem WRep.frame {σ σ' : St} {w : Nat} {fp : Nat → Prop} {P W A sure : Nat} {ents : List WEnt} {closed : Bool} {wv : AVal} (h : WRep σ w fp P W A sure ents closed wv) (hm : ∀ a, fp a → σ'.mem.get a = σ.mem.get a) (hn : σ.next ≤ σ'.next) : WRep σ' w fp P W A sure ents closed wv := by
  refine ⟨by rw [hm w h.wfp]; exact h.head, h.wfp, ?_, fun e he => ?_, h.apart, h.num, fun a ha => Nat.lt_of_lt_of_le (h.lt a ha) hn, h.done⟩
  · rcases h.wait with hw | ⟨a, pre, g1, g2, g3, g4⟩
    · exact .inl hw
    · exact .inr ⟨a, pre, g1, by rw [hm a g3.1]; exact g2, g3, g4⟩
  · have g := h.said e he
    exact ⟨by rw [hm _ g.2.2.1]; exact g.1, g.2⟩

theorem WRep.hear {σ : St} {w : Nat} {fp : Nat → Prop} {P W A sure : Nat} {ents : List WEnt} {closed : Bool} {wv : AVal} (h : WRep σ w fp P W A sure ents closed wv) {j : Nat} {e : WEnt} (hj : ents[j]? = some e) (p : Nat) (b : Bool) :
    WRep ⟨σ.mem.set e.s (.cells 1 (bv (e.bs.set p b))), σ.next⟩ w fp P W A sure (ents.modify j (setSaid p b)) closed wv := by
  have hm := List.mem_of_getElem? hj
  have hs := h.said e hm
  have get : ∀ (i : Nat) (x : WEnt), (ents.modify j (setSaid p b))[i]? = some x → ∃ y, ents[i]? = some y ∧ x.n = y.n ∧ x.s = y.s ∧ x.d = y.d ∧ (i = j → x.bs = y.bs.set p b) ∧ (i ≠ j → x = y) := by
    intro i x hx
    rw [List.getElem?_modify] at hx
    cases hy : ents[i]? with
    | none => rw [hy] at hx; simp at hx
    | some y =>
      rw [hy] at hx
      simp only [Option.map_eq_map, Option.map_some, Option.some.injEq] at hx
      by_cases hij : j = i
      · rw [if_pos hij] at hx; subst hx
        exact ⟨y, rfl, rfl, rfl, rfl, fun _ => rfl, fun hne => absurd hij.symm hne⟩
      · rw [if_neg hij] at hx; subst hx
        exact ⟨y, rfl, rfl, rfl, rfl, fun e => absurd e.symm hij, fun _ => rfl⟩
  have inj : ∀ (i : Nat) (y : WEnt), ents[i]? = some y → y.s = e.s → i = j := by
    intro i y hy he
    have h1 : (ents.map (·.s))[i]? = some e.s := by rw [List.getElem?_map, hy]; simp [he]
    have h2 : (ents.map (·.s))[j]? = some e.s := by rw [List.getElem?_map, hj]; rfl
    have hi := (List.getElem?_eq_some_iff.1 h1).1
    exact (List.getElem?_inj hi h.apart).1 (h1.trans h2.symm)
  refine ⟨by simp [Ne.symm hs.2.2.2, h.head], h.wfp, ?_, ?_, by rw [map_s_modify]; exact h.apart, ?_, h.lt, fun x hx => ?_⟩
  · rcases h.wait with ⟨rfl, rfl⟩ | ⟨a, pre, g1, g2, g3, g4⟩
    · simp at hj
    · refine .inr ⟨a, pre, by rw [List.length_modify]; exact g1, ?_, g3, ?_⟩
      · rw [cellsEs_modify]; simp [Ne.symm (g4 e hm), g2]
      · intro x hx
        obtain ⟨i, hi⟩ := List.mem_iff_getElem?.1 hx
        obtain ⟨y, hy, _, e2, _⟩ := get i x hi
        rw [e2]; exact g4 y (List.mem_of_getElem? hy)
  · intro x hx
    obtain ⟨i, hi⟩ := List.mem_iff_getElem?.1 hx
    obtain ⟨y, hy, _, e2, _, e4, e5⟩ := get i x hi
    have gy := h.said y (List.mem_of_getElem? hy)
    by_cases hij : i = j
    · subst hij
      rw [hj] at hy; cases hy
      rw [e2, e4 rfl]
      exact ⟨by simp, by simp [hs.2.1], hs.2.2⟩
    · have hne : ¬ y.s = e.s := fun he => hij (inj i y hy he)
      rw [e5 hij]
      exact ⟨by simp [hne, gy.1], gy.2⟩
  · intro i x hx
    obtain ⟨y, hy, e1, _⟩ := get i x hx
    rw [e1]; exact h.num i y hy
  · obtain ⟨i, hi⟩ := List.mem_iff_getElem?.1 hx
    obtain ⟨y, hy, _, _, e3, _⟩ := get i x hi
    rw [e3]; exact h.done y (List.mem_of_getElem? hy)
end Go.Proofs.Ytopagbaokokjdaa.AM

namespace Go.Proofs.Ytopagbaokokjdaa.AM
set_option maxRecDepth 100000
set_option linter.unusedVariables false
set_option linter.unusedSimpArgs false

def popped (P W A : Nat) : List WEnt → Nat
  | [] => 0
  | e :: es => if enoughE P W A e then 1 + popped P W A es else 0

theorem popped_at (P W A : Nat) : ∀ (es : List WEnt) (k : Nat), k ≤ es.length → (∀ (i : Nat) (e : WEnt), i < k → es[i]? = some e → enoughE P W A e = true) → (∀ e, es[k]? = some e → enoughE P W A e = false) → popped P W A es = k
  | [], k, hk, _, _ => by simp at hk; subst hk; rfl
  | e :: es, 0, _, _, h2 => by simp [popped, h2 e rfl]
  | e :: es, k + 1, hk, h1, h2 => by
    have := popped_at P W A es k (by simpa using hk) (fun i x hi hx => h1 (i + 1) x (by omega) (by simpa using hx)) (fun x hx => h2 x (by simpa using hx))
    simp [popped, h1 0 e (by omega) rfl, this]; omega

theorem bv_set (l : List Bool) (p : Nat) (b : Bool) : (bv l).set p (.bool b) = bv (l.set p b) := by simp [bv, List.map_set]

theorem cellsEs_get {P : Nat} : ∀ {ents : List WEnt} {j : Nat} {e : WEnt}, ents[j]? = some e → (cellsEs P ents)[j * 3]? = some (u64 e.n) ∧ (cellsEs P ents)[j * 3 + 1]? = some e.d ∧ (cellsEs P ents)[j * 3 + 2]? = some (.sl e.s 0 P P true)
  | [], j, e, h => by simp at h
  | x :: es, 0, e, h => by simp at h; subst h; simp [cellsEs, cellsE]
  | x :: es, j + 1, e, h => by
    have := cellsEs_get (P := P) (ents := es) (j := j) (e := e) (by simpa using h)
    have e1 : (j + 1) * 3 = j * 3 + 1 + 1 + 1 := by omega
    simpa [cellsEs, cellsE, e1] using this

theorem pre_get (pre l : List AVal) (i : Nat) : (pre ++ l)[pre.length + i]? = l[i]? := by
  rw [List.getElem?_append_right (by omega)]; congr 1; omega

theorem ack_c {σ : St} {w : Nat} {fp : Nat → Prop} {P W A sure : Nat} {ents : List WEnt} {closed : Bool} {wv : AVal} (h : WRep σ w fp P W A sure ents closed wv) (hq : 1 ≤ A ∧ A ≤ W ∧ W ≤ P ∧ P ≤ 7) (hs : sure + ents.length ≤ 1000000) (place : Int) (n : Nat) (hn : n < 18446744073709551616) (Q : AVal → St → Prop)
    (q1 : (n < sure ∨ sure + ents.length ≤ n ∨ ¬ ∃ y ∈ setP P W n, (y : Int) = place) → Q .nilsl σ)
    (q2 : ∀ (σ' : St) (wv' v : AVal) (p k : Nat), (p : Int) = place → p ∈ setP P W n → sure ≤ n → n < sure + ents.length → k = popped P W A (heard ents (n - sure) p) → WRep σ' w fp P W A (sure + k) ((heard ents (n - sure) p).drop k) closed wv' → Keeps fp σ σ' →
      (k = 0 ∧ v = .nilsl ∨ ∃ t, v = .isl (itemsC ((heard ents (n - sure) p).take k)) k t) → Q v σ') :
    ACall Try.prog 23 [.ptr w 0, i64 place, u64 n] σ Q := by
  refine ACall.freeze1 ?_
  refine ACall.of_compF hmx (fun a w => Try.call23 a w) Try.func23 cf23 (n := 3) (by decide) rfl ?_
  have hh := h.head
  by_cases h1 : n < sure
  · have h1' : (n : Int) < sure := by omega
    simp [ac23, rs23, lk_cons, hh, h1, h1']
    exact (q1 (.inl h1))
  · have h1' : ¬ (n : Int) < sure := by omega
    simp [ac23, rs23, lk_cons, hh, h1, h1']
    refine count_c h (by omega) _ ?_
    obtain ⟨z, hz⟩ : ∃ z, sure + ents.length = z := ⟨_, rfl⟩
    rw [hz]
    by_cases h2 : z ≤ n
    · have h2' : (z : Int) ≤ n := by omega
      simp [lk_cons, hh, h2, h2']
      exact (q1 (.inr (.inl (by omega))))
    · have h2' : ¬ (z : Int) ≤ n := by omega
      simp [lk_cons, hh, h2, h2']
      refine qset P W A n hq hn _ _ ?_
      have hsl := setP_len P W n
      simp [lk_cons]
      have hc := contains_c (setP P W n) false place (by omega)
      rw [hsl] at hc
      refine hc _ _ ?_
      by_cases h3 : ∃ y ∈ setP P W n, (y : Int) = place
      · obtain ⟨p, hp, rfl⟩ := h3
        have hd : decide (∃ y ∈ setP P W n, (y : Int) = (p : Int)) = true := by simpa using ⟨p, hp, rfl⟩
        rw [hd]
        obtain ⟨j, hj⟩ : ∃ j, n - sure = j := ⟨_, rfl⟩
        have hjl : j < ents.length := by omega
        have hwj : IntKind.u64.wrap ((n : Int) - (sure : Int)) = (j : Int) := by rw [IntWalk.u64_in] <;> omega
        obtain ⟨e, he⟩ : ∃ e, ents[j]? = some e := ⟨_, List.getElem?_eq_getElem hjl⟩
        have hpP : p < P := setP_lt (by omega) hp
        have gs := h.said e (List.mem_of_getElem? he)
        rcases h.wait with ⟨rfl, rfl⟩ | ⟨a, pre, rfl, g2, g3, g4⟩
        · simp at he
        · have gc := (cellsEs_get (P := P) he).2.2
          have gp := pre_get pre (cellsEs P ents) (j * 3 + 2)
          rw [← Nat.add_assoc, gc] at gp
          have hpl : p + 1 ≤ e.bs.length := by omega
          simp [lk_cons, hh, hwj, hjl, g2, gp, gs.1, hpP, hpl, storeL, bv_set]
          have h0 : WRep _ w fp P W A sure (heard ents j p) closed _ := h.hear he p true
          have hk0 : Keeps fp σ ⟨σ.mem.set e.s (.cells 1 (bv (e.bs.set p true))), σ.next⟩ := ⟨Nat.le_refl _, fun a ha hf => by
            have : ¬ a = e.s := fun ee => hf (ee ▸ gs.2.2.1)
            simp [this]⟩
          rw [hj] at q2
          replace q2 := fun σ' wv' v k => q2 σ' wv' v p k rfl hp
          have hlen : (heard ents j p).length = ents.length := by simp [heard]
          generalize heard ents j p = es at h0 q2 hlen
          generalize (⟨σ.mem.set e.s (.cells 1 (bv (e.bs.set p true))), σ.next⟩ : St) = σ1 at h0 hk0
          refine wp_loop (AckJ w fp P W A sure es closed σ) es.length ?_ ?_
          · exact ⟨0, _, .nilsl, rfl, by omega, h0, hk0, fun i e hi => by omega, rfl, .inl ⟨rfl, rfl⟩⟩
          · rintro m r σ' ⟨k, wv, ov, rfl, hkl, hr, hke, hen, rfl, ho⟩
            have hr0 := hr.head
            have fin : (∀ e, es[k]? = some e → enoughE P W A e = false) → (Q ov σ' ∨ ∃ n o len cap t es' vals, ov = .sl n o len cap t ∧ σ'.mem.get n = some (.cells es' vals) ∧ σ.next ≤ n ∧ o + len * es' ≤ vals.length ∧ Q (.isl ((vals.drop o).take (len * es')) len (t && decide (cap = len))) ⟨σ'.mem.del n, σ'.next⟩) := by
              intro hnot
              have hpk := popped_at P W A es k hkl hen hnot
              rcases ho with ⟨rfl, rfl⟩ | ⟨o, rfl, o1, o2, o3⟩
              · exact .inl (q2 σ' wv _ 0 (by omega) (by omega) hpk.symm hr hke (.inl ⟨rfl, rfl⟩))
              · refine .inr ⟨o, 0, k, k, false, 2, _, rfl, o3, o1, by simp; omega, ?_⟩
                refine q2 _ wv _ k (by omega) (by omega) hpk.symm ?_ ?_ (.inr ⟨false && decide (k = k), ?_⟩)
                · exact hr.frame (fun a ha => by have := h.lt a ha; simp [show ¬ a = o by omega]) (Nat.le_refl _)
                · exact ⟨hke.1, fun a ha hf => by simp [show ¬ a = o by omega]; exact hke.2 a ha hf⟩
                · rw [List.drop_zero, List.take_of_length_le (by simp; omega)]
            cases hdr : es.drop k with
            | nil =>
              have hk : es.length ≤ k := by
                have := congrArg List.length hdr
                simp at this; omega
              rw [hdr] at hr
              have hf := fin (fun e he => by rw [List.getElem?_eq_none hk] at he; cases he)
              rcases hr.wait with ⟨_, rfl⟩ | ⟨a2, pre2, rfl, g5, g6, g7⟩
              · simp [lk_cons, hr0]
                simpa using hf
              · simp [lk_cons, hr0]
                simpa using hf
            | cons e1 rest =>
              rw [hdr] at hr
              rcases hr.wait with ⟨hc, _⟩ | ⟨a2, pre2, rfl, g5, g6, g7⟩
              · cases hc
              · have gc1 := (cellsEs_get (P := P) (ents := e1 :: rest) (j := 0) (e := e1) rfl).2.2
                have gp1 := pre_get pre2 (cellsEs P (e1 :: rest)) 2
                rw [show 0 * 3 + 2 = 2 from rfl] at gc1
                rw [gc1] at gp1
                have hn1 := hr.num 0 e1 rfl
                have gs1 := hr.said e1 (by simp)
                obtain ⟨c, hc⟩ : ∃ c, sure + k = c := ⟨_, rfl⟩
                have hcast : (sure : Int) + (k : Int) = (c : Int) := by omega
                rw [hc] at hr hn1
                simp only [Nat.add_zero] at hn1
                have hklt : k < es.length := by
                  have := congrArg List.length hdr
                  simp at this; omega
                have hek : es[k]? = some e1 := by
                  have := congrArg (fun l => l[0]?) hdr
                  simpa using this
                simp [lk_cons, hr0, hcast, g5, gp1]
                refine qenough P W A c e1.s e1.bs hq gs1.2.1 (by omega) _ gs1.1 (hr.lt _ gs1.2.2.1) _ ?_
                by_cases hen1 : A ≤ cnt e1.bs (setP P W c)
                · have hdn := hr.done e1 (by simp)
                  have ld : (cellsEs P (e1 :: rest)).take 2 = [u64 c, e1.d] := by
                    simp [cellsEs, cellsE, hn1]
                  obtain ⟨c1, hc1⟩ : ∃ c1, c + 1 = c1 := ⟨_, rfl⟩
                  have wc : IntKind.u64.wrap ((c : Int) + 1) = (c1 : Int) := by rw [IntWalk.u64_in] <;> omega
                  have lb : 2 ≤ 3 * (rest.length + 1) := by omega
                  have n1 := hr.lt w hr.wfp
                  have n2 := h.lt w h.wfp
                  have n3 := h.lt a2 g6.1
                  have n4 := hke.1
                  have f1 : ¬ w = σ'.next := by omega
                  have f2 : ¬ w = σ'.next + 1 := by omega
                  have f3 : ¬ a2 = σ'.next := by omega
                  have f4 : ¬ a2 = σ'.next + 1 := by omega
                  have f5 : ¬ w = a2 := fun e => g6.2 e.symm
                  have b1 : (1 : Int) ≤ (rest.length : Int) + 1 := by omega
                  have hdr1 : es.drop (k + 1) = rest := by rw [← List.drop_drop, hdr]; rfl
                  have hen2 : ∀ (i : Nat) (x : WEnt), i < k + 1 → es[i]? = some x → enoughE P W A x = true := fun i x hi hx => by
                    by_cases hik : i < k
                    · exact hen i x hik hx
                    · have : i = k := by omega
                      subst this
                      rw [hek] at hx; cases hx
                      simp [enoughE, hn1, hen1]
                  have hit : itemsC (es.take (k + 1)) = itemsC (es.take k) ++ [u64 c, e1.d] := by
                    rw [List.take_add_one, hek, itemsC_append]; simp [itemsC, hn1]
                  have hcc : sure + (k + 1) = c + 1 := by omega
                  rcases ho with ⟨hk0, rfl⟩ | ⟨o, rfl, o1, o2, o3⟩
                  · simp [lk_cons, f1, f2, f3, f4, f5, g6.2, b1, asliceSl, bnd, optM, hen1, hr0, g5, ld, lb, hdn.1, hdn.2, hcast, wc, fillL, storeL, repL, srcL]
                    refine ⟨es.length - (k + 1), by omega, k + 1, .sl a2 (pre2.length + 3) rest.length rest.length false, .sl (σ'.next + 1) 0 1 1 false, rfl, by omega, ?_, ⟨by simp; omega, fun x hx hf => ?_⟩, hen2, rfl, .inr ⟨σ'.next + 1, by rw [hk0], by omega, by simp, ?_⟩⟩
                    · rw [hdr1, hcc]
                      refine hr.pop g5 g6 g7 (by simp [hc1]) (fun x hx hxw => ?_) (by simp; omega)
                      have := hr.lt x hx
                      simp [hxw, show ¬ x = σ'.next by omega, show ¬ x = σ'.next + 1 by omega]
                    · have hxw : ¬ x = w := fun e => hf (e ▸ h.wfp)
                      simp [hxw, show ¬ x = σ'.next by omega, show ¬ x = σ'.next + 1 by omega]
                      exact hke.2 x hx hf
                    · simp [Ne.symm f2]
                      rw [hit, hk0]; rfl
                  · have f6 : ¬ w = o := by omega
                    have f7 : ¬ a2 = o := by omega
                    have f8 : ¬ o = σ'.next := by omega
                    have f9 : ¬ o = σ'.next + 1 := by omega
                    have d1 : ¬ k + 1 ≤ k := by omega
                    have d2 : (k + 1) * 32 ≤ 140737488355328 ∧ k ≤ 9223372036854775806 := by omega
                    have d3 : k * 2 ≤ 2 * min k es.length := by omega
                    simp [lk_cons, f1, f2, f3, f4, f5, f6, f7, f8, f9, o3, d1, d2, d3, g6.2, b1, asliceSl, bnd, optM, hen1, hr0, g5, ld, lb, hdn.1, hdn.2, hcast, wc, fillL, storeL, repL, srcL]
                    refine ⟨es.length - (k + 1), by omega, k + 1, .sl a2 (pre2.length + 3) rest.length rest.length false, .sl (σ'.next + 1) 0 (k + 1) (k + 1) false, rfl, by omega, ?_, ⟨by simp; omega, fun x hx hf => ?_⟩, hen2, rfl, .inr ⟨σ'.next + 1, rfl, by omega, by simp, ?_⟩⟩
                    · rw [hdr1, hcc]
                      refine hr.pop g5 g6 g7 (by simp [hc1]) (fun x hx hxw => ?_) (by simp; omega)
                      have := hr.lt x hx
                      have := h.lt x hx
                      simp [hxw, show ¬ x = σ'.next by omega, show ¬ x = σ'.next + 1 by omega, show ¬ x = o by omega]
                    · have hxw : ¬ x = w := fun e => hf (e ▸ h.wfp)
                      simp [hxw, show ¬ x = σ'.next by omega, show ¬ x = σ'.next + 1 by omega, show ¬ x = o by omega]
                      exact hke.2 x hx hf
                    · simp [Ne.symm f2]
                      rw [hit, List.take_of_length_le (by simp; omega)]
                · simp [lk_cons, hen1]
                  simpa using fin (fun e he => by rw [hek] at he; cases he; simp [enoughE, hn1, hen1])
      · have hd : decide (∃ y ∈ setP P W n, (y : Int) = place) = false := by simpa using h3
        rw [hd]
        simp [lk_cons, hh]
        exact (q1 (.inr (.inr h3)))
end Go.Proofs.Ytopagbaokokjdaa.AM

/- Items and how they are compared. -/
namespace Go.Proofs.Ytopagbaokokjdaa.AM
set_option maxRecDepth 100000
set_option linter.unusedVariables false
set_option linter.unusedSimpArgs false

/-- Entries with their bytes, as cells. -/
def ICells : List AVal → List (Nat × List UInt8) → Prop
  | [], [] => True
  | c :: d :: cs, x :: xs => c = u64 (x.1 : Int) ∧ BytesOf d x.2 ∧ ICells cs xs
  | _, _ => False
theorem ICells.len : ∀ {cs : List AVal} {xs : List (Nat × List UInt8)}, ICells cs xs → cs.length = xs.length * 2
  | [], [], _ => rfl
  | c :: d :: cs, x :: xs, h => by have := h.2.2.len; simp [this]; omega
  | [], _ :: _, h => h.elim
  | [_], _, h => by cases ‹List (Nat × List UInt8)› <;> exact h.elim
  | _ :: _ :: _, [], h => h.elim
theorem ICells.get : ∀ {cs : List AVal} {xs : List (Nat × List UInt8)}, ICells cs xs → ∀ {i : Nat} {x : Nat × List UInt8}, xs[i]? = some x → ∃ d, BytesOf d x.2 ∧ (cs.drop (i * 2)).take 2 = [u64 (x.1 : Int), d]
  | c :: d :: cs, y :: xs, h, 0, x, hx => by
    simp at hx; subst hx
    exact ⟨d, h.2.1, by simp [h.1]⟩
  | c :: d :: cs, y :: xs, h, i + 1, x, hx => by
    obtain ⟨d', h1, h2⟩ := h.2.2.get (i := i) (by simpa using hx)
    exact ⟨d', h1, by rw [← h2, show (i + 1) * 2 = i * 2 + 1 + 1 by omega]; rfl⟩
  | [], [], _, _, _, hx => by simp at hx
  | [], _ :: _, h, _, _, _ => h.elim
  | [_], _, h, _, _, _ => by cases ‹List (Nat × List UInt8)› <;> exact h.elim
  | _ :: _ :: _, [], h, _, _, _ => h.elim
theorem ICells.take : ∀ {cs : List AVal} {xs : List (Nat × List UInt8)} (i : Nat), ICells cs xs → ICells (cs.take (i * 2)) (xs.take i)
  | [], [], i, _ => by simp [ICells]
  | c :: d :: cs, x :: xs, 0, _ => by simp [ICells]
  | c :: d :: cs, x :: xs, i + 1, h => by
    rw [show (i + 1) * 2 = i * 2 + 1 + 1 by omega]
    exact ⟨h.1, h.2.1, h.2.2.take i⟩
  | [], _ :: _, _, h => h.elim
  | [_], _, _, h => by cases ‹List (Nat × List UInt8)› <;> exact h.elim
  | _ :: _ :: _, [], _, h => h.elim
theorem ICells.append : ∀ {cs ds : List AVal} {xs ys : List (Nat × List UInt8)}, ICells cs xs → ICells ds ys → ICells (cs ++ ds) (xs ++ ys)
  | [], ds, [], ys, _, h => h
  | c :: d :: cs, ds, x :: xs, ys, h, k => ⟨h.1, h.2.1, h.2.2.append k⟩
  | [], _, _ :: _, _, h, _ => h.elim
  | [_], _, _, _, h, _ => by cases ‹List (Nat × List UInt8)› <;> exact h.elim
  | _ :: _ :: _, _, [], _, h, _ => h.elim
theorem ICells.upto (lo : Nat) : ∀ {cs : List AVal} {xs : List (Nat × List UInt8)}, ICells cs xs → uptoL lo cs = true
  | [], [], _ => rfl
  | c :: d :: cs, x :: xs, h => by simp [h.1, h.2.1.upto lo, h.2.2.upto lo]
  | [], _ :: _, h => h.elim
  | [_], _, h => by cases ‹List (Nat × List UInt8)› <;> exact h.elim
  | _ :: _ :: _, [], h => h.elim

/-- A slice of entries that does not change. -/
def ItemsOf (v : AVal) (xs : List (Nat × List UInt8)) : Prop := v = .nilsl ∧ xs = [] ∨ ∃ cs k t, v = .isl cs k t ∧ k = xs.length ∧ ICells cs xs
theorem ItemsOf.len {v : AVal} {xs : List (Nat × List UInt8)} (h : ItemsOf v xs) (ρ : St) : evalV ρ (.len 1 v) = some (i64 xs.length, ρ) := by
  rcases h with ⟨rfl, rfl⟩ | ⟨cs, k, t, rfl, rfl, _⟩ <;> simp
theorem ItemsOf.one {v : AVal} {xs : List (Nat × List UInt8)} (h : ItemsOf v xs) : v.one = true ∧ cellsOf v = [v] := by
  rcases h with ⟨rfl, rfl⟩ | ⟨cs, k, t, rfl, rfl, _⟩ <;> simp
theorem ItemsOf.upto {v : AVal} {xs : List (Nat × List UInt8)} (h : ItemsOf v xs) (lo : Nat) : v.upto lo = true := by
  rcases h with ⟨rfl, rfl⟩ | ⟨cs, k, t, rfl, rfl, hc⟩
  · rfl
  · simp [hc.upto lo]

theorem bequal_c {a b : AVal} {l l' : List UInt8} (ha : BytesOf a l) (hb : BytesOf b l') (σ : St) (Q : AVal → St → Prop) (h : Q (.bool (decide (l = l'))) σ) : ACall Try.prog 28 [a, b] σ Q := by
  refine ACall.of_compF hmx (fun a w => Try.call28 a w) Try.func28 cf28 (n := 2) (by decide) rfl ?_
  have s1 := ha.str
  have s2 := hb.str
  simp [ac28, rs28, lk_cons, ↓s1, ↓s2, str_eq]
  exact h

theorem clone_bytes {d : AVal} {l : List UInt8} (hd : BytesOf d l) (hl : l.length ≤ 140737488355328) (σ : St) (Q : AVal → St → Prop) (h : ∀ d', BytesOf d' l → Q d' σ) : ACall Try.prog 30 [d] σ Q := by
  rcases hd with ⟨rfl, rfl⟩ | ⟨t, rfl⟩
  · exact clone_nil σ Q (h _ (.inl ⟨rfl, rfl⟩))
  · exact clone_isl (bytesV l) l.length t (bytesV_len l) hl σ (bytesV_upto _ l) Q (fun t => h _ (.inr ⟨t, rfl⟩))

def SameJ (x y : AVal) (xs ys : List (Nat × List UInt8)) (σ0 : St) (m : Nat) (r : Regs) (σ' : St) : Prop := ∃ i : Nat, m = xs.length - i ∧ i ≤ xs.length ∧ xs.take i = ys.take i ∧ σ' = σ0 ∧ r = [(0, x), (1, y), (5, i64 i)]

theorem same_c {x y : AVal} {xs ys : List (Nat × List UInt8)} (hx : ItemsOf x xs) (hy : ItemsOf y ys) (hl : xs.length ≤ 1000000) (σ : St) (Q : AVal → St → Prop) (h : Q (.bool (decide (xs = ys))) σ) : ACall Try.prog 19 [x, y] σ Q := by
  refine ACall.of_compF hmx (fun a w => Try.call19 a w) Try.func19 cf19 (n := 2) (by decide) rfl ?_
  have l1 := hx.len
  have l2 := hy.len
  simp [ac19, rs19, lk_cons, ↓l1, ↓l2]
  by_cases hlen : xs.length = ys.length
  · have hlen' : (xs.length : Int) = ys.length := by omega
    simp [lk_cons, hlen, hlen']
    refine wp_loop (SameJ x y xs ys σ) xs.length ?_ ?_
    · exact ⟨0, rfl, by omega, rfl, rfl, rfl⟩
    · rintro m r σ' ⟨i, rfl, hi, hp, rfl, rfl⟩
      by_cases hlt : i < xs.length
      · have hlt2 : i < ys.length := by omega
        obtain ⟨p, hpx⟩ : ∃ p, xs[i]? = some p := ⟨_, List.getElem?_eq_getElem hlt⟩
        obtain ⟨q, hqy⟩ : ∃ q, ys[i]? = some q := ⟨_, List.getElem?_eq_getElem hlt2⟩
        obtain ⟨k, hk⟩ : ∃ k, i + 1 = k := ⟨_, rfl⟩
        have hw : IntKind.i64.wrap ((i : Int) + 1) = (k : Int) := by rw [IntWalk.i64_in] <;> omega
        rcases hx with ⟨rfl, rfl⟩ | ⟨cs, kk, t, rfl, rfl, hc⟩
        · simp at hpx
        rcases hy with ⟨rfl, rfl⟩ | ⟨ds, kk', t', rfl, rfl, hd⟩
        · simp at hqy
        obtain ⟨a, ha, e1⟩ := hc.get hpx
        obtain ⟨b, hb, e2⟩ := hd.get hqy
        have s1 := ha.str
        have s2 := hb.str
        have notEq : p ≠ q → ¬ xs = ys := by
          intro hne he
          subst he
          rw [hpx] at hqy; cases hqy; exact hne rfl
        by_cases hn : p.1 = q.1
        · have hn' : (p.1 : Int) = (q.1 : Int) := by omega
          by_cases hl2 : p.2 = q.2
          · have hpq : p = q := by cases p; cases q; simp_all
            simp [lk_cons, ↓l1, hlt, hlt2, e1, e2, ↓s1, ↓s2, hn, hl2, str_ne, hw]
            exact ⟨xs.length - k, by omega, k, rfl, by omega, by rw [← hk, List.take_add_one, List.take_add_one, hp, hpx, hqy, hpq], rfl, rfl⟩
          · have := notEq (fun e => hl2 (by rw [e]))
            simp [this] at h
            simp [lk_cons, ↓l1, hlt, hlt2, e1, e2, ↓s1, ↓s2, hn, hl2, str_ne]
            exact h
        · have := notEq (fun e => hn (by rw [e]))
          simp [this] at h
          have hn' : ¬ (p.1 : Int) = (q.1 : Int) := by omega
          simp [lk_cons, ↓l1, hlt, hlt2, e1, e2, ↓s1, ↓s2, hn, hn', str_ne]
          exact h
      · have : i = xs.length := by omega
        subst this
        have : xs = ys := by rwa [List.take_length, hlen, List.take_length] at hp
        simp [this] at h
        simp [lk_cons, ↓l1]
        exact h
  · have hlen' : ¬ (xs.length : Int) = ys.length := by omega
    have : ¬ xs = ys := fun e => hlen (by rw [e])
    simp [this] at h
    simp [lk_cons, hlen, hlen']
    exact h
end Go.Proofs.Ytopagbaokokjdaa.AM

/- Menders: what is asked of the items that come. -/
namespace Go.Proofs.Ytopagbaokokjdaa.AM
set_option maxRecDepth 100000
set_option linter.unusedVariables false
set_option linter.unusedSimpArgs false

theorem other_c (n : Nat) (d : AVal) (l : List UInt8) (b m : Nat) (d' : AVal) (l' : List UInt8) (h1 : BytesOf d l) (h2 : BytesOf d' l') (σ : St) (hb : σ.mem.get b = some (.cells 2 [u64 (m : Int), d'])) (hlt : b < σ.next) (Q : AVal → St → Prop) (h : Q (.bool (decide (n = m ∧ l ≠ l'))) σ) :
    ACall Try.prog 27 [.agg [u64 (n : Int), d], .ptr b 0] σ Q := by
  refine ACall.scrub ?_
  refine ACall.of_compF hmx (fun a w => Try.call27 a w) Try.func27 cf27 (n := 2) (by decide) rfl ?_
  have e1 : ¬ b = σ.next := by omega
  by_cases hn : n = m
  · have hn' : (n : Int) = (m : Int) := by omega
    simp [ac27, rs27, lk_cons, h1.one, hb, e1, hn, hn']
    refine bequal_c h1 h2 _ _ ?_
    by_cases hl : l = l'
    · simp [hn, hl] at h
      simp [lk_cons, hl]
      exact ⟨fun a ha => by simp [show ¬ a = σ.next by omega], h⟩
    · simp [hn, hl] at h
      simp [lk_cons, hl]
      exact ⟨fun a ha => by simp [show ¬ a = σ.next by omega], h⟩
  · have hn' : ¬ (n : Int) = (m : Int) := by omega
    simp [hn] at h
    simp [ac27, rs27, lk_cons, h1.one, hb, e1, hn, hn']
    exact ⟨fun a ha => by simp [show ¬ a = σ.next by omega], h⟩

def hasOther (xs : List (Nat × List UInt8)) (m : Nat) (l : List UInt8) : Bool := xs.any fun x => decide (x.1 = m ∧ x.2 ≠ l)

def IdxJ (v fv : AVal) (xs : List (Nat × List UInt8)) (m : Nat) (l : List UInt8) (σ0 : St) (mm : Nat) (r : Regs) (σ' : St) : Prop := ∃ i : Nat, mm = xs.length - i ∧ i ≤ xs.length ∧ hasOther (xs.take i) m l = false ∧ σ' = σ0 ∧ r = [(0, v), (1, fv), (7, i64 xs.length), (8, i64 i)]

theorem indexf_c {v : AVal} {xs : List (Nat × List UInt8)} (hv : ItemsOf v xs) (hl : xs.length ≤ 1000000) (b m : Nat) (d' : AVal) (l' : List UInt8) (h2 : BytesOf d' l') (σ : St) (hb : σ.mem.get b = some (.cells 2 [u64 (m : Int), d'])) (hlt : b < σ.next) (Q : AVal → St → Prop) (h : ∀ r : Int, (0 ≤ r ↔ hasOther xs m l' = true) → Q (i64 r) σ) :
    ACall Try.prog 38 [v, .fn 27 [] [.ptr b 0]] σ Q := by
  refine ACall.of_compF hmx (fun a w => Try.call38 a w) Try.func38 cf38 (n := 2) (by decide) rfl ?_
  have l1 := hv.len
  simp [ac38, rs38, lk_cons, ↓l1]
  refine wp_loop (IdxJ v (.fn 27 [] [.ptr b 0]) xs m l' σ) xs.length ?_ ?_
  · exact ⟨0, rfl, by omega, rfl, rfl, rfl⟩
  · rintro mm r σ' ⟨i, rfl, hi, hp, rfl, rfl⟩
    by_cases hlt : i < xs.length
    · obtain ⟨p, hpx⟩ : ∃ p, xs[i]? = some p := ⟨_, List.getElem?_eq_getElem hlt⟩
      obtain ⟨k, hk⟩ : ∃ k, i + 1 = k := ⟨_, rfl⟩
      have hw : IntKind.i64.wrap ((i : Int) + 1) = (k : Int) := by rw [IntWalk.i64_in] <;> omega
      rcases hv with ⟨rfl, rfl⟩ | ⟨cs, kk, t, rfl, rfl, hc⟩
      · simp at hpx
      obtain ⟨a, ha, e1⟩ := hc.get hpx
      have hstep : hasOther (xs.take k) m l' = decide (p.1 = m ∧ p.2 ≠ l') := by
        rw [hasOther] at hp
        rw [← hk, List.take_add_one, hpx, hasOther, List.any_append, hp]
        simp
      simp [lk_cons, hlt, e1]
      refine other_c p.1 a p.2 b m d' l' ha h2 _ hb (by assumption) _ ?_
      by_cases hh : p.1 = m ∧ p.2 ≠ l'
      · simp [lk_cons, hh]
        refine h i ⟨fun _ => ?_, fun _ => by omega⟩
        rw [hasOther, List.any_eq_true]
        exact ⟨p, List.mem_of_getElem? hpx, by simpa using hh⟩
      · have hd : decide (p.1 = m ∧ p.2 ≠ l') = false := by simpa using hh
        rw [hd] at hstep
        rw [hd]
        simp [lk_cons, hw]
        exact ⟨xs.length - k, by omega, k, rfl, by omega, hstep, rfl, rfl⟩
    · have : i = xs.length := by omega
      subst this
      rw [List.take_length] at hp
      simp [lk_cons]
      exact h (-1) ⟨fun h => by omega, fun h => by rw [hp] at h; cases h⟩

theorem containsf_c {v : AVal} {xs : List (Nat × List UInt8)} (hv : ItemsOf v xs) (hl : xs.length ≤ 1000000) (b m : Nat) (d' : AVal) (l' : List UInt8) (h2 : BytesOf d' l') (σ : St) (hb : σ.mem.get b = some (.cells 2 [u64 (m : Int), d'])) (hlt : b < σ.next) (Q : AVal → St → Prop) (h : Q (.bool (hasOther xs m l')) σ) :
    ACall Try.prog 29 [v, .fn 27 [] [.ptr b 0]] σ Q := by
  refine ACall.of_compF hmx (fun a w => Try.call29 a w) Try.func29 cf29 (n := 2) (by decide) rfl ?_
  simp [ac29, rs29, lk_cons]
  refine indexf_c hv hl b m d' l' h2 σ hb hlt _ fun r hr => ?_
  simp [lk_cons]
  have : decide (0 ≤ r) = hasOther xs m l' := by
    rw [Bool.eq_iff_iff, decide_eq_true_eq]; exact hr
  rw [this]; exact h

/-! ### What a map of entries holds -/

def lkp (its : List (Nat × List UInt8)) (k : Nat) : Option (List UInt8) := its.lookup k
/-- Entries of the map, and what they stand for. -/
def EItem (e : Entry) (it : Nat × List UInt8) : Prop := e.2.1 = u64 (it.1 : Int) ∧ BytesOf e.2.2 it.2

def EItemR (R : AVal → List UInt8 → Prop) (e : Entry) (it : Nat × List UInt8) : Prop := e.2.1 = u64 (it.1 : Int) ∧ R e.2.2 it.2
theorem findA_gen {R : AVal → List UInt8 → Prop} {k : Nat} : ∀ {ents : List Entry} {its : List (Nat × List UInt8)}, All2 (EItemR R) ents its → (findA (u64 (k : Int)) ents = some none ∧ its.lookup k = none) ∨ ∃ i d l, findA (u64 (k : Int)) ents = some (some (i, d)) ∧ its.lookup k = some l ∧ R d l ∧ (∀ (v : List UInt8) (d' : AVal), R d' v → All2 (EItemR R) (ents.modify i fun e => (e.1, u64 (k : Int), d')) (its.modify i fun x => (k, v))) ∧ ∀ (v : List UInt8) (q : Nat), (its.modify i fun x => (k, v)).lookup q = if q = k then some v else its.lookup q
  | [], [], _ => .inl ⟨rfl, rfl⟩
  | (st, y, d) :: ents, (n, l) :: its, h => by
    obtain ⟨⟨hy, hd⟩, ht⟩ := h
    simp only at hy
    subst hy
    by_cases hnk : k = n
    · subst hnk
      refine .inr ⟨0, d, l, by simp [findA, keyEqA, keyEq], by simp [List.lookup], hd, fun v d' hv => ⟨⟨rfl, hv⟩, ht⟩, fun v q => ?_⟩
      simp only [List.modify_zero_cons, List.lookup]
      by_cases hq : q = k
      · subst hq; simp
      · have : (q == k) = false := by simpa using hq
        simp [this, hq]
    · have hkn : ¬ (k : Int) = (n : Int) := by omega
      have hb : (k == n) = false := by simpa using hnk
      have hf : keyEqA (u64 (k : Int)) (u64 (n : Int)) = some false := by simp [keyEqA, keyEq, hkn]
      rcases findA_gen (k := k) ht with ⟨h1, h2⟩ | ⟨i, d1, l1, h1, h2, h3, h4, h5⟩
      · exact .inl ⟨by simp only [findA]; rw [hf]; simp only; rw [h1]; rfl, by simp [List.lookup, hb, h2]⟩
      · refine .inr ⟨i + 1, d1, l1, by simp only [findA]; rw [hf]; simp only; rw [h1]; rfl, by simp [List.lookup, hb, h2], h3, fun v d' hv => ?_, fun v q => ?_⟩
        · simp only [List.modify_succ_cons]
          exact ⟨⟨rfl, hd⟩, h4 v d' hv⟩
        · simp only [List.modify_succ_cons, List.lookup]
          by_cases hq : q = n
          · subst hq
            have : ¬ q = k := fun e => hnk e.symm
            simp [this]
          · have : (q == n) = false := by simpa using hq
            simp [this, h5]
  | [], _ :: _, h => h.elim
  | _ :: _, [], h => h.elim

theorem findA_its {k : Nat} {ents : List Entry} {its : List (Nat × List UInt8)} (h : All2 EItem ents its) : (findA (u64 (k : Int)) ents = some none ∧ its.lookup k = none) ∨ ∃ i d l, findA (u64 (k : Int)) ents = some (some (i, d)) ∧ its.lookup k = some l ∧ BytesOf d l ∧ (∀ (v : List UInt8) (d' : AVal), BytesOf d' v → All2 EItem (ents.modify i fun e => (e.1, u64 (k : Int), d')) (its.modify i fun x => (k, v))) ∧ ∀ (v : List UInt8) (q : Nat), (its.modify i fun x => (k, v)).lookup q = if q = k then some v else its.lookup q :=
  findA_gen (R := BytesOf) h

theorem lookup_snoc {its : List (Nat × List UInt8)} {k : Nat} {v : List UInt8} (h : its.lookup k = none) (q : Nat) : (its ++ [(k, v)]).lookup q = if q = k then some v else its.lookup q := by
  induction its with
  | nil =>
    by_cases hq : q = k
    · subst hq; simp [List.lookup]
    · have : (q == k) = false := by simpa using hq
      simp [List.lookup, this, hq]
  | cons x its ih =>
    obtain ⟨n, l⟩ := x
    simp only [List.lookup] at h
    split at h
    · cases h
    · rename_i hb
      have ih := ih h
      simp only [List.cons_append, List.lookup]
      by_cases hq : q = n
      · subst hq
        have : ¬ q = k := fun e => by subst e; simp at hb
        simp [this]
      · have : (q == n) = false := by simpa using hq
        simp [this, ih]

/-- A mender in memory. -/
structure MRep (σ : St) (m hb mp : Nat) (P W A : Nat) (heard : List Bool) (sure : Nat) (its : List (Nat × List UInt8)) : Prop where
  head : σ.mem.get m = some (.cells 6 [i64 P, i64 W, i64 A, .sl hb 0 P P true, u64 sure, .map mp])
  heard : σ.mem.get hb = some (.cells 1 (bv heard)) ∧ heard.length = P
  map : ∃ clock ents, σ.mem.get mp = some (.map clock ents) ∧ All2 EItem ents its
  ne : m ≠ hb ∧ m ≠ mp ∧ hb ≠ mp
  lt : m < σ.next ∧ hb < σ.next ∧ mp < σ.next

theorem MRep.frame {σ σ' : St} {m hb mp P W A : Nat} {heard : List Bool} {sure : Nat} {its : List (Nat × List UInt8)} (h : MRep σ m hb mp P W A heard sure its) (hm : ∀ a, a = m ∨ a = hb ∨ a = mp → σ'.mem.get a = σ.mem.get a) (hn : σ.next ≤ σ'.next) : MRep σ' m hb mp P W A heard sure its :=
  ⟨by rw [hm m (.inl rfl)]; exact h.head, by rw [hm hb (.inr (.inl rfl))]; exact h.heard, by rw [hm mp (.inr (.inr rfl))]; exact h.map, h.ne, ⟨by have := h.lt; omega, by have := h.lt; omega, by have := h.lt; omega⟩⟩

theorem mnew_c (P W A : Nat) (hq : 1 ≤ A ∧ A ≤ W ∧ W ≤ P ∧ P ≤ 7) (σ : St) (Q : AVal → St → Prop) (h : ∀ m hb mp σ', MRep σ' m hb mp P W A (List.replicate P false) 0 [] → σ.next ≤ σ'.next → (∀ a, a < σ.next → σ'.mem.get a = σ.mem.get a) → σ.next ≤ m ∧ σ.next ≤ hb ∧ σ.next ≤ mp → Q (.tup [.ptr m 0, i64 0]) σ') :
    ACall Try.prog 9 [qv P W A] σ Q := by
  refine ACall.of_compF hmx (fun a w => Try.call9 a w) Try.func9 cf9 (n := 1) (by decide) rfl ?_
  simp [ac9, rs9, lk_cons]
  refine qcheck _ _ _ _ _ ?_
  have hd : decide ((1:Int) ≤ A ∧ (A:Int) ≤ W ∧ (W:Int) ≤ P ∧ (P:Int) ≤ 7) = true := by simp; omega
  rw [hd]
  have d3 : (P : Int) ≤ 140737488355328 ∧ (P : Int) ≤ 9223372036854775807 := by omega
  have hrep : repL P [AVal.bool false] = bv (List.replicate P false) := by
    have : ∀ p, repL p [AVal.bool false] = bv (List.replicate p false) := by
      intro p
      induction p with
      | zero => rfl
      | succ p ih => simp only [repL, List.replicate_succ, List.flatten_cons] at ih ⊢; rw [ih]; rfl
    exact this P
  simp [lk_cons, fillL, storeL, d3.1, d3.2, hrep]
  have e1 : ¬ σ.next + 1 = σ.next + 1 + 1 + 1 := by omega
  have e2 : ¬ σ.next + 1 = σ.next + 1 + 1 := by omega
  have e3 : ¬ σ.next + 1 + 1 = σ.next + 1 + 1 + 1 := by omega
  refine h (σ.next + 1 + 1 + 1) (σ.next + 1) (σ.next + 1 + 1) _ ⟨by simp, ?_, ⟨0, [], ?_, trivial⟩, ⟨by omega, by omega, by omega⟩, ⟨Nat.lt_succ_self _, Nat.lt_succ_of_lt (Nat.lt_succ_of_lt (Nat.lt_succ_self _)), Nat.lt_succ_of_lt (Nat.lt_succ_self _)⟩⟩ (by simp; omega) ?_ ⟨by omega, by omega, by omega⟩
  · simp [e1, e2, show ¬ σ.next + 1 = σ.next + 2 by omega, show ¬ σ.next + 1 = σ.next + 3 by omega]
  · simp [e3, show ¬ σ.next + 2 = σ.next + 3 by omega]
  · intro a ha
    simp [show ¬ a = σ.next by omega, show ¬ a = σ.next + 1 by omega, show ¬ a = σ.next + 1 + 1 by omega, show ¬ a = σ.next + 2 by omega, show ¬ a = σ.next + 1 + 1 + 1 by omega, show ¬ a = σ.next + 3 by omega]

/-! ### What a mender hears -/

def confP (F : Nat → Option (List UInt8)) : List (Nat × List UInt8) → List (Nat × List UInt8) → Bool
  | _, [] => false
  | pre, x :: xs => (match F x.1 with
    | some old => decide (old ≠ x.2)
    | none => false) || hasOther pre x.1 x.2 || confP F (pre ++ [x]) xs

def insF (F : Nat → Option (List UInt8)) (xs : List (Nat × List UInt8)) : Nat → Option (List UInt8) := xs.foldl (fun F x => fun q => if q = x.1 then some x.2 else F q) F
theorem insF_snoc (F : Nat → Option (List UInt8)) (xs : List (Nat × List UInt8)) (x : Nat × List UInt8) : insF F (xs ++ [x]) = fun q => if q = x.1 then some x.2 else insF F xs q := by
  simp [insF, List.foldl_append]

def Grow (σ σ' : St) : Prop := σ.next ≤ σ'.next ∧ ∀ a, a < σ.next → σ'.mem.get a = σ.mem.get a

def HearJ1 (m : Nat) (place : Int) (s : Nat) (v : AVal) (F : Nat → Option (List UInt8)) (xs : List (Nat × List UInt8)) (σ0 : St) (mm : Nat) (r : Regs) (σ' : St) : Prop := ∃ i : Nat, mm = xs.length - i ∧ i ≤ xs.length ∧ Grow σ0 σ' ∧ confP F [] xs = confP F (xs.take i) (xs.drop i) ∧
  r = [(0, .ptr m 0), (1, i64 place), (2, u64 s), (3, v), (35, v), (36, i64 xs.length), (37, i64 i)]

def Keep3 (m hb mp : Nat) (σ σ' : St) : Prop := σ.next ≤ σ'.next ∧ ∀ a, a < σ.next → a ≠ m → a ≠ hb → a ≠ mp → σ'.mem.get a = σ.mem.get a

def HearJ2 (m hb mp P W A : Nat) (heard : List Bool) (sure : Nat) (place : Int) (s : Nat) (v : AVal) (F : Nat → Option (List UInt8)) (b0 : Nat) (xs : List (Nat × List UInt8)) (σ0 : St) (mm : Nat) (r : Regs) (σ' : St) : Prop := ∃ (i : Nat) (its : List (Nat × List UInt8)), mm = xs.length - i ∧ i ≤ xs.length ∧ MRep σ' m hb mp P W A heard sure its ∧ Keep3 m hb mp σ0 σ' ∧ (∀ q, lkp its q = insF F (xs.take i) q) ∧ its.length ≤ b0 + i ∧
  r = [(0, .ptr m 0), (1, i64 place), (2, u64 s), (69, v), (70, i64 xs.length), (71, i64 i)]

theorem hear_c {σ : St} {m hb mp P W A : Nat} {heard : List Bool} {sure : Nat} {its : List (Nat × List UInt8)} (h : MRep σ m hb mp P W A heard sure its) (hP : P ≤ 7) (place : Int) (s : Nat) {v : AVal} {xs : List (Nat × List UInt8)} (hv : ItemsOf v xs) (hxl : xs.length ≤ 1000) (hbl : ∀ x ∈ xs, x.2.length ≤ 140737488355328) (Q : AVal → St → Prop)
    (q0 : (place < 0 ∨ (P : Int) ≤ place ∨ 1048576 < s) → Q (i64 2) σ)
    (q1 : 0 ≤ place → place < P → s ≤ 1048576 → confP (lkp its) [] xs = true → ∀ σ', Grow σ σ' → Q (i64 21) σ')
    (q2 : ∀ (p : Nat) (σ' : St) (its' : List (Nat × List UInt8)), place = p → p < P → s ≤ 1048576 → confP (lkp its) [] xs = false → (∀ q, lkp its' q = insF (lkp its) xs q) → its'.length ≤ its.length + xs.length → MRep σ' m hb mp P W A (heard.set p true) (max sure s) its' → Keep3 m hb mp σ σ' → Q (i64 0) σ') :
    ACall Try.prog 13 [.ptr m 0, i64 place, u64 (s : Int), v] σ Q := by
  refine ACall.of_compF hmx (fun a w => Try.call13 a w) Try.func13 cf13 (n := 4) (by decide) rfl ?_
  have hh := h.head
  have l1 := hv.len
  by_cases hp0 : place < 0
  · simp [ac13, rs13, lk_cons, hp0]
    exact q0 (.inl hp0)
  by_cases hp1 : (P : Int) ≤ place
  · simp [ac13, rs13, lk_cons, hp0, hp1, hh]
    exact q0 (.inr (.inl hp1))
  by_cases hs : 1048576 < s
  · have hs' : (1048576 : Int) < s := by omega
    simp [ac13, rs13, lk_cons, hp0, hp1, hh, hs, hs']
    exact q0 (.inr (.inr hs))
  have hs' : ¬ (1048576 : Int) < s := by omega
  obtain ⟨p, rfl⟩ : ∃ p : Nat, place = p := ⟨place.toNat, by omega⟩
  have hpP : p < P := by omega
  simp [ac13, rs13, lk_cons, hp0, hp1, hh, hs, hs', ↓l1, show ¬ P ≤ p by omega]
  refine wp_loop (HearJ1 m p s v (lkp its) xs σ) xs.length ?_ ?_
  · exact ⟨0, rfl, by omega, ⟨Nat.le_refl _, fun _ _ => rfl⟩, rfl, rfl⟩
  · rintro mm r σ' ⟨i, rfl, hi, hg, hc, rfl⟩
    by_cases hlt : i < xs.length
    · obtain ⟨x, hx⟩ : ∃ x, xs[i]? = some x := ⟨_, List.getElem?_eq_getElem hlt⟩
      obtain ⟨k, hk⟩ : ∃ k, i + 1 = k := ⟨_, rfl⟩
      have hw : IntKind.i64.wrap ((i : Int) + 1) = (k : Int) := by rw [IntWalk.i64_in] <;> omega
      have hv0 := hv
      rcases hv with ⟨rfl, rfl⟩ | ⟨cs, kk, t, rfl, hkk, hic⟩
      · simp at hx
      obtain ⟨d, hd, e1⟩ := hic.get hx
      have hlt3 := h.lt
      have gm : σ'.mem.get m = _ := (hg.2 m hlt3.1).trans hh
      obtain ⟨clock, ents, g1, g2⟩ := h.map
      have gp : σ'.mem.get mp = _ := (hg.2 mp hlt3.2.2).trans g1
      have e2 : ¬ m = σ'.next := by have := hg.1; omega
      have e3 : ¬ mp = σ'.next := by have := hg.1; omega
      have hdr : xs.drop i = x :: xs.drop k := by
        rw [List.drop_eq_getElem_cons hlt, hk]; congr 1; exact (List.getElem?_eq_some_iff.1 hx).2
      have htk : xs.take k = xs.take i ++ [x] := by rw [← hk, List.take_add_one, hx]; rfl
      rw [hdr] at hc
      simp only [confP] at hc
      rw [← htk] at hc
      have d1 := hd.one
      have hi2 : i ≤ kk := by omega
      have hlt' : i < kk := by omega
      rcases findA_its (k := x.1) g2 with ⟨f1, f2⟩ | ⟨ix, d0, l0, f1, f2, f3, _⟩
      · simp only [lkp, f2] at hc
        simp [lk_cons, ← hkk, hlt', e1, d1, storeL, gm, gp, e2, e3, keyIs, shapeOk, kShape, f1, optM, asliceSl, bnd, hi2]
        have hsl : ItemsOf (.isl (cs.take (i * 2)) i (t && i == kk)) (xs.take i) := .inr ⟨_, _, _, rfl, by rw [List.length_take]; omega, hic.take i⟩
        refine containsf_c hsl (by rw [List.length_take]; omega) σ'.next x.1 d x.2 hd _ (by simp) (by simp) _ ?_
        have hgr : Grow σ ⟨(σ'.mem.set σ'.next (.cells 2 [u64 0, .nilsl])).set σ'.next (.cells 2 [u64 (x.1 : Int), d]), σ'.next + 1⟩ := ⟨by have := hg.1; simp; omega, fun a ha => by have := hg.1; simp [show ¬ a = σ'.next by omega]; exact hg.2 a ha⟩
        cases hho : hasOther (xs.take i) x.1 x.2 with
        | true =>
          rw [hho] at hc
          simp at hc
          simp [lk_cons]
          exact q1 (by omega) (by omega) (by omega) hc _ hgr
        | false =>
          rw [hho] at hc
          simp at hc
          simp [lk_cons, hw]
          exact ⟨xs.length - k, by omega, k, rfl, by omega, hgr, hc, by simp [hkk]⟩
      · simp only [lkp, f2] at hc
        simp [lk_cons, ← hkk, hlt', e1, d1, storeL, gm, gp, e2, e3, keyIs, shapeOk, kShape, f1, optM, asliceSl, bnd, hi2]
        refine bequal_c f3 hd _ _ ?_
        have hsl : ItemsOf (.isl (cs.take (i * 2)) i (t && i == kk)) (xs.take i) := .inr ⟨_, _, _, rfl, by rw [List.length_take]; omega, hic.take i⟩
        have hgr : Grow σ ⟨(σ'.mem.set σ'.next (.cells 2 [u64 0, .nilsl])).set σ'.next (.cells 2 [u64 (x.1 : Int), d]), σ'.next + 1⟩ := ⟨by have := hg.1; simp; omega, fun a ha => by have := hg.1; simp [show ¬ a = σ'.next by omega]; exact hg.2 a ha⟩
        by_cases hne : l0 = x.2
        · subst hne
          simp [lk_cons, optM, asliceSl, bnd, hi2]
          refine containsf_c hsl (by rw [List.length_take]; omega) σ'.next x.1 d x.2 hd _ (by simp) (by simp) _ ?_
          cases hho : hasOther (xs.take i) x.1 x.2 with
          | true =>
            rw [hho] at hc
            simp at hc
            simp [lk_cons]
            exact q1 (by omega) (by omega) (by omega) hc _ hgr
          | false =>
            rw [hho] at hc
            simp at hc
            simp [lk_cons, hw]
            exact ⟨xs.length - k, by omega, k, rfl, by omega, hgr, hc, by simp [hkk]⟩
        · simp [hne] at hc
          simp [lk_cons, hne]
          exact q1 (by omega) (by omega) (by omega) hc _ hgr
    · have : i = xs.length := by omega
      subst this
      simp [lk_cons, ↓l1]
      rw [List.take_length, List.drop_length] at hc
      have hc0 : confP (lkp its) [] xs = false := hc
      have hlt3 := h.lt
      refine wp_loop (HearJ2 m hb mp P W A heard sure p s v (lkp its) its.length xs σ) xs.length ?_ ?_
      · exact ⟨0, its, rfl, by omega, h.frame (fun a ha => hg.2 a (by omega)) hg.1, ⟨hg.1, fun a ha _ _ _ => hg.2 a ha⟩, fun q => rfl, Nat.le_refl _, rfl⟩
      · clear hg hc
        rintro mm r σ'' ⟨i, its', rfl, hi, hr, hk3, hits, hil, rfl⟩
        have hh2 := hr.head
        obtain ⟨clock, ents, g1, g2⟩ := hr.map
        have hlt4 := hr.lt
        have hne := hr.ne
        by_cases hlt : i < xs.length
        · obtain ⟨x, hx⟩ : ∃ x, xs[i]? = some x := ⟨_, List.getElem?_eq_getElem hlt⟩
          obtain ⟨k, hk⟩ : ∃ k, i + 1 = k := ⟨_, rfl⟩
          have hw : IntKind.i64.wrap ((i : Int) + 1) = (k : Int) := by rw [IntWalk.i64_in] <;> omega
          rcases hv with ⟨rfl, rfl⟩ | ⟨cs, kk, t, rfl, hkk, hic⟩
          · simp at hx
          obtain ⟨d, hd, e1⟩ := hic.get hx
          have e2 : ¬ m = σ''.next := by omega
          have e3 : ¬ mp = σ''.next := by omega
          have e4 : ¬ hb = σ''.next := by omega
          have d1 := hd.one
          have hlt' : i < kk := by omega
          have htk : xs.take k = xs.take i ++ [x] := by rw [← hk, List.take_add_one, hx]; rfl
          simp [lk_cons, ← hkk, hlt', e1, d1, storeL, hh2, e2]
          refine clone_bytes hd (hbl x (List.mem_of_getElem? hx)) _ _ fun d' hd' => ?_
          rcases findA_its (k := x.1) g2 with ⟨f1, f2⟩ | ⟨ix, d0, l0, f1, f2, f3, f4, f5⟩
          · simp [lk_cons, hh2, e2, g1, e3, keyIs, shapeOk, kShape, f1, hw]
            refine ⟨kk - k, by omega, k, its' ++ [x], by omega, by omega, ⟨?_, ?_, ⟨clock + 1, ents ++ [(clock, u64 (x.1 : Int), d')], by simp, All2.snoc (a := (clock, u64 (x.1 : Int), d')) (b := x) ⟨rfl, hd'⟩ g2⟩, hne, ⟨by simp; omega, by simp; omega, by simp; omega⟩⟩, ⟨by have := hk3.1; simp; omega, fun a ha h1 h2 h3 => ?_⟩, fun q => ?_, by simp; omega, by simp [hkk]⟩
            · simp [hne.2.1, e2, hh2]
            · have := hr.heard
              simp [hne.2.2, e4, this]
            · have := hk3.1
              simp [h3, show ¬ a = σ''.next by omega]; exact hk3.2 a ha h1 h2 h3
            · rw [htk, insF_snoc]
              simp only [lkp]
              rw [show its' ++ [x] = its' ++ [(x.1, x.2)] from rfl, lookup_snoc f2, ← lkp, hits q]
          · simp [lk_cons, hh2, e2, g1, e3, keyIs, shapeOk, kShape, f1, hw]
            refine ⟨kk - k, by omega, k, its'.modify ix (fun _ => (x.1, x.2)), by omega, by omega, ⟨?_, ?_, ⟨clock, ents.modify ix fun e => (e.1, u64 (x.1 : Int), d'), by simp, f4 x.2 d' hd'⟩, hne, ⟨by simp; omega, by simp; omega, by simp; omega⟩⟩, ⟨by have := hk3.1; simp; omega, fun a ha h1 h2 h3 => ?_⟩, fun q => ?_, by simp; omega, by simp [hkk]⟩
            · simp [hne.2.1, e2, hh2]
            · have := hr.heard
              simp [hne.2.2, e4, this]
            · have := hk3.1
              simp [h3, show ¬ a = σ''.next by omega]; exact hk3.2 a ha h1 h2 h3
            · rw [htk, insF_snoc]
              simp only [lkp]
              rw [f5, ← lkp, hits q]
        · have : i = xs.length := by omega
          subst this
          rw [List.take_length] at hits
          have hhd := hr.heard
          have e5 : ¬ m = hb := hne.1
          have hpl : p + 1 ≤ heard.length := by omega
          have hbs : ∀ b : Bool, (bv heard).set p (.bool b) = bv (heard.set p b) := fun b => by simp [bv, List.map_set]
          simp [lk_cons, hh2, hpP, hhd.1, hpl, storeL, e5, Ne.symm e5, hbs]
          refine q2 p _ its' rfl hpP (by omega) hc0 hits hil ⟨?_, ⟨?_, by simp [hhd.2]⟩, ⟨clock, ents, ?_, g2⟩, hne, hlt4⟩ ⟨hk3.1, fun a ha h1 h2 h3 => ?_⟩
          · simp
            by_cases hss : sure < s
            · rw [if_pos hss]; congr 1; omega
            · rw [if_neg hss]; congr 1; omega
          · simp [Ne.symm e5]
          · simp [Ne.symm hne.2.1, Ne.symm hne.2.2, g1]
          · simp [h1, h2]; exact hk3.2 a ha h1 h2 h3
end Go.Proofs.Ytopagbaokokjdaa.AM

/- Menders: is enough heard, what is mended. -/
namespace Go.Proofs.Ytopagbaokokjdaa.AM
set_option maxRecDepth 100000
set_option linter.unusedVariables false
set_option linter.unusedSimpArgs false

def covP (P W A : Nat) (bs : List Bool) : Bool := (List.range P).all fun e => decide (W - A < cnt bs (setP P W e))
def CovJ (P W A b : Nat) (bs : List Bool) (s : Nat) (m : Mem) (mm : Nat) (r : Regs) (σ' : St) : Prop := ∃ i : Nat, mm = P - i ∧ i ≤ P ∧ ((List.range i).all fun e => decide (W - A < cnt bs (setP P W e))) = true ∧ b < σ'.next ∧ (∀ a, a < b → σ'.mem.get a = m.get a) ∧ σ'.mem.get b = some (.cells 3 [i64 P, i64 W, i64 A]) ∧
  r = [(1, .sl s 0 P P true), (2, .ptr b 0), (10, i64 P), (11, i64 i)]

theorem covered_c {P W A s : Nat} {bs : List Bool} (hq : 1 ≤ A ∧ A ≤ W ∧ W ≤ P ∧ P ≤ 7) (hb : bs.length = P) (σ : St) (hs : σ.mem.get s = some (.cells 1 (bv bs))) (hlt : s < σ.next) (Q : AVal → St → Prop) (h : Q (.bool (covP P W A bs)) σ) :
    ACall Try.prog 32 [qv P W A, .sl s 0 P P true] σ Q := by
  refine ACall.scrub ?_
  refine ACall.of_compF hmx (fun a w => Try.call32 a w) Try.func32 cf32 (n := 2) (by decide) rfl ?_
  simp [ac32, rs32, lk_cons]
  refine qcheck _ _ _ _ _ ?_
  have hd : decide ((1:Int) ≤ A ∧ (A:Int) ≤ W ∧ (W:Int) ≤ P ∧ (P:Int) ≤ 7) = true := by simp; omega
  rw [hd]
  simp [lk_cons]
  refine wp_loop (CovJ P W A σ.next bs s σ.mem) P ?_ ?_
  · exact ⟨0, rfl, by omega, rfl, by simp, fun a ha => by simp [show ¬ a = σ.next by omega], by simp, rfl⟩
  · rintro mm r σ' ⟨i, rfl, hi, hall, hnx, hk, hbk, rfl⟩
    by_cases hlt2 : i < P
    · obtain ⟨k, hk1⟩ : ∃ k, i + 1 = k := ⟨_, rfl⟩
      have hw : IntKind.i64.wrap ((i : Int) + 1) = (k : Int) := by rw [IntWalk.i64_in] <;> omega
      have hw2 : IntKind.u64.wrap (i : Int) = (i : Int) := by rw [IntWalk.u64_in]; omega
      have hw3 : IntKind.i64.wrap ((W : Int) - (A : Int)) = ((W - A : Nat) : Int) := by rw [IntWalk.i64_in] <;> omega
      obtain ⟨c, hc⟩ : ∃ c, cnt bs (setP P W i) = c := ⟨_, rfl⟩
      obtain ⟨z, hz⟩ : ∃ z, W - A = z := ⟨_, rfl⟩
      rw [hz] at hw3
      simp [lk_cons, hlt2, hbk, hw2, hw3]
      refine qcount P W A i s bs hq hb (by omega) σ' ((hk s hlt).trans hs) (by omega) _ ?_
      rw [hc]
      by_cases hcz : c ≤ z
      · have hcov : covP P W A bs = false := by
          rw [covP, ← Bool.not_eq_true, List.all_eq_true]
          intro hh
          have := hh i (List.mem_range.2 hlt2)
          simp at this; omega
        have hcz' : (c : Int) ≤ (z : Int) := by omega
        rw [hcov] at h
        simp [lk_cons, hbk, hcz, hcz']
        exact ⟨hk, h⟩
      · have hcz' : ¬ (c : Int) ≤ (z : Int) := by omega
        simp [lk_cons, hbk, hcz, hcz', hw]
        refine ⟨P - k, by omega, k, rfl, by omega, ?_, hnx, hk, hbk, rfl⟩
        rw [← hk1, List.range_succ, List.all_append, hall]
        simp [hc, hz]; omega
    · have : i = P := by omega
      subst this
      rw [covP, hall] at h
      simp [lk_cons]
      exact ⟨hk, h⟩

theorem ready_c {σ : St} {m hb mp P W A : Nat} {heard : List Bool} {sure : Nat} {its : List (Nat × List UInt8)} (h : MRep σ m hb mp P W A heard sure its) (hq : 1 ≤ A ∧ A ≤ W ∧ W ≤ P ∧ P ≤ 7) (Q : AVal → St → Prop) (hQ : Q (.bool (covP P W A heard)) σ) : ACall Try.prog 15 [.ptr m 0] σ Q := by
  refine ACall.of_compF hmx (fun a w => Try.call15 a w) Try.func15 cf15 (n := 1) (by decide) rfl ?_
  have hh := h.head
  simp [ac15, rs15, lk_cons, hh]
  refine covered_c hq h.heard.2 σ h.heard.1 h.lt.2.1 _ ?_
  simp [lk_cons, hh]
  exact hQ

/-- The entries from the first one on that are there, n of them. -/
def pre (F : Nat → Option (List UInt8)) (n : Nat) : List (Nat × List UInt8) := (List.range n).map fun j => (j, (F j).getD [])
theorem pre_succ (F : Nat → Option (List UInt8)) (n : Nat) : pre F (n + 1) = pre F n ++ [(n, (F n).getD [])] := by simp [pre, List.range_succ]
theorem pre_len (F : Nat → Option (List UInt8)) (n : Nat) : (pre F n).length = n := by simp [pre]

def above (its : List (Nat × List UInt8)) (n : Nat) : Nat := its.countP fun x => decide (n ≤ x.1)
theorem above_step {its : List (Nat × List UInt8)} {n : Nat} {l : List UInt8} (h : lkp its n = some l) : above its (n + 1) < above its n := by
  induction its with
  | nil => cases h
  | cons x its ih =>
    obtain ⟨k, v⟩ := x
    simp only [above, List.countP_cons] at ih ⊢
    have hm : its.countP (fun x => decide (n + 1 ≤ x.1)) ≤ its.countP (fun x => decide (n ≤ x.1)) := List.countP_mono_left fun x _ hx => by simp at hx ⊢; omega
    simp only [lkp, List.lookup] at h ih
    by_cases hn : n = k
    · subst hn
      rw [if_neg (by simp), if_pos (by simp), Nat.add_zero]
      exact Nat.lt_succ_of_le hm
    · have hb : (n == k) = false := by simpa using hn
      rw [hb] at h
      have := ih h
      by_cases h1 : n + 1 ≤ k
      · simp [h1, show n ≤ k by omega]; omega
      · have h2 : ¬ n ≤ k := by omega
        simp [h1, h2]; omega

def ResJ (m : Nat) (its : List (Nat × List UInt8)) (σ0 : St) (mm : Nat) (r : Regs) (σ' : St) : Prop := ∃ (n : Nat) (ov : AVal), mm = above its n ∧ n + above its n ≤ its.length ∧ (∀ j, j < n → lkp its j ≠ none) ∧ Grow σ0 σ' ∧ r = [(0, .ptr m 0), (4, ov), (5, u64 n)] ∧
  (n = 0 ∧ ov = .nilsl ∨ ∃ o cs, ov = .sl o 0 n n false ∧ 0 < n ∧ σ0.next ≤ o ∧ o < σ'.next ∧ σ'.mem.get o = some (.cells 2 cs) ∧ ICells cs (pre (lkp its) n))

theorem result_c {σ : St} {m hb mp P W A : Nat} {heard : List Bool} {sure : Nat} {its : List (Nat × List UInt8)} (h : MRep σ m hb mp P W A heard sure its) (hq : 1 ≤ A ∧ A ≤ W ∧ W ≤ P ∧ P ≤ 7) (hil : its.length ≤ 1000000) (hbl : ∀ k l, lkp its k = some l → l.length ≤ 140737488355328) (Q : AVal → St → Prop)
    (q1 : covP P W A heard = false → Q (.tup [.nilsl, i64 23]) σ)
    (q2 : covP P W A heard = true → ∀ (n : Nat) (v : AVal), (∀ j, j < n → lkp its j ≠ none) → lkp its n = none → n ≤ its.length → ItemsOf v (pre (lkp its) n) → (n < sure → Q (.tup [.nilsl, i64 22]) σ) ∧ (sure ≤ n → Q (.tup [v, i64 0]) σ)) :
    ACall Try.prog 17 [.ptr m 0] σ Q := by
  refine ACall.freeze ?_
  refine ACall.of_compF hmx (fun a w => Try.call17 a w) Try.func17 cf17 (n := 1) (by decide) rfl ?_
  have hh := h.head
  obtain ⟨clock, ents, g1, g2⟩ := h.map
  simp [ac17, rs17, lk_cons]
  refine ready_c h hq _ ?_
  cases hcov : covP P W A heard with
  | false =>
    have q1 := q1 hcov
    simp [lk_cons]
    exact ⟨fun a ha => rfl, _, rfl, q1⟩
  | true =>
    have q2 := q2 hcov
    have hlt := h.lt
    simp [lk_cons]
    refine wp_loop (ResJ m its σ) its.length ?_ ?_
    · have h0 : above its 0 = its.length := by rw [above, List.countP_eq_length]; simp
      exact ⟨0, .nilsl, h0.symm, by omega, fun j hj => by omega, ⟨Nat.le_refl _, fun _ _ => rfl⟩, rfl, .inl ⟨rfl, rfl⟩⟩
    · rintro mm r σ' ⟨n, ov, rfl, hn, hall, hg, rfl, ho⟩
      have gm : σ'.mem.get m = _ := (hg.2 m hlt.1).trans hh
      have gp : σ'.mem.get mp = _ := (hg.2 mp hlt.2.2).trans g1
      have hov : ∀ ρ, evalV ρ (.len 1 ov) = some (i64 n, ρ) := by
        intro ρ
        rcases ho with ⟨rfl, rfl⟩ | ⟨o, cs, rfl, _⟩ <;> simp
      rcases findA_its (k := n) g2 with ⟨f1, f2⟩ | ⟨ix, d, l, f1, f2, f3, _⟩
      · simp [lk_cons, gm, gp, keyIs, shapeOk, kShape, f1, ↓hov]
        have hw : IntKind.u64.wrap (n : Int) = (n : Int) := by rw [IntWalk.u64_in]; omega
        have fin : ∀ v', frz σ.next σ'.mem ov = some v' → ItemsOf v' (pre (lkp its) n) → (n < sure → Q (.tup [.nilsl, i64 22]) σ) ∧ (sure ≤ n → Q (.tup [v', i64 0]) σ) := fun v' _ hi => q2 n v' hall f2 (by omega) hi
        have hfz : ∃ v', frz1 σ.next σ'.mem ov = some v' ∧ ItemsOf v' (pre (lkp its) n) := by
          rcases ho with ⟨rfl, rfl⟩ | ⟨o, cs, rfl, n0, o1, o2, o3, o4⟩
          · exact ⟨.nilsl, rfl, .inl ⟨rfl, rfl⟩⟩
          · have hcl := o4.len
            rw [pre_len] at hcl
            refine ⟨_, frz_sl (es := 2) (vals := cs) o1 o3 (by omega) (o4.upto _), ?_⟩
            rw [List.drop_zero, List.take_of_length_le (by omega)]
            exact .inr ⟨cs, n, _, rfl, by rw [pre_len], o4⟩
        obtain ⟨v', z1, z2⟩ := hfz
        have qq := q2 n v' hall f2 (by omega) z2
        by_cases hns : n < sure
        · simp [lk_cons, ↓hov, hw, gm, hns]
          exact ⟨fun a ha => hg.2 a ha, _, rfl, qq.1 hns⟩
        · simp [lk_cons, ↓hov, hw, gm, hns]
          exact ⟨fun a ha => hg.2 a ha, .tup [v', i64 0], by simp only [frz, listM, z1, Option.bind_some]; rfl, qq.2 (by omega)⟩
      · have hst := above_step (its := its) (n := n) (l := l) f2
        simp [lk_cons, gm, gp, keyIs, shapeOk, kShape, f1]
        refine clone_bytes f3 (hbl n l f2) _ _ fun d' hd' => ?_
        obtain ⟨k, hk⟩ : ∃ k, n + 1 = k := ⟨_, rfl⟩
        have hw : IntKind.u64.wrap ((n : Int) + 1) = (k : Int) := by rw [IntWalk.u64_in] <;> omega
        have d1 := hd'.one
        have hps : pre (lkp its) k = pre (lkp its) n ++ [(n, l)] := by
          rw [← hk, pre_succ]
          have : lkp its n = some l := f2
          rw [this]; rfl
        have hall' : ∀ j, j < k → lkp its j ≠ none := by
          intro j hj
          by_cases hjn : j < n
          · exact hall j hjn
          · have : j = n := by omega
            subst this
            have : lkp its j = some l := f2
            rw [this]; simp
        rw [hk] at hst
        have hg1 := hg.1
        rcases ho with ⟨hn0, rfl⟩ | ⟨o, cs, rfl, n0, o1, o2, o3, o4⟩
        · simp [lk_cons, d1.1, d1.2, fillL, repL, srcL, storeL, hw]
          refine ⟨above its k, hst, k, _, rfl, by omega, hall', ⟨by simp; omega, fun a ha => ?_⟩, rfl, .inr ⟨σ'.next + 1, [u64 (n : Int), d'], by rw [← hk, hn0], by omega, by omega, by simp, by simp, ?_⟩⟩
          · simp [show ¬ a = σ'.next by omega, show ¬ a = σ'.next + 1 by omega]; exact hg.2 a ha
          · rw [hps, hn0]; exact ⟨rfl, hd', trivial⟩
        · have hcl := o4.len
          rw [pre_len] at hcl
          have d1' : ¬ n + 1 ≤ n := by omega
          have d2 : (n + 1) * 32 ≤ 140737488355328 ∧ n ≤ 9223372036854775806 := by omega
          have f5 : ¬ o = σ'.next := by omega
          have f6 : ¬ o = σ'.next + 1 := by omega
          have ul : n * 2 ≤ cs.length := by omega
          simp [lk_cons, d1.1, d1.2, d1', d2, f5, f6, Ne.symm f5, o3, ul, fillL, repL, srcL, storeL, hw]
          refine ⟨above its k, hst, k, _, rfl, by omega, hall', ⟨by simp; omega, fun a ha => ?_⟩, rfl, .inr ⟨σ'.next + 1, cs ++ [u64 (n : Int), d'], by rw [← hk], by omega, by omega, by simp, ?_, ?_⟩⟩
          · simp [show ¬ a = σ'.next by omega, show ¬ a = σ'.next + 1 by omega, show ¬ a = o by omega]; exact hg.2 a ha
          · simp [List.take_of_length_le (show cs.length ≤ n * 2 by omega)]
          · rw [hps]; exact o4.append ⟨rfl, hd', trivial⟩
end Go.Proofs.Ytopagbaokokjdaa.AM

/- What is confirmed is mended: the plain law. -/
namespace Go.Proofs.Ytopagbaokokjdaa.AM
set_option maxRecDepth 100000
set_option linter.unusedVariables false
set_option linter.unusedSimpArgs false

/-- Who said what (S), what waits, what was heard of (hd), what the mender has. -/
structure MK (P W A sure : Nat) (ents : List WEnt) (hd : List Bool) (has : Nat → Prop) (S : Nat → Nat → Prop) : Prop where
  num : ∀ (i : Nat) (e : WEnt), ents[i]? = some e → e.n = sure + i ∧ ∀ p, e.bs.getD p false = true → S e.n p
  conf : ∀ e, e < sure → ∃ bs : List Bool, (∀ p, bs.getD p false = true → S e p) ∧ A ≤ cnt bs (setP P W e)
  keep : ∀ e p, S e p → hd.getD p false = true → has e
theorem MK.add {P W A sure : Nat} {ents : List WEnt} {hd : List Bool} {has : Nat → Prop} {S : Nat → Nat → Prop} (h : MK P W A sure ents hd has S) (d : AVal) (s : Nat) : MK P W A sure (ents ++ [⟨sure + ents.length, d, s, List.replicate P false⟩]) hd has S :=
  ⟨fun i e he => by
    by_cases hi : i < ents.length
    · rw [List.getElem?_append_left hi] at he; exact h.num i e he
    · rw [List.getElem?_append_right (by omega)] at he
      cases hk : i - ents.length with
      | zero =>
        rw [hk] at he
        simp at he
        subst he
        refine ⟨by show sure + ents.length = sure + i; omega, fun p hp => ?_⟩
        simp [List.getD_eq_getElem?_getD, List.getElem?_replicate] at hp
        split at hp <;> simp at hp
      | succ k => rw [hk] at he; simp at he, h.conf, h.keep⟩
theorem popped_le (P W A : Nat) : ∀ es : List WEnt, popped P W A es ≤ es.length ∧ ∀ (i : Nat) (e : WEnt), i < popped P W A es → es[i]? = some e → enoughE P W A e = true
  | [] => ⟨Nat.le_refl _, fun i e h => absurd h (Nat.not_lt_zero _)⟩
  | x :: es => by
    obtain ⟨h1, h2⟩ := popped_le P W A es
    unfold popped
    by_cases hx : enoughE P W A x = true
    · rw [if_pos hx]
      refine ⟨by simp; omega, fun i e hi he => ?_⟩
      cases i with
      | zero => simp at he; subst he; exact hx
      | succ i => exact h2 i e (by omega) (by simpa using he)
    · rw [if_neg hx]
      exact ⟨Nat.zero_le _, fun i e h => absurd h (Nat.not_lt_zero _)⟩
theorem MK.ack {P W A sure : Nat} {ents : List WEnt} {hd : List Bool} {has : Nat → Prop} {S : Nat → Nat → Prop} (h : MK P W A sure ents hd has S) {n p : Nat} (h1 : sure ≤ n) (h2 : n < sure + ents.length) (hp : hd.getD p false = false) :
    MK P W A (sure + popped P W A (heard ents (n - sure) p)) ((heard ents (n - sure) p).drop (popped P W A (heard ents (n - sure) p))) hd has (fun e q => S e q ∨ (e = n ∧ q = p)) := by
  have hall : ∀ (i : Nat) (e : WEnt), (heard ents (n - sure) p)[i]? = some e → e.n = sure + i ∧ ∀ q, e.bs.getD q false = true → S e.n q ∨ (e.n = n ∧ q = p) := fun i e he => by
    unfold heard at he
    rw [List.getElem?_modify] at he
    by_cases hi : n - sure = i
    · simp only [if_pos hi] at he
      cases hx : ents[i]? with
      | none => rw [hx] at he; simp at he
      | some x =>
        rw [hx] at he
        simp at he
        subst he
        obtain ⟨e1, e2⟩ := h.num i x hx
        refine ⟨e1, fun q hq => ?_⟩
        by_cases hqp : q = p
        · exact .inr ⟨by show x.n = n; omega, hqp⟩
        · refine .inl (e2 q ?_)
          simpa [setSaid, List.getD_eq_getElem?_getD, List.getElem?_set, Ne.symm hqp] using hq
    · simp only [if_neg hi] at he
      have he : ents[i]? = some e := by simpa using he
      obtain ⟨e1, e2⟩ := h.num i e he
      exact ⟨e1, fun q hq => .inl (e2 q hq)⟩
  obtain ⟨k1, k2⟩ := popped_le P W A (heard ents (n - sure) p)
  obtain ⟨k, hk⟩ : ∃ k, popped P W A (heard ents (n - sure) p) = k := ⟨_, rfl⟩
  rw [hk] at k1 k2 ⊢
  refine ⟨fun i e he => ?_, fun e he => ?_, fun e q hs hq => ?_⟩
  · rw [List.getElem?_drop] at he
    obtain ⟨e1, e2⟩ := hall _ e he
    exact ⟨by omega, e2⟩
  · by_cases hlt : e < sure
    · obtain ⟨bs, b1, b2⟩ := h.conf e hlt
      exact ⟨bs, fun q hq => .inl (b1 q hq), b2⟩
    · obtain ⟨x, hx⟩ : ∃ x, (heard ents (n - sure) p)[e - sure]? = some x := ⟨_, List.getElem?_eq_getElem (by omega)⟩
      obtain ⟨e1, e2⟩ := hall _ x hx
      have e3 := k2 _ x (by omega) hx
      have e4 : x.n = e := by omega
      unfold enoughE at e3
      rw [e4] at e2 e3
      exact ⟨x.bs, e2, by simpa using e3⟩
  · rcases hs with hs | ⟨_, rfl⟩
    · exact h.keep e q hs hq
    · rw [hp] at hq; cases hq
theorem MK.hear {P W A sure : Nat} {ents : List WEnt} {hd : List Bool} {has has' : Nat → Prop} {S : Nat → Nat → Prop} (h : MK P W A sure ents hd has S) (p : Nat) (h1 : ∀ e, has e → has' e) (h2 : ∀ e, S e p → has' e) : MK P W A sure ents (hd.set p true) has' S :=
  ⟨h.num, h.conf, fun e q hs hq => by
    by_cases hqp : q = p
    · subst hqp; exact h2 e hs
    · refine h1 e (h.keep e q hs ?_)
      simpa [List.getD_eq_getElem?_getD, List.getElem?_set, Ne.symm hqp] using hq⟩
theorem setP_mod {P W n : Nat} : setP P W (n % P) = setP P W n := by simp [setP]
/-- Two of one list that are together more than it meet. -/
theorem count_meet {l : List Nat} {a b : Nat → Bool} (h : l.length < l.countP a + l.countP b) : ∃ x ∈ l, a x = true ∧ b x = true := by
  induction l with
  | nil => simp at h
  | cons x l ih =>
    simp only [List.countP_cons, List.length_cons] at h
    by_cases hx : a x = true ∧ b x = true
    · exact ⟨x, by simp, hx⟩
    · have : l.length < l.countP a + l.countP b := by
        cases ha : a x <;> cases hb : b x <;> simp [ha, hb] at h hx <;> omega
      obtain ⟨y, hy, h1⟩ := ih this
      exact ⟨y, by simp [hy], h1⟩
theorem MK.done {P W A sure : Nat} {ents : List WEnt} {hd : List Bool} {has : Nat → Prop} {S : Nat → Nat → Prop} (h : MK P W A sure ents hd has S) (hq : 1 ≤ A ∧ A ≤ W ∧ W ≤ P) (hc : covP P W A hd = true) {e : Nat} (he : e < sure) : has e := by
  obtain ⟨bs, b1, b2⟩ := h.conf e he
  have hm : e % P < P := Nat.mod_lt _ (by omega)
  have h3 : W - A < cnt hd (setP P W e) := by
    unfold covP at hc
    have := List.all_eq_true.1 hc (e % P) (List.mem_range.2 hm)
    rw [setP_mod] at this
    simpa using this
  have hl := setP_len P W e
  obtain ⟨p, hp, h4, h5⟩ := count_meet (l := setP P W e) (a := fun p => bs.getD p false) (b := fun p => hd.getD p false) (by unfold cnt at b2 h3; omega)
  exact h.keep e p (b1 p h4) h5
end Go.Proofs.Ytopagbaokokjdaa.AM

/- Few entries: words made small. -/
namespace Go.Proofs.Ytopagbaokokjdaa.AM
set_option maxRecDepth 100000
set_option linter.unusedVariables false
set_option linter.unusedSimpArgs false

def fewI (x : Nat × List UInt8) : Nat × List UInt8 := (x.1 % 6, [UInt8.ofNat (x.1 % 6), UInt8.ofNat (x.2.length / 40)])
def plN (place : Int) (P : Nat) : Nat := (IntKind.u64.wrap place).toNat % P

/-- Entries that are being told; o is not one of their blocks. -/
def FCells (mem : Mem) (lo hi o : Nat) : List AVal → List (Nat × List UInt8) → Prop
  | [], [] => True
  | c :: d :: cs, x :: xs => c = u64 (x.1 : Int) ∧ (∃ b, d = .sl b 0 2 2 true ∧ lo ≤ b ∧ b < hi ∧ b ≠ o ∧ mem.get b = some (.cells 1 (bytesV x.2)) ∧ x.2.length = 2) ∧ FCells mem lo hi o cs xs
  | _, _ => False
theorem FCells.len {mem : Mem} {lo hi o : Nat} : ∀ {cs : List AVal} {xs : List (Nat × List UInt8)}, FCells mem lo hi o cs xs → cs.length = xs.length * 2
  | [], [], _ => rfl
  | c :: d :: cs, x :: xs, h => by have := h.2.2.len; simp [this]; omega
  | [], _ :: _, h => h.elim
  | [_], _, h => by cases ‹List (Nat × List UInt8)› <;> exact h.elim
  | _ :: _ :: _, [], h => h.elim
theorem FCells.move {mem mem' : Mem} {lo hi o hi' o' : Nat} (hh : hi ≤ hi') (hm : ∀ b, lo ≤ b → b < hi → b ≠ o → b ≠ o' ∧ mem'.get b = mem.get b) : ∀ {cs : List AVal} {xs : List (Nat × List UInt8)}, FCells mem lo hi o cs xs → FCells mem' lo hi' o' cs xs
  | [], [], _ => trivial
  | c :: d :: cs, x :: xs, h => by
    obtain ⟨h1, ⟨b, h2, h3, h4, h5, h6, h7⟩, h8⟩ := h
    have g := hm b h3 h4 h5
    exact ⟨h1, ⟨b, h2, h3, by omega, g.1, g.2.trans h6, h7⟩, FCells.move hh hm h8⟩
  | [], _ :: _, h => h.elim
  | [_], _, h => by cases ‹List (Nat × List UInt8)› <;> exact h.elim
  | _ :: _ :: _, [], h => h.elim
theorem FCells.lower {mem : Mem} {lo lo' hi o : Nat} (hlo : lo' ≤ lo) : ∀ {cs : List AVal} {xs : List (Nat × List UInt8)}, FCells mem lo hi o cs xs → FCells mem lo' hi o cs xs
  | [], [], _ => trivial
  | c :: d :: cs, x :: xs, h => by
    obtain ⟨h1, ⟨b, h2, h3, h4⟩, h8⟩ := h
    exact ⟨h1, ⟨b, h2, by omega, h4⟩, FCells.lower hlo h8⟩
  | [], _ :: _, h => h.elim
  | [_], _, h => by cases ‹List (Nat × List UInt8)› <;> exact h.elim
  | _ :: _ :: _, [], h => h.elim
theorem FCells.append {mem : Mem} {lo hi o : Nat} : ∀ {cs ds : List AVal} {xs ys : List (Nat × List UInt8)}, FCells mem lo hi o cs xs → FCells mem lo hi o ds ys → FCells mem lo hi o (cs ++ ds) (xs ++ ys)
  | [], ds, [], ys, _, h => h
  | c :: d :: cs, ds, x :: xs, ys, h, k => ⟨h.1, h.2.1, h.2.2.append k⟩
  | [], _, _ :: _, _, h, _ => h.elim
  | [_], _, _, _, h, _ => by cases ‹List (Nat × List UInt8)› <;> exact h.elim
  | _ :: _ :: _, _, [], _, h, _ => h.elim
theorem FCells.frz {mem : Mem} {lo hi o : Nat} : ∀ {cs : List AVal} {xs : List (Nat × List UInt8)}, FCells mem lo hi o cs xs → ∃ ics, listM (frzD lo mem 1) cs = some ics ∧ ICells ics xs
  | [], [], _ => ⟨[], rfl, trivial⟩
  | c :: d :: cs, x :: xs, h => by
    obtain ⟨rfl, ⟨b, rfl, h3, h4, h5, h6, h7⟩, h8⟩ := h
    obtain ⟨ics, g1, g2⟩ := h8.frz
    have hl := bytesV_len x.2
    have s1 := frzD_sl (d := 0) (len := 2) (cap := 2) (t := true) (o := 0) h3 h6 (by omega)
    have hid : listM (frzD lo mem 0) (bytesV x.2) = some (bytesV x.2) := listM_id fun y hy => by
      obtain ⟨u, _, rfl⟩ := List.mem_map.1 hy
      rfl
    rw [List.drop_zero, List.take_of_length_le (by omega), hid] at s1
    refine ⟨u64 (x.1 : Int) :: .isl (bytesV x.2) 2 (true && decide (2 = 2)) :: ics, ?_, rfl, .inr ⟨_, by rw [h7]⟩, g2⟩
    rw [listM_cons, listM_cons, s1, g1]
    rfl
  | [], _ :: _, h => h.elim
  | [_], _, h => by cases ‹List (Nat × List UInt8)› <;> exact h.elim
  | _ :: _ :: _, [], h => h.elim

theorem frzD_agg (lo : Nat) (m : Mem) (d : Nat) (vs : List AVal) : frzD lo m (d + 1) (.agg vs) = (listM (frzD lo m d) vs).map .agg := by simp only [frzD]
theorem u64_nonneg (n : Int) : 0 ≤ IntKind.u64.wrap n := by
  simp only [IntKind.wrap]
  have h : (IntKind.u64.signed && decide (n % 2 ^ IntKind.u64.bits ≥ 2 ^ (IntKind.u64.bits - 1))) = false := by simp [IntKind.signed]
  rw [h, if_neg (by simp)]
  exact Int.emod_nonneg _ (by decide)

theorem u8_wrap (n : Nat) : IntKind.u8.wrap (n : Int) = ((UInt8.ofNat n).toNat : Int) := by
  simp only [IntKind.wrap]
  have h : (IntKind.u8.signed && decide ((n : Int) % 2 ^ IntKind.u8.bits ≥ 2 ^ (IntKind.u8.bits - 1))) = false := by simp [IntKind.signed]
  rw [h, if_neg (by simp)]
  have h2 : (2 : Int) ^ IntKind.u8.bits = 256 := by decide
  rw [h2]
  simp

def FewJ (b2 b4 : Nat) (cells2 : List AVal) (v : AVal) (xs : List (Nat × List UInt8)) (σ0 : St) (mm : Nat) (r : Regs) (σ' : St) : Prop := ∃ (i : Nat) (ov : AVal), mm = xs.length - i ∧ i ≤ xs.length ∧ b4 < σ'.next ∧ (∀ a, a < b2 → σ'.mem.get a = σ0.mem.get a) ∧ σ'.mem.get b2 = some (.cells 4 cells2) ∧ σ'.mem.get b4 = some (.cells 4 [i64 0, u64 0, .nilsl, .bool false]) ∧
  r = [(2, .ptr b2 0), (4, .ptr b4 0), (5, ov), (25, v), (26, i64 xs.length), (27, i64 i)] ∧
  (i = 0 ∧ ov = .nilsl ∨ ∃ o cs, ov = .sl o 0 i i false ∧ 0 < i ∧ b4 < o ∧ o < σ'.next ∧ σ'.mem.get o = some (.cells 2 cs) ∧ FCells σ'.mem (b4 + 1) σ'.next o cs ((xs.take i).map fewI))

theorem few_c (P W A : Nat) (hq : 1 ≤ A ∧ A ≤ W ∧ W ≤ P ∧ P ≤ 7) (place : Int) (s : Nat) {v : AVal} {xs : List (Nat × List UInt8)} (raw : Bool) (hv : ItemsOf v xs) (hxl : xs.length ≤ 1000) (hbl : ∀ x ∈ xs, x.2.length ≤ 140737488355328) (hn : ∀ x ∈ xs, x.1 < 18446744073709551616) (hs : s < 18446744073709551616) (σ : St) (Q : AVal → St → Prop)
    (q1 : raw = true → Q (.agg [i64 place, u64 (s : Int), v, .bool true]) σ) (q2 : raw = false → ∀ v', ItemsOf v' (xs.map fewI) → Q (.agg [i64 (plN place P : Int), u64 ((s % 4 : Nat) : Int), v', .bool false]) σ) :
    ACall Try.prog 12 [.agg [i64 place, u64 (s : Int), v, .bool raw], qv P W A] σ Q := by
  refine ACall.freezeD 3 ?_
  refine ACall.of_compF hmx (fun a w => Try.call12 a w) Try.func12 cf12 (n := 2) (by decide) rfl ?_
  have l1 := hv.len
  have hv1 := hv.one
  have e1 : ¬ σ.next = σ.next + 1 := by omega
  have e2 : ¬ σ.next = σ.next + 2 := by omega
  have e3 : ¬ σ.next + 1 = σ.next + 2 := by omega
  have e4 : ¬ σ.next = σ.next + 1 + 1 := by omega
  cases raw with
  | true =>
    simp [ac12, rs12, lk_cons, hv1.1, hv1.2, e1, e2, e3, e4, storeL]
    have hu := hv.upto σ.next
    have hfv : ∀ mem, frzD σ.next mem 2 v = some v := by
      intro mem
      rcases hv with ⟨rfl, rfl⟩ | ⟨cs, k, t, rfl, _, _⟩
      · rfl
      · simp only [frzD]; rw [if_pos hu]
    refine ⟨fun a ha => by simp [show ¬ a = σ.next by omega, show ¬ a = σ.next + 1 by omega, show ¬ a = σ.next + 1 + 1 by omega, show ¬ a = σ.next + 2 by omega], .agg [i64 place, u64 (s : Int), v, .bool true], ?_, q1 rfl⟩
    rw [frzD_agg]
    simp only [listM_cons, hfv, listM_nil]
    rfl
  | false =>
    obtain ⟨z, hz⟩ : ∃ z : Nat, IntKind.u64.wrap place = (z : Int) := ⟨(IntKind.u64.wrap place).toNat, by
      have : 0 ≤ IntKind.u64.wrap place := u64_nonneg place
      omega⟩
    obtain ⟨pl, hpl⟩ : ∃ pl, z % P = pl := ⟨_, rfl⟩
    have hplP : pl < P := hpl ▸ Nat.mod_lt _ (by omega)
    have t1 : (z : Int).tmod (P : Int) = (pl : Int) := by rw [← hpl]; exact (Int.ofNat_tmod z P).symm
    have t2 : (s : Int).tmod 4 = ((s % 4 : Nat) : Int) := (Int.ofNat_tmod s 4).symm
    obtain ⟨s4, hs4⟩ : ∃ s4, s % 4 = s4 := ⟨_, rfl⟩
    rw [hs4] at t2 q2
    have w1 : IntKind.u64.wrap (P : Int) = P := by rw [IntWalk.u64_in]; omega
    have w2 : IntKind.i64.wrap (pl : Int) = pl := by rw [IntWalk.i64_in]; omega
    have hP0 : ¬ P = 0 := by omega
    have hplN : plN place P = pl := by rw [plN, hz]; simpa using hpl
    rw [hplN] at q2
    simp [ac12, rs12, lk_cons, hv1.1, hv1.2, e1, e2, e3, e4, storeL, hz, t1, t2, w1, w2, hP0, ↓l1]
    refine wp_loop (FewJ σ.next (σ.next + 2) [i64 (pl : Int), u64 (s4 : Int), v, .bool false] v xs σ) xs.length ?_ ?_
    · refine ⟨0, .nilsl, rfl, by omega, by simp, fun a ha => ?_, ?_, ?_, rfl, .inl ⟨rfl, rfl⟩⟩
      · simp [show ¬ a = σ.next by omega, show ¬ a = σ.next + 1 by omega, show ¬ a = σ.next + 1 + 1 by omega, show ¬ a = σ.next + 2 by omega]
      · simp
      · simp [e2, e4, Ne.symm e2]
    · rintro mm r σ' ⟨i, ov, rfl, hi, hnx, hk, m2, m4, rfl, ho⟩
      by_cases hlt : i < xs.length
      · obtain ⟨x, hx⟩ : ∃ x, xs[i]? = some x := ⟨_, List.getElem?_eq_getElem hlt⟩
        obtain ⟨k, hk1⟩ : ∃ k, i + 1 = k := ⟨_, rfl⟩
        have hw : IntKind.i64.wrap ((i : Int) + 1) = (k : Int) := by rw [IntWalk.i64_in] <;> omega
        have hxm := List.mem_of_getElem? hx
        rcases hv with ⟨rfl, rfl⟩ | ⟨cs, kk, t, rfl, hkk, hic⟩
        · simp at hx
        obtain ⟨d, hd, g1⟩ := hic.get hx
        have hdl := hd.len
        have d1 := hd.one
        have t3 : ((x.1 : Nat) : Int).tmod 6 = ((x.1 % 6 : Nat) : Int) := (Int.ofNat_tmod x.1 6).symm
        have t4 : ((x.2.length : Nat) : Int).tdiv 40 = ((x.2.length / 40 : Nat) : Int) := (Int.ofNat_tdiv x.2.length 40).symm
        have m6 : x.1 % 6 < 6 := Nat.mod_lt _ (by omega)
        have hbx := hbl x hxm
        have b1 : IntKind.u8.wrap ((x.1 % 6 : Nat) : Int) = ((UInt8.ofNat (x.1 % 6)).toNat : Int) := u8_wrap _
        have b2 : IntKind.u8.wrap ((x.2.length / 40 : Nat) : Int) = ((UInt8.ofNat (x.2.length / 40)).toNat : Int) := u8_wrap _
        have w3 : IntKind.i64.wrap ((x.2.length / 40 : Nat) : Int) = ((x.2.length / 40 : Nat) : Int) := by rw [IntWalk.i64_in]; omega
        have hfi : fewI x = (x.1 % 6, [UInt8.ofNat (x.1 % 6), UInt8.ofNat (x.2.length / 40)]) := rfl
        obtain ⟨y1, hy1⟩ : ∃ y, x.1 % 6 = y := ⟨_, rfl⟩
        obtain ⟨y2, hy2⟩ : ∃ y, x.2.length / 40 = y := ⟨_, rfl⟩
        rw [hy1] at t3 b1 hfi
        rw [hy2] at t4 b2 w3 hfi
        obtain ⟨u1, hu1⟩ : ∃ u, UInt8.ofNat y1 = u := ⟨_, rfl⟩
        obtain ⟨u2, hu2⟩ : ∃ u, UInt8.ofNat y2 = u := ⟨_, rfl⟩
        rw [hu1] at b1 hfi
        rw [hu2] at b2 hfi
        have htk : (xs.take k).map fewI = (xs.take i).map fewI ++ [(y1, [u1, u2])] := by
          rw [← hk1, List.take_add_one, hx, List.map_append, ← hfi]; rfl
        have hlt' : i < kk := by omega
        have z1 : ¬ σ'.next + 1 = σ'.next + 2 := by omega
        have z2 : ¬ σ'.next = σ'.next + 2 := by omega
        have z3 : ¬ σ'.next = σ'.next + 1 := by omega
        have z4 : ¬ σ.next = σ'.next := by omega
        have z5 : ¬ σ.next + 2 = σ'.next := by omega
        rcases ho with ⟨hi0, rfl⟩ | ⟨o, cs', rfl, i0, o1, o2, o3, o4⟩
        · simp [lk_cons, ← hkk, hlt', g1, d1, storeL, fillL, repL, srcL, t3, ↓hdl, t4, w3, b1, b2, hw, z1, z2, z3, z4]
          refine ⟨kk - k, by omega, k, .sl (σ'.next + 1 + 1 + 1) 0 1 1 false, by omega, by omega, by simp; omega, fun a ha => ?_, ?_, ?_, by simp [hkk], .inr ⟨σ'.next + 1 + 1 + 1, [u64 (y1 : Int), .sl (σ'.next + 1) 0 2 2 true], by rw [← hk1, hi0], by omega, by omega, by simp, by simp, ?_⟩⟩
          · simp [show ¬ a = σ'.next by omega, show ¬ a = σ'.next + 1 by omega, show ¬ a = σ'.next + 1 + 1 by omega, show ¬ a = σ'.next + 2 by omega, show ¬ a = σ'.next + 1 + 1 + 1 by omega, show ¬ a = σ'.next + 3 by omega]
            exact hk a ha
          · simp [z4, show ¬ σ.next = σ'.next + 1 by omega, show ¬ σ.next = σ'.next + 1 + 1 by omega, show ¬ σ.next = σ'.next + 2 by omega, show ¬ σ.next = σ'.next + 1 + 1 + 1 by omega, show ¬ σ.next = σ'.next + 3 by omega, m2]
          · simp [z5, show ¬ σ.next + 2 = σ'.next + 1 by omega, show ¬ σ.next + 2 = σ'.next + 1 + 1 by omega, show ¬ σ.next = σ'.next by omega, show ¬ σ.next + 2 = σ'.next + 1 + 1 + 1 by omega, show ¬ σ.next + 2 = σ'.next + 3 by omega, show ¬ σ.next = σ'.next + 1 by omega, m4]
          · rw [htk, hi0]
            refine ⟨rfl, ⟨σ'.next + 1, rfl, by omega, by show σ'.next + 1 < σ'.next + 1 + 1 + 1 + 1; omega, by omega, ?_, rfl⟩, trivial⟩
            simp [bytesV, show ¬ σ'.next + 1 = σ'.next + 2 by omega, show ¬ σ'.next + 1 = σ'.next + 3 by omega]
        · have hcl := o4.len
          rw [List.length_map, List.length_take] at hcl
          have f1 : ¬ o = σ'.next := by omega
          have f2 : ¬ o = σ'.next + 1 := by omega
          have f3 : ¬ o = σ'.next + 1 + 1 := by omega
          have f4 : ¬ o = σ'.next + 2 := by omega
          have d1' : ¬ i + 1 ≤ i := by omega
          have d2 : (i + 1) * 32 ≤ 140737488355328 ∧ i ≤ 9223372036854775806 := by omega
          have ul : i * 2 ≤ cs'.length := by omega
          simp [lk_cons, ← hkk, hlt', g1, d1, storeL, fillL, repL, srcL, t3, ↓hdl, t4, w3, b1, b2, hw, z1, z2, z3, z4, o3, f1, f2, f3, f4, Ne.symm f1, Ne.symm f2, Ne.symm f3, d1', d2, ul]
          refine ⟨kk - k, by omega, k, .sl (σ'.next + 1 + 1 + 1) 0 (i + 1) (i + 1) false, by omega, by omega, by simp; omega, fun a ha => ?_, ?_, ?_, by simp [hkk], .inr ⟨σ'.next + 1 + 1 + 1, cs' ++ [u64 (y1 : Int), .sl (σ'.next + 1) 0 2 2 true], by rw [← hk1], by omega, by omega, by simp, ?_, ?_⟩⟩
          · simp [show ¬ a = σ'.next by omega, show ¬ a = σ'.next + 1 by omega, show ¬ a = σ'.next + 1 + 1 by omega, show ¬ a = σ'.next + 2 by omega, show ¬ a = σ'.next + 1 + 1 + 1 by omega, show ¬ a = σ'.next + 3 by omega, show ¬ a = o by omega]
            exact hk a ha
          · simp [z4, show ¬ σ.next = σ'.next + 1 by omega, show ¬ σ.next = σ'.next + 1 + 1 by omega, show ¬ σ.next = σ'.next + 2 by omega, show ¬ σ.next = σ'.next + 1 + 1 + 1 by omega, show ¬ σ.next = σ'.next + 3 by omega, show ¬ σ.next = o by omega, m2]
          · simp [z5, show ¬ σ.next + 2 = σ'.next + 1 by omega, show ¬ σ.next + 2 = σ'.next + 1 + 1 by omega, show ¬ σ.next = σ'.next by omega, show ¬ σ.next + 2 = σ'.next + 1 + 1 + 1 by omega, show ¬ σ.next + 2 = σ'.next + 3 by omega, show ¬ σ.next + 2 = o by omega, show ¬ σ.next = σ'.next + 1 by omega, m4]
          · simp [List.take_of_length_le (show cs'.length ≤ i * 2 by omega)]
          · rw [htk]
            refine FCells.append (o4.move (by simp; omega) fun b h1 h2 h3 => ⟨by omega, ?_⟩) ⟨rfl, ⟨σ'.next + 1, rfl, by omega, by show σ'.next + 1 < σ'.next + 1 + 1 + 1 + 1; omega, by omega, ?_, rfl⟩, trivial⟩
            · simp [h3, show ¬ b = σ'.next by omega, show ¬ b = σ'.next + 1 by omega, show ¬ b = σ'.next + 1 + 1 by omega, show ¬ b = σ'.next + 2 by omega, show ¬ b = σ'.next + 1 + 1 + 1 by omega, show ¬ b = σ'.next + 3 by omega]
            · simp [bytesV, Ne.symm f2, show ¬ σ'.next + 1 = σ'.next + 2 by omega, show ¬ σ'.next + 1 = σ'.next + 3 by omega]
      · have : i = xs.length := by omega
        subst this
        have hov : ov.one = true ∧ cellsOf ov = [ov] := by
          rcases ho with ⟨_, rfl⟩ | ⟨o, cs', rfl, _⟩ <;> simp
        simp [lk_cons, m2, m4, hov.1, hov.2, storeL, show ¬ σ.next = σ.next + 2 by omega]
        refine ⟨fun a ha => ?_, ?_⟩
        · simp [show ¬ a = σ.next by omega, show ¬ a = σ.next + 2 by omega]; exact hk a ha
        · rcases ho with ⟨hi0, rfl⟩ | ⟨o, cs', rfl, i0, o1, o2, o3, o4⟩
          · refine ⟨.agg [i64 (pl : Int), u64 (s4 : Int), .nilsl, .bool false], rfl, q2 rfl _ (.inl ⟨rfl, ?_⟩)⟩
            have : xs = [] := List.eq_nil_of_length_eq_zero hi0
            rw [this]; rfl
          · have hcl := o4.len
            rw [List.take_length] at o4 hcl
            rw [List.length_map] at hcl
            have o5 := o4.move (mem' := (σ'.mem.set σ.next (.cells 4 [i64 (pl : Int), u64 (s4 : Int), .sl o 0 xs.length xs.length false, .bool false])).set (σ.next + 2) (.cells 4 [i64 (pl : Int), u64 (s4 : Int), .sl o 0 xs.length xs.length false, .bool false])) (o' := o) (Nat.le_refl _) (fun b h1 h2 h3 => ⟨h3, by simp [show ¬ b = σ.next by omega, show ¬ b = σ.next + 2 by omega]⟩)
            obtain ⟨ics, r1, r2⟩ := FCells.frz (lo := σ.next) (o5.lower (by omega))
            have s1 := frzD_sl (lo := σ.next) (d := 1) (len := xs.length) (cap := xs.length) (t := false) (o := 0) (m := (σ'.mem.set σ.next (.cells 4 [i64 (pl : Int), u64 (s4 : Int), .sl o 0 xs.length xs.length false, .bool false])).set (σ.next + 2) (.cells 4 [i64 (pl : Int), u64 (s4 : Int), .sl o 0 xs.length xs.length false, .bool false])) (n := o) (es := 2) (vals := cs') (by omega) (by simp [show ¬ o = σ.next by omega, show ¬ o = σ.next + 2 by omega, o3]) (by omega)
            rw [List.drop_zero, List.take_of_length_le (by omega), r1] at s1
            refine ⟨.agg [i64 (pl : Int), u64 (s4 : Int), .isl ics xs.length false, .bool false], ?_, q2 rfl _ (.inr ⟨ics, xs.length, _, rfl, by simp, r2⟩)⟩
            rw [frzD_agg]
            simp only [listM_cons, s1, listM_nil]
            rfl
end Go.Proofs.Ytopagbaokokjdaa.AM

/- Words, and what hearing them keeps. -/
namespace Go.Proofs.Ytopagbaokokjdaa.AM
set_option maxRecDepth 100000
set_option linter.unusedVariables false
set_option linter.unusedSimpArgs false

/-- What a place says. -/
structure Wd where
  place : Int
  sure : Nat
  xs : List (Nat × List UInt8)
  raw : Bool
structure Wd.ok (w : Wd) : Prop where
  sure : w.sure < 18446744073709551616
  ns : ∀ x ∈ w.xs, x.1 < 18446744073709551616
  bs : ∀ x ∈ w.xs, x.2.length ≤ 140737488355328

def WCells : List AVal → List Wd → Prop
  | [], [] => True
  | a :: b :: c :: d :: cs, w :: ws => a = i64 w.place ∧ b = u64 (w.sure : Int) ∧ ItemsOf c w.xs ∧ d = .bool w.raw ∧ w.ok ∧ WCells cs ws
  | _, _ => False
theorem WCells.get : ∀ {cs : List AVal} {ws : List Wd}, WCells cs ws → ∀ {i : Nat} {w : Wd}, ws[i]? = some w → ∃ v, ItemsOf v w.xs ∧ w.ok ∧ (cs.drop (i * 4)).take 4 = [i64 w.place, u64 (w.sure : Int), v, .bool w.raw]
  | [], [], _, i, w, hw => by simp at hw
  | a :: b :: c :: d :: cs, x :: ws, h, 0, w, hw => by
    simp at hw; subst hw
    obtain ⟨h1, h2, h3, h4, h5, _⟩ := h
    exact ⟨c, h3, h5, by simp [h1, h2, h4]⟩
  | a :: b :: c :: d :: cs, x :: ws, h, i + 1, w, hw => by
    obtain ⟨v, g1, g2, g3⟩ := h.2.2.2.2.2.get (i := i) (by simpa using hw)
    exact ⟨v, g1, g2, by rw [← g3, show (i + 1) * 4 = i * 4 + 1 + 1 + 1 + 1 by omega]; rfl⟩
def WordsOf (v : AVal) (ws : List Wd) : Prop := v = .nilsl ∧ ws = [] ∨ ∃ cs k t, v = .isl cs k t ∧ k = ws.length ∧ WCells cs ws
theorem WordsOf.len {v : AVal} {ws : List Wd} (h : WordsOf v ws) (ρ : St) : evalV ρ (.len 1 v) = some (i64 ws.length, ρ) := by
  rcases h with ⟨rfl, rfl⟩ | ⟨cs, k, t, rfl, rfl, _⟩ <;> simp

/-! ### What is kept -/

theorem insF_cons (F : Nat → Option (List UInt8)) (x : Nat × List UInt8) (xs : List (Nat × List UInt8)) : insF F (x :: xs) = insF (fun q => if q = x.1 then some x.2 else F q) xs := rfl

/-- What is told twice is told alike, if nothing clashes. -/
theorem confP_false {F : Nat → Option (List UInt8)} : ∀ {xs pr : List (Nat × List UInt8)}, confP F pr xs = false → ∀ x ∈ xs, (∀ old, F x.1 = some old → old = x.2) ∧ ∀ y ∈ pr ++ xs, y.1 = x.1 → y.2 = x.2
  | [], pr, h, x, hx => by simp at hx
  | a :: xs, pr, h, x, hx => by
    simp only [confP, Bool.or_eq_false_iff] at h
    obtain ⟨⟨h1, h2⟩, h3⟩ := h
    have ih := confP_false h3
    have ha : ∀ y ∈ pr, y.1 = a.1 → y.2 = a.2 := by
      intro y hy he
      rw [hasOther, List.any_eq_false] at h2
      have := h2 y hy
      simp at this
      exact this he
    have hF : ∀ old, F a.1 = some old → old = a.2 := by
      intro old ho
      rw [ho] at h1
      simpa using h1
    rcases List.mem_cons.1 hx with rfl | hx
    · refine ⟨hF, fun y hy he => ?_⟩
      rcases List.mem_append.1 hy with hy | hy
      · exact ha y hy he
      · rcases List.mem_cons.1 hy with rfl | hy
        · rfl
        · exact ((ih y hy).2 x (by simp) he.symm).symm
    · refine ⟨(ih x hx).1, fun y hy he => (ih x hx).2 y (by simpa using hy) he⟩

/-- Told all, nothing clashing: what was there stays, what is told is there, nothing else. -/
theorem insF_get {F : Nat → Option (List UInt8)} : ∀ {xs : List (Nat × List UInt8)} (k : Nat), (insF F xs k = none ↔ F k = none ∧ ∀ x ∈ xs, x.1 ≠ k) ∧ ∀ l, insF F xs k = some l → F k = some l ∨ (k, l) ∈ xs
  | [], k => ⟨by simp [insF], fun l h => .inl h⟩
  | x :: xs, k => by
    have ih := insF_get (F := fun q => if q = x.1 then some x.2 else F q) (xs := xs) k
    rw [insF_cons]
    refine ⟨?_, fun l h => ?_⟩
    · rw [ih.1]
      by_cases hk : k = x.1
      · subst hk; simp
      · simp [hk, Ne.symm hk]
    · rcases ih.2 l h with h | h
      · by_cases hk : k = x.1
        · subst hk; simp at h; subst h; exact .inr (by simp)
        · simp [hk] at h; exact .inl h
      · exact .inr (by simp [h])

theorem insF_old {F : Nat → Option (List UInt8)} {xs : List (Nat × List UInt8)} (hc : confP F [] xs = false) {k : Nat} {l : List UInt8} (h : F k = some l) : insF F xs k = some l := by
  cases hi : insF F xs k with
  | none => rw [(insF_get k).1.1 hi |>.1] at h; cases h
  | some l' =>
    rcases (insF_get k).2 l' hi with h1 | h1
    · rw [← h1, h]
    · have := (confP_false hc (k, l') h1).1 l h
      rw [this]
theorem insF_new {F : Nat → Option (List UInt8)} {xs : List (Nat × List UInt8)} (hc : confP F [] xs = false) {x : Nat × List UInt8} (h : x ∈ xs) : insF F xs x.1 = some x.2 := by
  cases hi : insF F xs x.1 with
  | none => exact absurd rfl (((insF_get x.1).1.1 hi).2 x h)
  | some l' =>
    rcases (insF_get x.1).2 l' hi with h1 | h1
    · rw [(confP_false hc x h).1 l' h1]
    · have := (confP_false hc x h).2 (x.1, l') (by simpa using h1) rfl
      rw [← this]

theorem cnt_mono {a b : List Bool} (h : ∀ p, a.getD p false = true → b.getD p false = true) (l : List Nat) : cnt a l ≤ cnt b l := List.countP_mono_left fun p _ hp => h p hp
theorem covP_mono {P W A : Nat} {a b : List Bool} (h : ∀ p, a.getD p false = true → b.getD p false = true) (hc : covP P W A a = true) : covP P W A b = true := by
  rw [covP, List.all_eq_true] at hc ⊢
  intro e he
  have h1 := hc e he
  have h2 := cnt_mono h (setP P W e)
  simp at h1 ⊢
  omega
theorem set_mono (a : List Bool) (p q : Nat) (h : a.getD q false = true) : (a.set p true).getD q false = true := by
  rw [List.getD_eq_getElem?_getD, List.getElem?_set]
  by_cases hpq : p = q
  · subst hpq
    rw [if_pos rfl]
    by_cases hl : p < a.length
    · rw [if_pos hl]; rfl
    · rw [List.getD_eq_getElem?_getD, List.getElem?_eq_none (by omega)] at h; cases h
  · rw [if_neg hpq, ← List.getD_eq_getElem?_getD]; exact h

/-- The entries from the first one on: how many. -/
def Pre (F : Nat → Option (List UInt8)) (n : Nat) : Prop := F n = none ∧ ∀ j, j < n → F j ≠ none
theorem Pre.uniq {F : Nat → Option (List UInt8)} {n m : Nat} (h : Pre F n) (k : Pre F m) : n = m := by
  rcases Nat.lt_trichotomy n m with h1 | h1 | h1
  · exact absurd h.1 (k.2 n h1)
  · exact h1
  · exact absurd k.1 (h.2 m h1)
theorem pre_take {F G : Nat → Option (List UInt8)} {n m : Nat} (h : Pre F n) (k : Pre G m) (hFG : ∀ j l, F j = some l → G j = some l) : n ≤ m ∧ (pre G m).take n = pre F n := by
  have hle : n ≤ m := by
    rcases Nat.lt_or_ge m n with h1 | h1
    · exfalso
      cases hf : F m with
      | none => exact h.2 m h1 hf
      | some l => have := hFG m l hf; rw [k.1] at this; cases this
    · exact h1
  refine ⟨hle, ?_⟩
  refine List.ext_getElem? fun j => ?_
  rw [List.getElem?_take]
  by_cases hj : j < n
  · rw [if_pos hj]
    simp only [pre, List.getElem?_map]
    rw [List.getElem?_range (by omega), List.getElem?_range hj]
    simp only [Option.map_some]
    cases hf : F j with
    | none => exact absurd hf (h.2 j hj)
    | some l => rw [hFG j l hf]
  · rw [if_neg hj, List.getElem?_eq_none (by rw [pre_len]; omega)]
end Go.Proofs.Ytopagbaokokjdaa.AM

/- What arguments are: words. -/
namespace Go.Proofs.Ytopagbaokokjdaa.AM
open Go.RowKit
set_option maxRecDepth 100000
set_option linter.unusedVariables false
set_option linter.unusedSimpArgs false

def U8Arg (x : List AVal) : Prop := ∃ n, x = [.int .u8 n] ∧ (Lit.int .u8 n).wf = true
def BytesArg (b : List AVal) : Prop := b = [.nilsl] ∨ ∃ xs : List (List AVal), b = [.isl xs.flatten xs.length false] ∧ (∀ x ∈ xs, x.length = 1 ∧ U8Arg x) ∧ xs.length ≤ 9223372036854775807 ∧ xs.length * 1 ≤ 140737488351232
def U64Arg (x : List AVal) : Prop := ∃ n, x = [.int .u64 n] ∧ (Lit.int .u64 n).wf = true
def ItemArg (x : List AVal) : Prop := ∃ a b, x = a ++ b ∧ U64Arg a ∧ BytesArg b
def ItemsArg (b : List AVal) : Prop := b = [.nilsl] ∨ ∃ xs : List (List AVal), b = [.isl xs.flatten xs.length false] ∧ (∀ x ∈ xs, x.length = 2 ∧ ItemArg x) ∧ xs.length ≤ 9223372036854775807 ∧ xs.length * 32 ≤ 140737488351232
def WordArg (x : List AVal) : Prop := ∃ a b, x = a ++ b ∧ (∃ n, a = [.int .i64 n] ∧ (Lit.int .i64 n).wf = true) ∧ (∃ c d, b = c ++ d ∧ U64Arg c ∧ (∃ e f, d = e ++ f ∧ ItemsArg e ∧ ∃ q, f = [.bool q]))
def WordsArg (b : List AVal) : Prop := b = [.nilsl] ∨ ∃ xs : List (List AVal), b = [.isl xs.flatten xs.length false] ∧ (∀ x ∈ xs, x.length = 4 ∧ WordArg x) ∧ xs.length ≤ 9223372036854775807 ∧ xs.length * 48 ≤ 140737488351232

theorem bytesArg {b : List AVal} (h : BytesArg b) : ∃ d l, b = [d] ∧ BytesOf d l ∧ l.length ≤ 140737488355328 := by
  have hd : ∃ d, b = [d] := by
    rcases h with h | ⟨xs, h, _⟩ <;> exact ⟨_, h⟩
  obtain ⟨d, rfl⟩ := hd
  obtain ⟨l, h1, h2⟩ := bytes_arg (ok := U8Arg) (fun x hx => hx) h
  exact ⟨d, l, rfl, h1, by omega⟩
theorem itemsCells : ∀ xs : List (List AVal), (∀ x ∈ xs, x.length = 2 ∧ ItemArg x) → ∃ ys : List (Nat × List UInt8), ICells xs.flatten ys ∧ ys.length = xs.length ∧ (∀ y ∈ ys, y.1 < 18446744073709551616) ∧ ∀ y ∈ ys, y.2.length ≤ 140737488355328
  | [], _ => ⟨[], trivial, rfl, by simp, by simp⟩
  | x :: xs, h => by
    obtain ⟨ys, h1, h2, h3, h4⟩ := itemsCells xs (fun y hy => h y (by simp [hy]))
    obtain ⟨_, a, b, rfl, ⟨n, rfl, hw⟩, hb⟩ := h x (by simp)
    obtain ⟨d, l, rfl, hd, hl⟩ := bytesArg hb
    obtain ⟨k, rfl, hk⟩ := wf_u64 hw
    refine ⟨(k, l) :: ys, ⟨rfl, hd, h1⟩, by simp [h2], fun y hy => ?_, fun y hy => ?_⟩
    · rcases List.mem_cons.1 hy with rfl | hy
      · exact hk
      · exact h3 y hy
    · rcases List.mem_cons.1 hy with rfl | hy
      · exact hl
      · exact h4 y hy
theorem itemsArg {b : List AVal} (h : ItemsArg b) : ∃ v ys, b = [v] ∧ ItemsOf v ys ∧ (∀ y ∈ ys, y.1 < 18446744073709551616) ∧ ∀ y ∈ ys, y.2.length ≤ 140737488355328 := by
  rcases h with h | ⟨xs, h, hx, _⟩
  · exact ⟨_, [], h, .inl ⟨rfl, rfl⟩, by simp, by simp⟩
  · obtain ⟨ys, h1, h2, h3, h4⟩ := itemsCells xs hx
    exact ⟨_, ys, h, .inr ⟨_, _, _, rfl, h2.symm, h1⟩, h3, h4⟩
theorem wordsCells : ∀ xs : List (List AVal), (∀ x ∈ xs, x.length = 4 ∧ WordArg x) → ∃ ws : List Wd, WCells xs.flatten ws ∧ ws.length = xs.length
  | [], _ => ⟨[], trivial, rfl⟩
  | x :: xs, h => by
    obtain ⟨ws, h1, h2⟩ := wordsCells xs (fun y hy => h y (by simp [hy]))
    obtain ⟨_, a, b, rfl, ⟨n, rfl, hw⟩, c, d, rfl, ⟨m, rfl, hm⟩, e, f, rfl, hi, q, rfl⟩ := h x (by simp)
    obtain ⟨v, ys, rfl, g1, g2, g3⟩ := itemsArg hi
    obtain ⟨k, rfl, hk⟩ := wf_u64 hm
    exact ⟨⟨n, k, ys, q⟩ :: ws, ⟨rfl, rfl, g1, rfl, ⟨hk, g2, g3⟩, h1⟩, by simp [h2]⟩
theorem wordsArg {v : AVal} (h : WordsArg [v]) : ∃ ws, WordsOf v ws ∧ ws.length ≤ 9223372036854775807 := by
  rcases h with h | ⟨xs, h, hx, hl, _⟩
  · cases h; exact ⟨[], .inl ⟨rfl, rfl⟩, by simp⟩
  · cases h
    obtain ⟨ws, h1, h2⟩ := wordsCells xs hx
    exact ⟨ws, .inr ⟨_, _, _, rfl, h2.symm, h1⟩, by omega⟩
end Go.Proofs.Ytopagbaokokjdaa.AM

/- A mender by what it has heard: the order doesn't matter. -/
namespace Go.Proofs.Ytopagbaokokjdaa.AM
set_option maxRecDepth 100000
set_option linter.unusedVariables false
set_option linter.unusedSimpArgs false

abbrev Hd := Nat × Nat × List (Nat × List UInt8)

def HeardOk (P : Nat) (heard : List Bool) (D : List Hd) : Prop := ∀ p, p < P → (heard.getD p false = true ↔ ∃ x ∈ D, x.1 = p)
def ItsOk (F : Nat → Option (List UInt8)) (D : List Hd) : Prop := ∀ k l, F k = some l ↔ ∃ x ∈ D, (k, l) ∈ x.2.2
def SureOk (sure : Nat) (D : List Hd) : Prop := (∀ x ∈ D, x.2.1 ≤ sure) ∧ (sure = 0 ∨ ∃ x ∈ D, x.2.1 = sure)

/-- A mender that has heard D. -/
def MSt (σ : St) (m hb mp P W A : Nat) (D : List Hd) : Prop := ∃ (heard : List Bool) (sure : Nat) (its : List (Nat × List UInt8)), MRep σ m hb mp P W A heard sure its ∧ HeardOk P heard D ∧ ItsOk (lkp its) D ∧ SureOk sure D ∧ its.length ≤ 30 * D.length ∧ ∀ k l, lkp its k = some l → l.length ≤ 140737488355328

theorem MSt.frame {σ σ' : St} {m hb mp P W A : Nat} {D : List Hd} (h : MSt σ m hb mp P W A D) (hm : ∀ a, a = m ∨ a = hb ∨ a = mp → σ'.mem.get a = σ.mem.get a) (hn : σ.next ≤ σ'.next) : MSt σ' m hb mp P W A D := by
  obtain ⟨heard, sure, its, h1, h2⟩ := h
  exact ⟨heard, sure, its, h1.frame hm hn, h2⟩
theorem MSt.lt {σ : St} {m hb mp P W A : Nat} {D : List Hd} (h : MSt σ m hb mp P W A D) : m < σ.next ∧ hb < σ.next ∧ mp < σ.next := by
  obtain ⟨heard, sure, its, h1, h2⟩ := h
  exact h1.lt

theorem MSt.new {σ : St} {m hb mp P W A : Nat} (h : MRep σ m hb mp P W A (List.replicate P false) 0 []) : MSt σ m hb mp P W A [] := by
  refine ⟨_, _, _, h, fun p hp => ?_, fun k l => ?_, ⟨by simp, .inl rfl⟩, by simp, fun k l h => by cases h⟩
  · rw [List.getD_eq_getElem?_getD, List.getElem?_replicate]
    simp [hp]
  · simp [lkp]

theorem mhear_c {σ : St} {m hb mp P W A : Nat} {D : List Hd} (h : MSt σ m hb mp P W A D) (hP : P ≤ 7) (pl s : Nat) (hpl : pl < P) (hs : s ≤ 1048576) {v : AVal} {xs : List (Nat × List UInt8)} (hv : ItemsOf v xs) (hxl : xs.length ≤ 30) (hbl : ∀ x ∈ xs, x.2.length ≤ 140737488355328) (Q : AVal → St → Prop)
    (q1 : ∀ σ', Grow σ σ' → Q (i64 21) σ') (q2 : ∀ σ', MSt σ' m hb mp P W A (D ++ [(pl, s, xs)]) → Keep3 m hb mp σ σ' → Q (i64 0) σ') :
    ACall Try.prog 13 [.ptr m 0, i64 (pl : Int), u64 (s : Int), v] σ Q := by
  obtain ⟨heard, sure, its, h1, h2, h3, h4, h5, h6⟩ := h
  refine hear_c h1 hP pl s hv (by omega) hbl Q (fun hb => by omega) (fun _ _ _ _ σ' hg => q1 σ' hg) fun p σ' its' hp _ _ hc hi hl hr hk => q2 σ' ⟨_, _, its', hr, ?_, ?_, ?_, ?_, ?_⟩ hk
  · have : p = pl := by omega
    subst this
    intro q hq
    have hlen := h1.heard.2
    rw [List.getD_eq_getElem?_getD, List.getElem?_set]
    by_cases hpq : p = q
    · subst hpq
      rw [if_pos rfl, if_pos (by omega)]
      simp
    · rw [if_neg hpq, ← List.getD_eq_getElem?_getD, h2 q hq]
      simp [hpq]
  · intro k l
    rw [hi k]
    constructor
    · intro hh
      rcases (insF_get k).2 l hh with g | g
      · obtain ⟨x, g1, g2⟩ := (h3 k l).1 g
        exact ⟨x, by simp [g1], g2⟩
      · exact ⟨(pl, s, xs), by simp, g⟩
    · rintro ⟨x, g1, g2⟩
      rcases List.mem_append.1 g1 with g1 | g1
      · exact insF_old hc ((h3 k l).2 ⟨x, g1, g2⟩)
      · simp at g1; subst g1
        exact insF_new hc g2
  · refine ⟨fun x hx => ?_, ?_⟩
    · rcases List.mem_append.1 hx with hx | hx
      · have := h4.1 x hx; omega
      · simp at hx; subst hx; show s ≤ max sure s; omega
    · by_cases hss : sure ≤ s
      · rw [Nat.max_eq_right hss]; exact .inr ⟨(pl, s, xs), by simp, rfl⟩
      · rw [Nat.max_eq_left (by omega)]
        rcases h4.2 with h | ⟨x, g1, g2⟩
        · exact .inl h
        · exact .inr ⟨x, by simp [g1], g2⟩
  · rw [List.length_append]; simp; omega
  · intro k l hh
    rw [hi k] at hh
    rcases (insF_get k).2 l hh with g | g
    · exact h6 k l g
    · exact hbl (k, l) g

/-- What comes of it. -/
def ResOf (P W A : Nat) (heard : List Bool) (sure : Nat) (F : Nat → Option (List UInt8)) (c : Int) (nx : List (Nat × List UInt8)) : Prop :=
  (covP P W A heard = false ∧ c = 23 ∧ nx = []) ∨ (covP P W A heard = true ∧ ∃ n, Pre F n ∧ ((n < sure ∧ c = 22 ∧ nx = []) ∨ (sure ≤ n ∧ c = 0 ∧ nx = pre F n)))

theorem ResOf.uniq {P W A : Nat} {heard : List Bool} {sure : Nat} {F : Nat → Option (List UInt8)} {c c' : Int} {nx nx' : List (Nat × List UInt8)} (h : ResOf P W A heard sure F c nx) (k : ResOf P W A heard sure F c' nx') : c = c' ∧ nx = nx' := by
  rcases h with ⟨h1, rfl, rfl⟩ | ⟨h1, n, h2, h3⟩
  · rcases k with ⟨_, rfl, rfl⟩ | ⟨k1, _⟩
    · exact ⟨rfl, rfl⟩
    · rw [h1] at k1; cases k1
  · rcases k with ⟨k1, _⟩ | ⟨_, n', k2, k3⟩
    · rw [h1] at k1; cases k1
    · have := h2.uniq k2
      subst this
      rcases h3 with ⟨a, rfl, rfl⟩ | ⟨a, rfl, rfl⟩
      · rcases k3 with ⟨_, rfl, rfl⟩ | ⟨b, _⟩
        · exact ⟨rfl, rfl⟩
        · omega
      · rcases k3 with ⟨b, _⟩ | ⟨_, rfl, rfl⟩
        · omega
        · exact ⟨rfl, rfl⟩

/-- Menders that heard the same are alike. -/
theorem same_heard {P : Nat} {h h' : List Bool} {D D' : List Hd} (hl : h.length = P) (hl' : h'.length = P) (hd : ∀ x, x ∈ D ↔ x ∈ D') (a : HeardOk P h D) (b : HeardOk P h' D') : h = h' := by
  refine List.ext_getElem (by omega) fun p h1 h2 => ?_
  have e1 := a p (by omega)
  have e2 := b p (by omega)
  have : (∃ x ∈ D, x.1 = p) ↔ ∃ x ∈ D', x.1 = p := ⟨fun ⟨x, h, e⟩ => ⟨x, (hd x).1 h, e⟩, fun ⟨x, h, e⟩ => ⟨x, (hd x).2 h, e⟩⟩
  rw [this, ← e2] at e1
  rw [List.getD_eq_getElem?_getD, List.getElem?_eq_getElem h1, List.getD_eq_getElem?_getD, List.getElem?_eq_getElem h2] at e1
  simp only [Option.getD_some] at e1
  exact Bool.eq_iff_iff.2 e1
theorem same_its {F F' : Nat → Option (List UInt8)} {D D' : List Hd} (hd : ∀ x, x ∈ D ↔ x ∈ D') (a : ItsOk F D) (b : ItsOk F' D') : F = F' := by
  funext k
  have key : ∀ l, F k = some l ↔ F' k = some l := fun l => by
    rw [a k l, b k l]
    exact ⟨fun ⟨x, h, e⟩ => ⟨x, (hd x).1 h, e⟩, fun ⟨x, h, e⟩ => ⟨x, (hd x).2 h, e⟩⟩
  cases hf : F k with
  | none =>
    cases hf' : F' k with
    | none => rfl
    | some l => rw [(key l).2 hf'] at hf; cases hf
  | some l => exact ((key l).1 hf).symm
theorem same_sure {s s' : Nat} {D D' : List Hd} (hd : ∀ x, x ∈ D ↔ x ∈ D') (a : SureOk s D) (b : SureOk s' D') : s = s' := by
  have h1 : s ≤ s' := by
    rcases a.2 with h | ⟨x, h, e⟩
    · omega
    · have := b.1 x ((hd x).1 h); omega
  have h2 : s' ≤ s := by
    rcases b.2 with h | ⟨x, h, e⟩
    · omega
    · have := a.1 x ((hd x).2 h); omega
  omega

theorem mresult_c {σ : St} {m hb mp P W A : Nat} {heard : List Bool} {sure : Nat} {its : List (Nat × List UInt8)} (h : MRep σ m hb mp P W A heard sure its) (hq : 1 ≤ A ∧ A ≤ W ∧ W ≤ P ∧ P ≤ 7) (hil : its.length ≤ 1000000) (hbl : ∀ k l, lkp its k = some l → l.length ≤ 140737488355328) (Q : AVal → St → Prop)
    (q : ∀ (c : Int) (lv : AVal) (nx : List (Nat × List UInt8)), ItemsOf lv nx → nx.length ≤ its.length → ResOf P W A heard sure (lkp its) c nx → Q (.tup [lv, i64 c]) σ) :
    ACall Try.prog 17 [.ptr m 0] σ Q := by
  refine result_c h hq hil hbl Q (fun hc => q 23 _ [] (.inl ⟨rfl, rfl⟩) (by simp) (.inl ⟨hc, rfl, rfl⟩)) fun hc n v h1 h2 h3 h4 => ⟨fun hs => q 22 _ [] (.inl ⟨rfl, rfl⟩) (by simp) (.inr ⟨hc, n, ⟨h2, h1⟩, .inl ⟨hs, rfl, rfl⟩⟩), fun hs => q 0 v _ h4 (by rw [pre_len]; exact h3) (.inr ⟨hc, n, ⟨h2, h1⟩, .inr ⟨hs, rfl, rfl⟩⟩)⟩
end Go.Proofs.Ytopagbaokokjdaa.AM

/- The document's mender: items whose bytes lie in memory. -/
namespace Go.Proofs.Ytopagbaokokjdaa.AM
set_option maxRecDepth 100000
set_option linter.unusedVariables false
set_option linter.unusedSimpArgs false

/-- Bytes, unchanging or in memory. -/
def BytesM (σ : St) (d : AVal) (l : List UInt8) : Prop := BytesOf d l ∨ ∃ b k c t, d = .sl b 0 k c t ∧ k = l.length ∧ b < σ.next ∧ σ.mem.get b = some (.cells 1 (bytesV l))
theorem BytesM.str {σ : St} {d : AVal} {l : List UInt8} (h : BytesM σ d l) : evalV σ (.bytesStr d) = some (.str ⟨l.toArray⟩, σ) := by
  rcases h with h | ⟨b, k, c, t, rfl, rfl, _, hm⟩
  · exact h.str σ
  · have hl := bytesV_len l
    simp only [evalV, srcL, hm]
    rw [if_pos (by omega), Nat.mul_one, List.drop_zero, List.take_of_length_le (by omega)]
    simp only [Option.bind_some, bytesV_bytes, Option.map_some]
theorem BytesM.one {σ : St} {d : AVal} {l : List UInt8} (h : BytesM σ d l) : d.one = true ∧ cellsOf d = [d] := by
  rcases h with h | ⟨b, k, c, t, rfl, rfl, _, hm⟩
  · exact h.one
  · simp
theorem BytesM.upto {σ : St} {d : AVal} {l : List UInt8} (h : BytesM σ d l) : d.upto σ.next = true := by
  rcases h with h | ⟨b, k, c, t, rfl, rfl, hb, hm⟩
  · exact h.upto _
  · simp [hb]
/-- Is a block one of those that hold d? -/
def Holds (d : AVal) (a : Nat) : Prop := ∃ k c t, d = .sl a 0 k c t
theorem BytesM.frame {σ σ' : St} {d : AVal} {l : List UInt8} (h : BytesM σ d l) (hn : σ.next ≤ σ'.next) (hm : ∀ a, a < σ.next → Holds d a → σ'.mem.get a = σ.mem.get a) : BytesM σ' d l := by
  rcases h with h | ⟨b, k, c, t, rfl, rfl, hb, h⟩
  · exact .inl h
  · exact .inr ⟨b, _, c, t, rfl, rfl, by omega, by rw [hm b hb ⟨_, _, _, rfl⟩]; exact h⟩

def MCells (σ : St) : List AVal → List (Nat × List UInt8) → Prop
  | [], [] => True
  | c :: d :: cs, x :: xs => c = u64 (x.1 : Int) ∧ BytesM σ d x.2 ∧ MCells σ cs xs
  | _, _ => False
theorem MCells.len {σ : St} : ∀ {cs : List AVal} {xs : List (Nat × List UInt8)}, MCells σ cs xs → cs.length = xs.length * 2
  | [], [], _ => rfl
  | c :: d :: cs, x :: xs, h => by have := h.2.2.len; simp [this]; omega
  | [], _ :: _, h => h.elim
  | [_], _, h => by cases ‹List (Nat × List UInt8)› <;> exact h.elim
  | _ :: _ :: _, [], h => h.elim
theorem MCells.get {σ : St} : ∀ {cs : List AVal} {xs : List (Nat × List UInt8)}, MCells σ cs xs → ∀ {i : Nat} {x : Nat × List UInt8}, xs[i]? = some x → ∃ d, BytesM σ d x.2 ∧ (cs.drop (i * 2)).take 2 = [u64 (x.1 : Int), d] ∧ cs[i * 2]? = some (u64 (x.1 : Int)) ∧ cs[i * 2 + 1]? = some d
  | c :: d :: cs, y :: xs, h, 0, x, hx => by
    simp at hx; subst hx
    exact ⟨d, h.2.1, by simp [h.1], by simp [h.1], by simp⟩
  | c :: d :: cs, y :: xs, h, i + 1, x, hx => by
    obtain ⟨d', h1, h2, h3, h4⟩ := h.2.2.get (i := i) (by simpa using hx)
    have e : (i + 1) * 2 = i * 2 + 1 + 1 := by omega
    exact ⟨d', h1, by rw [← h2, e]; rfl, by rw [e]; simpa using h3, by rw [e]; simpa using h4⟩
  | [], [], _, _, _, hx => by simp at hx
  | [], _ :: _, h, _, _, _ => h.elim
  | [_], _, h, _, _, _ => by cases ‹List (Nat × List UInt8)› <;> exact h.elim
  | _ :: _ :: _, [], h, _, _, _ => h.elim
theorem MCells.append {σ : St} : ∀ {cs ds : List AVal} {xs ys : List (Nat × List UInt8)}, MCells σ cs xs → MCells σ ds ys → MCells σ (cs ++ ds) (xs ++ ys)
  | [], ds, [], ys, _, h => h
  | c :: d :: cs, ds, x :: xs, ys, h, k => ⟨h.1, h.2.1, h.2.2.append k⟩
  | [], _, _ :: _, _, h, _ => h.elim
  | [_], _, _, _, h, _ => by cases ‹List (Nat × List UInt8)› <;> exact h.elim
  | _ :: _ :: _, _, [], _, h, _ => h.elim
theorem MCells.upto {σ : St} : ∀ {cs : List AVal} {xs : List (Nat × List UInt8)}, MCells σ cs xs → uptoL σ.next cs = true
  | [], [], _ => rfl
  | c :: d :: cs, x :: xs, h => by simp [h.1, h.2.1.upto, h.2.2.upto]
  | [], _ :: _, h => h.elim
  | [_], _, h => by cases ‹List (Nat × List UInt8)› <;> exact h.elim
  | _ :: _ :: _, [], h => h.elim
theorem MCells.frame {σ σ' : St} (hn : σ.next ≤ σ'.next) : ∀ {cs : List AVal} {xs : List (Nat × List UInt8)}, MCells σ cs xs → (∀ a, a < σ.next → (∃ d ∈ cs, Holds d a) → σ'.mem.get a = σ.mem.get a) → MCells σ' cs xs
  | [], [], _, _ => trivial
  | c :: d :: cs, x :: xs, h, hm => ⟨h.1, h.2.1.frame hn fun a ha hh => hm a ha ⟨d, by simp, hh⟩, MCells.frame hn h.2.2 fun a ha ⟨y, hy, hh⟩ => hm a ha ⟨y, by simp [hy], hh⟩⟩
  | [], _ :: _, h, _ => h.elim
  | [_], _, h, _ => by cases ‹List (Nat × List UInt8)› <;> exact h.elim
  | _ :: _ :: _, [], h, _ => h.elim

def ItemsM (σ : St) (v : AVal) (xs : List (Nat × List UInt8)) : Prop := v = .nilsl ∧ xs = [] ∨ ∃ cs k t, v = .isl cs k t ∧ k = xs.length ∧ MCells σ cs xs
theorem ItemsM.len {σ : St} {v : AVal} {xs : List (Nat × List UInt8)} (h : ItemsM σ v xs) (ρ : St) : evalV ρ (.len 1 v) = some (i64 xs.length, ρ) := by
  rcases h with ⟨rfl, rfl⟩ | ⟨cs, k, t, rfl, rfl, _⟩ <;> simp

theorem same_cm {x y : AVal} {xs ys : List (Nat × List UInt8)} (hx : ItemsOf x xs) (σ : St) (hy : ItemsM σ y ys) (hl : xs.length ≤ 1000000) (Q : AVal → St → Prop) (h : Q (.bool (decide (xs = ys))) σ) : ACall Try.prog 19 [x, y] σ Q := by
  refine ACall.of_compF hmx (fun a w => Try.call19 a w) Try.func19 cf19 (n := 2) (by decide) rfl ?_
  have l1 := hx.len
  have l2 := hy.len
  simp [ac19, rs19, lk_cons, ↓l1, ↓l2]
  by_cases hlen : xs.length = ys.length
  · have hlen' : (xs.length : Int) = ys.length := by omega
    simp [lk_cons, hlen, hlen']
    refine wp_loop (SameJ x y xs ys σ) xs.length ?_ ?_
    · exact ⟨0, rfl, by omega, rfl, rfl, rfl⟩
    · rintro m r σ' ⟨i, rfl, hi, hp, rfl, rfl⟩
      by_cases hlt : i < xs.length
      · have hlt2 : i < ys.length := by omega
        obtain ⟨p, hpx⟩ : ∃ p, xs[i]? = some p := ⟨_, List.getElem?_eq_getElem hlt⟩
        obtain ⟨q, hqy⟩ : ∃ q, ys[i]? = some q := ⟨_, List.getElem?_eq_getElem hlt2⟩
        obtain ⟨k, hk⟩ : ∃ k, i + 1 = k := ⟨_, rfl⟩
        have hw : IntKind.i64.wrap ((i : Int) + 1) = (k : Int) := by rw [IntWalk.i64_in] <;> omega
        rcases hx with ⟨rfl, rfl⟩ | ⟨cs, kk, t, rfl, rfl, hc⟩
        · simp at hpx
        rcases hy with ⟨rfl, rfl⟩ | ⟨ds, kk', t', rfl, rfl, hd⟩
        · simp at hqy
        obtain ⟨a, ha, e1⟩ := hc.get hpx
        obtain ⟨b, hb, e2, _⟩ := hd.get hqy
        have s1 := ha.str
        have s2 := hb.str
        have notEq : p ≠ q → ¬ xs = ys := by
          intro hne he
          subst he
          rw [hpx] at hqy; cases hqy; exact hne rfl
        by_cases hn : p.1 = q.1
        · have hn' : (p.1 : Int) = (q.1 : Int) := by omega
          by_cases hl2 : p.2 = q.2
          · have hpq : p = q := by cases p; cases q; simp_all
            simp [lk_cons, ↓l1, hlt, hlt2, e1, e2, ↓s1, ↓s2, hn, hl2, str_ne, hw]
            exact ⟨xs.length - k, by omega, k, rfl, by omega, by rw [← hk, List.take_add_one, List.take_add_one, hp, hpx, hqy, hpq], rfl, rfl⟩
          · have := notEq (fun e => hl2 (by rw [e]))
            simp [this] at h
            simp [lk_cons, ↓l1, hlt, hlt2, e1, e2, ↓s1, ↓s2, hn, hl2, str_ne]
            exact h
        · have := notEq (fun e => hn (by rw [e]))
          simp [this] at h
          have hn' : ¬ (p.1 : Int) = (q.1 : Int) := by omega
          simp [lk_cons, ↓l1, hlt, hlt2, e1, e2, ↓s1, ↓s2, hn, hn', str_ne]
          exact h
      · have : i = xs.length := by omega
        subst this
        have : xs = ys := by rwa [List.take_length, hlen, List.take_length] at hp
        simp [this] at h
        simp [lk_cons, ↓l1]
        exact h
  · have hlen' : ¬ (xs.length : Int) = ys.length := by omega
    have : ¬ xs = ys := fun e => hlen (by rw [e])
    simp [this] at h
    simp [lk_cons, hlen, hlen']
    exact h

/-! ### find -/

def firstAt (xs : List (Nat × List UInt8)) (n : Nat) : Option Nat := xs.findIdx? fun x => decide (x.1 = n)
def idxI (o : Option Nat) : Int := match o with
  | some i => i
  | none => -1
def FindJ (v : AVal) (n : Nat) (xs : List (Nat × List UInt8)) (σ0 : St) (mm : Nat) (r : Regs) (σ' : St) : Prop := ∃ i : Nat, mm = xs.length - i ∧ i ≤ xs.length ∧ (∀ x ∈ xs.take i, x.1 ≠ n) ∧ σ' = σ0 ∧ r = [(0, v), (1, u64 (n : Int)), (5, i64 i)]

/-- A slice in memory of k cells of two. -/
def Sl2 (σ : St) (v : AVal) (cs : List AVal) (k : Nat) : Prop := v = .nilsl ∧ k = 0 ∧ cs = [] ∨ ∃ b c t, v = .sl b 0 k c t ∧ b < σ.next ∧ σ.mem.get b = some (.cells 2 cs) ∧ cs.length = k * 2
theorem Sl2.len {σ : St} {v : AVal} {cs : List AVal} {k : Nat} (h : Sl2 σ v cs k) (ρ : St) : evalV ρ (.len 1 v) = some (i64 k, ρ) := by
  rcases h with ⟨rfl, rfl, rfl⟩ | ⟨b, c, t, rfl, _⟩ <;> simp

theorem firstAt_some {xs : List (Nat × List UInt8)} {n i : Nat} (h : firstAt xs n = some i) : ∃ x, xs[i]? = some x ∧ x.1 = n ∧ ∀ y ∈ xs.take i, y.1 ≠ n := by
  simp only [firstAt, List.findIdx?_eq_some_iff_getElem] at h
  obtain ⟨h1, h2, h3⟩ := h
  refine ⟨xs[i], List.getElem?_eq_getElem h1, by simpa using h2, fun y hy => ?_⟩
  obtain ⟨j, hj⟩ := List.mem_iff_getElem?.1 hy
  rw [List.getElem?_take] at hj
  split at hj
  · rename_i hji
    have := h3 j hji
    rw [List.getElem?_eq_getElem (by omega)] at hj
    cases hj
    simpa using this
  · cases hj
theorem firstAt_eq {xs : List (Nat × List UInt8)} {n i : Nat} {x : Nat × List UInt8} (h1 : xs[i]? = some x) (h2 : x.1 = n) (h3 : ∀ y ∈ xs.take i, y.1 ≠ n) : firstAt xs n = some i := by
  simp only [firstAt, List.findIdx?_eq_some_iff_getElem]
  have hi := (List.getElem?_eq_some_iff.1 h1).1
  refine ⟨hi, ?_, fun j hj => ?_⟩
  · rw [(List.getElem?_eq_some_iff.1 h1).2]; simpa using h2
  · have := h3 xs[j] (List.mem_of_getElem? (by rw [List.getElem?_take, if_pos hj]; exact List.getElem?_eq_getElem (by omega)))
    simpa using this
theorem firstAt_none {xs : List (Nat × List UInt8)} {n : Nat} (h : ∀ y ∈ xs, y.1 ≠ n) : firstAt xs n = none := by
  simp only [firstAt, List.findIdx?_eq_none_iff]
  intro x hx
  simpa using h x hx

theorem find_c {σ : St} {v : AVal} {cs : List AVal} {xs : List (Nat × List UInt8)} (hv : Sl2 σ v cs xs.length) (hc : MCells σ cs xs) (hl : xs.length ≤ 1000000) (n : Nat) (Q : AVal → St → Prop) (h : Q (i64 (idxI (firstAt xs n))) σ) : ACall Try.prog 31 [v, u64 (n : Int)] σ Q := by
  refine ACall.of_compF hmx (fun a w => Try.call31 a w) Try.func31 cf31 (n := 2) (by decide) rfl ?_
  have l1 := hv.len
  simp [ac31, rs31, lk_cons]
  refine wp_loop (FindJ v n xs σ) xs.length ?_ ?_
  · exact ⟨0, rfl, by omega, by simp, rfl, rfl⟩
  · rintro m r σ' ⟨i, rfl, hi, hp, rfl, rfl⟩
    by_cases hlt : i < xs.length
    · obtain ⟨p, hpx⟩ : ∃ p, xs[i]? = some p := ⟨_, List.getElem?_eq_getElem hlt⟩
      obtain ⟨k, hk⟩ : ∃ k, i + 1 = k := ⟨_, rfl⟩
      have hw : IntKind.i64.wrap ((i : Int) + 1) = (k : Int) := by rw [IntWalk.i64_in] <;> omega
      rcases hv with ⟨rfl, hk0, rfl⟩ | ⟨b, c, t, rfl, hb, hm, hcl⟩
      · rw [hk0] at hlt; omega
      obtain ⟨d, hd, _, e1, e2⟩ := hc.get hpx
      by_cases hn : p.1 = n
      · have hf := firstAt_eq hpx hn hp
        rw [hf] at h
        have hn' : (p.1 : Int) = (n : Int) := by omega
        simp [lk_cons, ↓l1, hlt, hm, e1, hn, hn']
        exact h
      · have hn' : ¬ (p.1 : Int) = (n : Int) := by omega
        simp [lk_cons, ↓l1, hlt, hm, e1, hn, hn', hw]
        refine ⟨xs.length - k, by omega, k, rfl, by omega, fun x hx => ?_, rfl, rfl⟩
        rw [← hk, List.take_add_one, hpx] at hx
        rcases List.mem_append.1 hx with hx | hx
        · exact hp x hx
        · simp at hx; subst hx; exact hn
    · have : i = xs.length := by omega
      subst this
      rw [List.take_length] at hp
      rw [firstAt_none hp] at h
      simp [lk_cons, ↓l1]
      exact h
end Go.Proofs.Ytopagbaokokjdaa.AM
