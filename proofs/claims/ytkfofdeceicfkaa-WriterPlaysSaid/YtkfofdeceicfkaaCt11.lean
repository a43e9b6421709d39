/- What the functions of this chapter give: their contracts over the machine. -/
import Derived.Test.YtkfofdeceicfkaaC11
import Derived.Test.YtkfofdeceicfkaaAm3
import Derived.IntWalk
/- Quorums, and what the document says of them: what their functions give. -/
namespace Go.Proofs.Ytkfofdeceicfkaa.AM
set_option maxRecDepth 100000
set_option linter.unusedVariables false
set_option linter.unusedSimpArgs false

theorem frz_sl {lo n o len cap es : Nat} {t : Bool} {m : Mem} {vals : List AVal} (hn : lo ≤ n) (hm : m.get n = some (.cells es vals)) (hl : o + len * es ≤ vals.length) (hu : uptoL lo vals = true) : frz lo m (.sl n o len cap t) = some (.isl ((vals.drop o).take (len * es)) len (t && decide (cap = len))) := by
  simp only [frz, frz1]
  rw [if_neg (by omega), hm]
  simp only
  rw [if_pos ⟨hl, hu⟩]
@[simp] theorem frz_int (lo : Nat) (m : Mem) (k : IntKind) (n : Int) : frz lo m (.int k n) = some (.int k n) := rfl
@[simp] theorem frz_bool (lo : Nat) (m : Mem) (b : Bool) : frz lo m (.bool b) = some (.bool b) := rfl
@[simp] theorem frz_nilsl (lo : Nat) (m : Mem) : frz lo m .nilsl = some .nilsl := rfl
@[simp] theorem frz_str (lo : Nat) (m : Mem) (s : ByteArray) : frz lo m (.str s) = some (.str s) := rfl
attribute [simp] AVal.upto uptoL
theorem uptoL_ints (lo : Nat) (k : IntKind) (l : List Nat) : uptoL lo (l.map fun (x : Nat) => .int k (x : Int)) = true := by
  induction l with
  | nil => rfl
  | cons x l ih => simp only [List.map_cons, uptoL, AVal.upto, ih, Bool.and_true]

abbrev i64 (n : Int) : AVal := .int .i64 n
abbrev u64 (n : Int) : AVal := .int .u64 n
abbrev qv (P W A : Int) : AVal := .agg [i64 P, i64 W, i64 A]

attribute [simp] i64 u64 qv

theorem qcheck (P W A : Int) (σ : St) (Q : AVal → St → Prop) (h : Q (.bool (decide (1 ≤ A ∧ A ≤ W ∧ W ≤ P ∧ P ≤ 7))) σ) : ACall Try.prog 24 [qv P W A] σ Q := by
  refine ACall.pure rfl ?_
  refine ACall.of_compF hmx (fun a w => Try.call24 a w) Try.func24 cf24 (n := 1) (by decide) rfl ?_
  by_cases h1 : 1 ≤ A <;> by_cases h2 : A ≤ W <;> by_cases h3 : W ≤ P <;> by_cases h4 : P ≤ 7 <;> simp [h1, h2, h3, h4] at h <;> simp [ac24, rs24, lk_cons, h1, h2, h3, h4, h]

theorem rcheck (P W A : Int) (σ : St) (Q : AVal → St → Prop) (h : Q (.bool (decide (1 ≤ A ∧ A ≤ W ∧ W ≤ P ∧ P ≤ 7))) σ) : ACall Try.prog 21 [qv P W A] σ Q := by
  refine ACall.pure rfl ?_
  refine ACall.of_compF hmx (fun a w => Try.call21 a w) Try.func21 cf21 (n := 1) (by decide) rfl ?_
  by_cases h1 : 1 ≤ A <;> by_cases h2 : A ≤ W <;> by_cases h3 : W ≤ P <;> by_cases h4 : P ≤ 7 <;> simp [h1, h2, h3, h4] at h <;> simp [ac21, rs21, lk_cons, h1, h2, h3, h4, h]
end Go.Proofs.Ytkfofdeceicfkaa.AM

namespace Go.Proofs.Ytkfofdeceicfkaa.AM
set_option maxRecDepth 100000
set_option linter.unusedVariables false
set_option linter.unusedSimpArgs false

/-- An entry's places. -/
def setP (P W n : Nat) : List Nat := (List.range W).map fun i => (n % P + i) % P
def iv (l : List Nat) : List AVal := l.map fun (x : Nat) => .int .i64 (x : Int)

theorem setP_snoc (P i n : Nat) : setP P (i + 1) n = setP P i n ++ [(n % P + i) % P] := by simp [setP, List.range_succ]
theorem setP_len (P W n : Nat) : (setP P W n).length = W := by simp [setP]

theorem qset (P W A n : Nat) (hq : 1 ≤ A ∧ A ≤ W ∧ W ≤ P ∧ P ≤ 7) (hn : n < 18446744073709551616) (σ : St) (Q : AVal → St → Prop) (h : Q (.isl (iv (setP P W n)) W false) σ) : ACall Try.prog 27 [qv P W A, u64 n] σ Q := by
  refine ACall.pure rfl ?_
  refine ACall.of_compF hmx (fun a w => Try.call27 a w) Try.func27 cf27 (n := 2) (by decide) rfl ?_
  simp [ac27, rs27, lk_cons]
  refine qcheck _ _ _ _ _ ?_
  have hd : decide ((1:Int) ≤ A ∧ (A:Int) ≤ W ∧ (W:Int) ≤ P ∧ (P:Int) ≤ 7) = true := by simp; omega
  rw [hd]
  simp [lk_cons]
  refine wp_loop (fun m r σ' => ∃ (i : Nat) (v : AVal), m = W - i ∧ i ≤ W ∧ r = [(1, u64 n), (2, .ptr 0 0), (5, v), (11, i64 W), (12, i64 i)] ∧ σ'.mem.get 0 = some (.cells 3 [i64 P, i64 W, i64 A]) ∧ 0 < σ'.next ∧
    (i = 0 ∧ v = .nilsl ∨ ∃ id, 0 < id ∧ id < σ'.next ∧ v = .sl id 0 i i false ∧ σ'.mem.get id = some (.cells 1 (iv (setP P i n))))) W ?_ ?_
  · exact ⟨0, .nilsl, by simp, by simp, rfl, by simp, by simp, .inl ⟨rfl, rfl⟩⟩
  · rintro m r σ' ⟨i, v, rfl, hi, rfl, hm, hx, hv⟩
    by_cases hlt : i < W
    · have hwP : IntKind.u64.wrap (P : Int) = P := by rw [IntWalk.u64_in]; omega
      have hwi : IntKind.u64.wrap (i : Int) = i := by rw [IntWalk.u64_in]; omega
      have hP0 : ¬ (P : Int) = 0 := by omega
      have hP1 : ¬ P = 0 := by omega
      obtain ⟨x, hx0⟩ : ∃ x, n % P = x := ⟨_, rfl⟩
      obtain ⟨z, hz⟩ : ∃ z, x + i = z := ⟨_, rfl⟩
      obtain ⟨y, hy⟩ : ∃ y, z % P = y := ⟨_, rfl⟩
      obtain ⟨k, hk⟩ : ∃ k, i + 1 = k := ⟨_, rfl⟩
      have hx7 : x < 7 := hx0 ▸ Nat.lt_of_lt_of_le (Nat.mod_lt _ (by omega)) (by omega)
      have hy7 : y < 7 := hy ▸ Nat.lt_of_lt_of_le (Nat.mod_lt _ (by omega)) (by omega)
      have hmod : (n : Int).tmod (P : Int) = (x : Int) := by rw [← hx0]; exact (Int.ofNat_tmod n P).symm
      have hw2 : IntKind.u64.wrap ((x : Int) + (i : Int)) = (z : Int) := by rw [IntWalk.u64_in] <;> omega
      have hmod2 : (z : Int).tmod (P : Int) = (y : Int) := by rw [← hy]; exact (Int.ofNat_tmod z P).symm
      have hw3 : IntKind.i64.wrap (y : Int) = (y : Int) := by rw [IntWalk.i64_in]; omega
      have hw4 : IntKind.i64.wrap ((i : Int) + 1) = (k : Int) := by rw [IntWalk.i64_in] <;> omega
      have hs : iv (setP P k n) = iv (setP P i n) ++ [.int .i64 (y : Int)] := by rw [← hk, setP_snoc, hx0, hz, hy]; simp [iv]
      have hl : (iv (setP P i n)).length = i := by simp [iv, setP]
      have e3 : ¬ 0 = σ'.next := by omega
      have g1 : ¬ i + 1 ≤ i := by omega
      have g2 : (i + 1) * 8 ≤ 140737488355328 ∧ i ≤ 9223372036854775806 := by omega
      rcases hv with ⟨h0, rfl⟩ | ⟨id, h1, h2, rfl, h3⟩
      · simp [lk_cons, hlt, hm, e3, hwP, hwi, hP0, hP1, hmod, hw2, hmod2, hw3, hw4, fillL, repL, storeL, srcL]
        refine ⟨W - k, by omega, k, rfl, by omega, .sl (σ'.next + 1) 0 1 1 false, ⟨rfl, rfl⟩, ?_⟩
        refine .inr ⟨σ'.next + 1, by omega, by omega, by rw [← hk, h0], ?_⟩
        rw [if_pos rfl, hs]; subst h0; rfl
      · have e1 : ¬ id = σ'.next := by omega
        have e2 : ¬ id = σ'.next + 1 := by omega
        simp [lk_cons, hlt, hm, hwP, hwi, hP0, hP1, hmod, hw2, hmod2, hw3, hw4, fillL, repL, storeL, srcL, h3, e1, e2, e3, hl, g1, g2]
        refine ⟨W - k, by omega, k, rfl, by omega, _, ⟨rfl, rfl⟩, ?_⟩
        refine ⟨by omega, .inr ⟨σ'.next + 1, by omega, by omega, by rw [hk], ?_⟩⟩
        rw [if_pos rfl, hs, List.take_of_length_le (by omega)]
    · have : i = W := by omega
      subst this
      simp [lk_cons]
      rcases hv with ⟨h0, rfl⟩ | ⟨id, h1, h2, rfl, h3⟩
      · omega
      · have hl : (iv (setP P i n)).length = i := by simp [iv, setP]
        refine ⟨_, frz_sl (Nat.zero_le _) h3 (by omega) (uptoL_ints _ _ _), ?_, ?_⟩
        · rw [List.drop_zero, List.take_of_length_le (by omega)]
          simp only [AVal.upto]; exact uptoL_ints _ _ _
        · rw [List.drop_zero, List.take_of_length_le (by omega)]; exact h
end Go.Proofs.Ytkfofdeceicfkaa.AM

namespace Go.Proofs.Ytkfofdeceicfkaa.AM
set_option maxRecDepth 100000
set_option linter.unusedVariables false
set_option linter.unusedSimpArgs false

theorem iv_get (l : List Nat) (i : Nat) (h : i < l.length) : (iv l)[i]? = some (i64 (l[i] : Nat)) := by simp [iv, List.getElem?_eq_getElem h]

theorem isl_one (l : List Nat) (i : Nat) (h : i < l.length) : ((iv l).drop i).take 1 = [i64 (l[i] : Nat)] := by
  rw [List.drop_eq_getElem_cons (by simpa [iv] using h)]; simp [iv]

theorem index_c (l : List Nat) (t : Bool) (x : Int) (hl : l.length ≤ 1000000) (σ : St) (Q : AVal → St → Prop) (h : ∀ k : Int, (0 ≤ k ↔ ∃ y ∈ l, (y : Int) = x) → Q (.int .i64 k) σ) : ACall Try.prog 36 [.isl (iv l) l.length t, i64 x] σ Q := by
  refine ACall.of_compF hmx (fun a w => Try.call36 a w) Try.func36 cf36 (n := 2) (by decide) rfl ?_
  simp [ac36, rs36, lk_cons]
  refine wp_loop (fun m r σ' => ∃ i : Nat, m = l.length - i ∧ i ≤ l.length ∧ σ' = σ ∧ r = [(0, .isl (iv l) l.length t), (1, i64 x), (7, i64 l.length), (8, i64 i)] ∧ ∀ (j : Nat) (hj : j < i), ∀ hj' : j < l.length, (l[j] : Int) ≠ x) l.length ?_ ?_
  · exact ⟨0, rfl, by omega, rfl, rfl, fun j hj => by omega⟩
  · rintro m r σ' ⟨i, rfl, hi, rfl, rfl, hn⟩
    by_cases hlt : i < l.length
    · obtain ⟨k, hk⟩ : ∃ k, i + 1 = k := ⟨_, rfl⟩
      have hw : IntKind.i64.wrap ((i : Int) + 1) = (k : Int) := by rw [IntWalk.i64_in] <;> omega
      have h1 := isl_one l i hlt
      by_cases hx : x = (l[i] : Int)
      · simp [lk_cons, hlt, h1, hx]
        exact h i ⟨fun _ => ⟨l[i], List.getElem_mem hlt, hx.symm⟩, fun _ => by omega⟩
      · simp [lk_cons, hlt, h1, hx, hw]
        refine ⟨l.length - k, by omega, k, rfl, by omega, rfl, fun j hj hj' => ?_⟩
        by_cases hji : j < i
        · exact hn j hji hj'
        · have : j = i := by omega
          subst this; exact fun e => hx e.symm
    · have : i = l.length := by omega
      subst this
      simp [lk_cons]
      refine h _ ⟨fun hh => by omega, fun ⟨y, hy, hyx⟩ => ?_⟩
      obtain ⟨j, hj, rfl⟩ := List.getElem_of_mem hy
      exact absurd hyx (hn j hj hj)

theorem contains_c (l : List Nat) (t : Bool) (x : Int) (hl : l.length ≤ 1000000) (σ : St) (Q : AVal → St → Prop) (h : Q (.bool (decide (∃ y ∈ l, (y : Int) = x))) σ) : ACall Try.prog 26 [.isl (iv l) l.length t, i64 x] σ Q := by
  refine ACall.of_compF hmx (fun a w => Try.call26 a w) Try.func26 cf26 (n := 2) (by decide) rfl ?_
  simp [ac26, rs26, lk_cons]
  refine index_c l t x hl _ _ fun k hk => ?_
  simp [lk_cons]
  have : decide (0 ≤ k) = decide (∃ y ∈ l, (y : Int) = x) := by simp only [decide_eq_decide]; exact hk
  rw [this]; exact h
end Go.Proofs.Ytkfofdeceicfkaa.AM

namespace Go.Proofs.Ytkfofdeceicfkaa.AM
set_option maxRecDepth 100000
set_option linter.unusedVariables false
set_option linter.unusedSimpArgs false

theorem in_c (l : List Nat) (t : Bool) (x : Int) (hl : l.length ≤ 1000000) (σ : St) (Q : AVal → St → Prop) (h : Q (.bool (decide (∃ y ∈ l, (y : Int) = x))) σ) : ACall Try.prog 13 [.isl (iv l) l.length t, i64 x] σ Q := by
  refine ACall.of_compF hmx (fun a w => Try.call13 a w) Try.func13 cf13 (n := 2) (by decide) rfl ?_
  simp [ac13, rs13, lk_cons]
  refine wp_loop (fun m r σ' => ∃ i : Nat, m = l.length - i ∧ i ≤ l.length ∧ σ' = σ ∧ r = [(0, .isl (iv l) l.length t), (1, i64 x), (5, i64 i)] ∧ ∀ (j : Nat) (hj : j < i), ∀ hj' : j < l.length, (l[j] : Int) ≠ x) l.length ?_ ?_
  · exact ⟨0, rfl, by omega, rfl, rfl, fun j hj => by omega⟩
  · rintro m r σ' ⟨i, rfl, hi, rfl, rfl, hn⟩
    by_cases hlt : i < l.length
    · obtain ⟨k, hk⟩ : ∃ k, i + 1 = k := ⟨_, rfl⟩
      have hw : IntKind.i64.wrap ((i : Int) + 1) = (k : Int) := by rw [IntWalk.i64_in] <;> omega
      have h1 := isl_one l i hlt
      by_cases hx : (l[i] : Int) = x
      · have hd : decide (∃ y ∈ l, (y : Int) = x) = true := by simpa using ⟨l[i], List.getElem_mem hlt, hx⟩
        rw [hd] at h
        simp [lk_cons, hlt, h1, hx, h]
      · simp [lk_cons, hlt, h1, hx, hw]
        refine ⟨l.length - k, by omega, k, rfl, by omega, rfl, fun j hj hj' => ?_⟩
        by_cases hji : j < i
        · exact hn j hji hj'
        · have : j = i := by omega
          subst this; exact hx
    · have : i = l.length := by omega
      subst this
      have hd : decide (∃ y ∈ l, (y : Int) = x) = false := by
        simp only [decide_eq_false_iff_not]
        rintro ⟨y, hy, hyx⟩
        obtain ⟨j, hj, rfl⟩ := List.getElem_of_mem hy
        exact absurd hyx (hn j hj hj)
      rw [hd] at h
      simp [lk_cons, h]

def RSetJ (P W A n x0 : Nat) (m : Nat) (r : Regs) (σ' : St) : Prop := ∃ (i : Nat) (v : AVal) (p : Nat), m = W - i ∧ i ≤ W ∧ p = (x0 + i) % P ∧ r = [(2, .ptr 0 0), (5, v), (6, i64 p), (7, i64 i)] ∧ σ'.mem.get 0 = some (.cells 3 [i64 P, i64 W, i64 A]) ∧ 0 < σ'.next ∧
    (i = 0 ∧ v = .nilsl ∨ ∃ id, 0 < id ∧ id < σ'.next ∧ v = .sl id 0 i i false ∧ σ'.mem.get id = some (.cells 1 (iv (setP P i n))))

theorem rset (P W A n : Nat) (hq : 1 ≤ A ∧ A ≤ W ∧ W ≤ P ∧ P ≤ 7) (hn : n < 18446744073709551616) (σ : St) (Q : AVal → St → Prop) (h : Q (.isl (iv (setP P W n)) W false) σ) : ACall Try.prog 14 [qv P W A, u64 n] σ Q := by
  refine ACall.pure rfl ?_
  refine ACall.of_compF hmx (fun a w => Try.call14 a w) Try.func14 cf14 (n := 2) (by decide) rfl ?_
  simp [ac14, rs14, lk_cons]
  refine rcheck _ _ _ _ _ ?_
  have hd : decide ((1:Int) ≤ A ∧ (A:Int) ≤ W ∧ (W:Int) ≤ P ∧ (P:Int) ≤ 7) = true := by simp; omega
  rw [hd]
  have hwP : IntKind.u64.wrap (P : Int) = P := by rw [IntWalk.u64_in]; omega
  have hP0 : ¬ (P : Int) = 0 := by omega
  have hP1 : ¬ P = 0 := by omega
  obtain ⟨x0, hx0⟩ : ∃ x, n % P = x := ⟨_, rfl⟩
  have hx7 : x0 < P := hx0 ▸ Nat.mod_lt _ (by omega)
  have hmod : (n : Int).tmod (P : Int) = (x0 : Int) := by rw [← hx0]; exact (Int.ofNat_tmod n P).symm
  have hw3 : IntKind.i64.wrap (x0 : Int) = (x0 : Int) := by rw [IntWalk.i64_in]; omega
  simp [lk_cons, hwP, hP0, hP1, hmod, hw3]
  refine wp_loop (RSetJ P W A n x0) W ?_ ?_
  · exact ⟨0, .nilsl, x0, by simp, by simp, by rw [Nat.add_zero, Nat.mod_eq_of_lt hx7], rfl, by simp, by simp, .inl ⟨rfl, rfl⟩⟩
  · rintro m r σ' ⟨i, v, p, rfl, hi, hp, rfl, hm, hx, hv⟩
    by_cases hlt : i < W
    · obtain ⟨k, hk⟩ : ∃ k, i + 1 = k := ⟨_, rfl⟩
      have hp7 : p < P := hp ▸ Nat.mod_lt _ (by omega)
      obtain ⟨p', hp'⟩ : ∃ k, p + 1 = k := ⟨_, rfl⟩
      have hw4 : IntKind.i64.wrap ((i : Int) + 1) = (k : Int) := by rw [IntWalk.i64_in] <;> omega
      have hw5 : IntKind.i64.wrap ((p : Int) + 1) = (p' : Int) := by rw [IntWalk.i64_in] <;> omega
      have hs : iv (setP P k n) = iv (setP P i n) ++ [.int .i64 (p : Int)] := by rw [← hk, setP_snoc, hx0, ← hp]; simp [iv]
      have hl : (iv (setP P i n)).length = i := by simp [iv, setP]
      have e3 : ¬ 0 = σ'.next := by omega
      have e4 : ¬ 0 = σ'.next + 1 := by omega
      have g1 : ¬ i + 1 ≤ i := by omega
      have g2 : (i + 1) * 8 ≤ 140737488355328 ∧ i ≤ 9223372036854775806 := by omega
      have hnext : (if p' = P then 0 else p') = (x0 + k) % P := by
        rw [← hp', ← hk, ← Nat.add_assoc, Nat.add_mod, ← hp]
        by_cases hpp : p + 1 = P
        · rw [if_pos hpp]
          rcases Nat.lt_or_ge 1 P with h1 | h1
          · rw [Nat.mod_eq_of_lt h1, hpp, Nat.mod_self]
          · have : P = 1 := by omega
            subst this; omega
        · rw [if_neg hpp, Nat.mod_eq_of_lt (show 1 < P by omega), Nat.mod_eq_of_lt (by omega)]
      rcases hv with ⟨h0, rfl⟩ | ⟨id, h1, h2, rfl, h3⟩
      · by_cases hpp : p' = P
        · rw [if_pos hpp] at hnext
          have hpi : (p' : Int) = (P : Int) := by omega
          simp [lk_cons, hlt, hm, e3, e4, hw4, hw5, fillL, repL, storeL, srcL, hpp, hpi]
          refine ⟨W - k, by omega, k, .sl (σ'.next + 1) 0 1 1 false, 0, rfl, by omega, hnext, rfl, by simpa [e3, e4] using hm, by simp, .inr ⟨σ'.next + 1, by omega, by simp, by rw [← hk, h0], ?_⟩⟩
          subst h0; simp; exact hs.symm
        · rw [if_neg hpp] at hnext
          have hpi : ¬ (p' : Int) = (P : Int) := by omega
          simp [lk_cons, hlt, hm, e3, e4, hw4, hw5, fillL, repL, storeL, srcL, hpp, hpi]
          refine ⟨W - k, by omega, k, .sl (σ'.next + 1) 0 1 1 false, p', rfl, by omega, hnext, rfl, by simpa [e3, e4] using hm, by simp, .inr ⟨σ'.next + 1, by omega, by simp, by rw [← hk, h0], ?_⟩⟩
          subst h0; simp; exact hs.symm
      · have e1 : ¬ id = σ'.next := by omega
        have e2 : ¬ id = σ'.next + 1 := by omega
        have e5 : ¬ 0 = id := by omega
        by_cases hpp : p' = P
        · rw [if_pos hpp] at hnext
          have hpi : (p' : Int) = (P : Int) := by omega
          simp [lk_cons, hlt, hm, e3, e4, hw4, hw5, fillL, repL, storeL, srcL, hpp, hpi, h3, e1, e2, e5, hl, g1, g2]
          refine ⟨W - k, by omega, k, _, 0, rfl, by omega, hnext, rfl, by simpa [e3, e4, e5] using hm, by simp, .inr ⟨σ'.next + 1, by omega, by simp, by rw [← hk], ?_⟩⟩
          simp; rw [hs, List.take_of_length_le (by omega)]
        · rw [if_neg hpp] at hnext
          have hpi : ¬ (p' : Int) = (P : Int) := by omega
          simp [lk_cons, hlt, hm, e3, e4, hw4, hw5, fillL, repL, storeL, srcL, hpp, hpi, h3, e1, e2, e5, hl, g1, g2]
          refine ⟨W - k, by omega, k, _, p', rfl, by omega, hnext, rfl, by simpa [e3, e4, e5] using hm, by simp, .inr ⟨σ'.next + 1, by omega, by simp, by rw [← hk], ?_⟩⟩
          simp; rw [hs, List.take_of_length_le (by omega)]
    · have : i = W := by omega
      subst this
      simp [lk_cons, hm]
      rcases hv with ⟨h0, rfl⟩ | ⟨id, h1, h2, rfl, h3⟩
      · omega
      · have hl : (iv (setP P i n)).length = i := by simp [iv, setP]
        refine ⟨_, frz_sl (Nat.zero_le _) h3 (by omega) (uptoL_ints _ _ _), ?_, ?_⟩
        · rw [List.drop_zero, List.take_of_length_le (by omega)]
          simp only [AVal.upto]; exact uptoL_ints _ _ _
        · rw [List.drop_zero, List.take_of_length_le (by omega)]; exact h
end Go.Proofs.Ytkfofdeceicfkaa.AM

namespace Go.Proofs.Ytkfofdeceicfkaa.AM
set_option maxRecDepth 100000
set_option linter.unusedVariables false
set_option linter.unusedSimpArgs false

def bv (l : List Bool) : List AVal := l.map AVal.bool
@[simp] theorem bv_len (l : List Bool) : (bv l).length = l.length := by simp [bv]
theorem bv_get (l : List Bool) (i : Nat) (h : i < l.length) : (bv l)[i]? = some (.bool (l.getD i false)) := by
  simp [bv, List.getElem?_eq_getElem h, List.getD_eq_getElem?_getD]
def cnt (bs : List Bool) (l : List Nat) : Nat := l.countP fun p => bs.getD p false
theorem cnt_le (bs : List Bool) (l : List Nat) : cnt bs l ≤ l.length := List.countP_le_length
theorem setP_lt {P W n p : Nat} (hP : 0 < P) (h : p ∈ setP P W n) : p < P := by
  simp only [setP, List.mem_map] at h
  obtain ⟨i, _, rfl⟩ := h
  exact Nat.mod_lt _ hP

def CountJ (bs : List Bool) (l : List Nat) (said : AVal) (s : Nat) (n0 : Nat) (mem : Mem) (m : Nat) (r : Regs) (σ' : St) : Prop := ∃ (i c : Nat), m = l.length - i ∧ i ≤ l.length ∧ c = cnt bs (l.take i) ∧
  r = [(2, said), (7, i64 c), (12, .isl (iv l) l.length false), (13, i64 l.length), (14, i64 i)] ∧ σ'.mem.get s = some (.cells 1 (bv bs)) ∧ ∀ a, a < n0 → σ'.mem.get a = mem.get a

theorem qcount (P W A n s : Nat) (bs : List Bool) (hq : 1 ≤ A ∧ A ≤ W ∧ W ≤ P ∧ P ≤ 7) (hb : bs.length = P) (hn : n < 18446744073709551616) (σ : St) (hs : σ.mem.get s = some (.cells 1 (bv bs))) (hlt : s < σ.next) (Q : AVal → St → Prop) (h : Q (i64 (cnt bs (setP P W n))) σ) :
    ACall Try.prog 37 [qv P W A, u64 n, .sl s 0 P P true] σ Q := by
  refine ACall.scrub ?_
  refine ACall.of_compF hmx (fun a w => Try.call37 a w) Try.func37 cf37 (n := 3) (by decide) rfl ?_
  have e1 : ¬ s = σ.next := by omega
  simp [ac37, rs37, lk_cons]
  refine qset P W A n hq hn _ _ ?_
  simp [lk_cons]
  have hsl : (setP P W n).length = W := setP_len P W n
  have hin : ∀ p ∈ setP P W n, p < P := fun p hp => setP_lt (by omega) hp
  generalize setP P W n = l at hsl hin h ⊢
  subst hsl
  refine wp_loop (CountJ bs l (.sl s 0 P P true) s σ.next σ.mem) l.length ?_ ?_
  · exact ⟨0, 0, rfl, by omega, rfl, rfl, by simp [e1, hs], fun a ha => by simp [show ¬ a = σ.next by omega]⟩
  · rintro m r σ' ⟨i, c, rfl, hi, hc, rfl, hm, ho⟩
    by_cases hlt2 : i < l.length
    · obtain ⟨k, hk⟩ : ∃ k, i + 1 = k := ⟨_, rfl⟩
      obtain ⟨c', hc'⟩ : ∃ k, c + 1 = k := ⟨_, rfl⟩
      have hcl : c ≤ i := by rw [hc]; exact Nat.le_trans (cnt_le _ _) (by simp; omega)
      have hw : IntKind.i64.wrap ((i : Int) + 1) = (k : Int) := by rw [IntWalk.i64_in] <;> omega
      have hw2 : IntKind.i64.wrap ((c : Int) + 1) = (c' : Int) := by rw [IntWalk.i64_in] <;> omega
      have h1 := isl_one l i hlt2
      obtain ⟨p, hp⟩ : ∃ p, l[i] = p := ⟨_, rfl⟩
      have hpP : p < P := by rw [← hp]; exact hin _ (List.getElem_mem hlt2)
      have h2 := bv_get bs p (by omega)
      have ht : cnt bs (l.take k) = cnt bs (l.take i) + if bs.getD p false then 1 else 0 := by
        rw [← hk, List.take_succ_eq_append_getElem hlt2, hp]
        simp only [cnt, List.countP_append, List.countP_cons, List.countP_nil, Nat.zero_add]
      rw [hp] at h1
      cases hbp : bs.getD p false with
      | true =>
        rw [hbp] at h2 ht
        simp [lk_cons, hlt2, h1, hpP, hm, h2, hw, hw2]
        exact ⟨l.length - k, by omega, k, c', rfl, by omega, by rw [ht, ← hc, ← hc']; rfl, rfl, hm, ho⟩
      | false =>
        rw [hbp] at h2 ht
        simp [lk_cons, hlt2, h1, hpP, hm, h2, hw, hw2]
        exact ⟨l.length - k, by omega, k, c, rfl, by omega, by rw [ht, ← hc]; rfl, rfl, hm, ho⟩
    · have : i = l.length := by omega
      subst this
      rw [List.take_length] at hc
      subst hc
      simp [lk_cons]
      exact ⟨ho, h⟩

theorem qenough (P W A n s : Nat) (bs : List Bool) (hq : 1 ≤ A ∧ A ≤ W ∧ W ≤ P ∧ P ≤ 7) (hb : bs.length = P) (hn : n < 18446744073709551616) (σ : St) (hs : σ.mem.get s = some (.cells 1 (bv bs))) (hlt : s < σ.next) (Q : AVal → St → Prop) (h : Q (.bool (decide (A ≤ cnt bs (setP P W n)))) σ) :
    ACall Try.prog 28 [qv P W A, u64 n, .sl s 0 P P true] σ Q := by
  refine ACall.scrub ?_
  refine ACall.of_compF hmx (fun a w => Try.call28 a w) Try.func28 cf28 (n := 3) (by decide) rfl ?_
  have e1 : ¬ s = σ.next := by omega
  simp [ac28, rs28, lk_cons]
  refine qcheck _ _ _ _ _ ?_
  have hd : decide ((1:Int) ≤ A ∧ (A:Int) ≤ W ∧ (W:Int) ≤ P ∧ (P:Int) ≤ 7) = true := by simp; omega
  rw [hd]
  simp [lk_cons]
  refine qcount P W A n s bs hq hb hn _ (by simp [e1, hs]) (by simp; omega) _ ?_
  simp [lk_cons]
  exact ⟨fun a ha => by simp [show ¬ a = σ.next by omega], h⟩
end Go.Proofs.Ytkfofdeceicfkaa.AM

namespace Go.Proofs.Ytkfofdeceicfkaa.AM
set_option maxRecDepth 100000
set_option linter.unusedVariables false
set_option linter.unusedSimpArgs false

def cntR (bs : List Bool) (l : List Nat) (i : Nat) : Nat := (List.range i).countP fun p => bs.getD p false && decide (p ∈ l)

theorem setP_nodup {P W n : Nat} (hW : W ≤ P) : (setP P W n).Nodup := by
  rw [setP, List.nodup_iff_pairwise_ne, List.pairwise_map]
  refine List.Pairwise.imp_of_mem ?_ (List.pairwise_lt_range (n := W))
  intro a b ha hb hab he
  have ha' := List.mem_range.1 ha
  have hb' := List.mem_range.1 hb
  have hm : n % P < P := Nat.mod_lt _ (by omega)
  generalize n % P = x at he hm
  have h1 := Nat.div_add_mod (x + a) P
  have h2 := Nat.div_add_mod (x + b) P
  rw [he] at h1
  have h3 : P * ((x + b) / P) - P * ((x + a) / P) = b - a := by omega
  rw [← Nat.mul_sub] at h3
  rcases Nat.eq_zero_or_pos ((x + b) / P - (x + a) / P) with h0 | h0
  · rw [h0] at h3; omega
  · have := Nat.le_mul_of_pos_right P h0
    omega

theorem cntR_eq {bs : List Bool} {l : List Nat} {P : Nat} (hn : l.Nodup) (hl : ∀ p ∈ l, p < P) : cntR bs l P = cnt bs l := by
  have hp : (List.range P).filter (fun p => decide (p ∈ l)) |>.Perm l := by
    rw [List.perm_ext_iff_of_nodup (List.nodup_range.filter _) hn]
    intro a
    simp only [List.mem_filter, List.mem_range, decide_eq_true_eq]
    exact ⟨fun h => h.2, fun h => ⟨hl a h, h⟩⟩
  rw [cntR, cnt, ← hp.countP_eq, List.countP_filter]

def RCountJ (P W A n : Nat) (bs : List Bool) (l : List Nat) (said : AVal) (s : Nat) (n0 : Nat) (mem : Mem) (m : Nat) (r : Regs) (σ' : St) : Prop := ∃ (i c : Nat), m = P - i ∧ i ≤ P ∧ c = cntR bs l i ∧
  r = [(1, u64 n), (2, said), (3, .ptr n0 0), (7, i64 c), (8, i64 i)] ∧ σ'.mem.get s = some (.cells 1 (bv bs)) ∧ σ'.mem.get n0 = some (.cells 3 [i64 P, i64 W, i64 A]) ∧ ∀ a, a < n0 → σ'.mem.get a = mem.get a

theorem rcount (P W A n s : Nat) (bs : List Bool) (hq : 1 ≤ A ∧ A ≤ W ∧ W ≤ P ∧ P ≤ 7) (hb : bs.length = P) (hn : n < 18446744073709551616) (σ : St) (hs : σ.mem.get s = some (.cells 1 (bv bs))) (hlt : s < σ.next) (Q : AVal → St → Prop) (h : Q (i64 (cnt bs (setP P W n))) σ) :
    ACall Try.prog 29 [qv P W A, u64 n, .sl s 0 P P true] σ Q := by
  refine ACall.scrub ?_
  refine ACall.of_compF hmx (fun a w => Try.call29 a w) Try.func29 cf29 (n := 3) (by decide) rfl ?_
  have e1 : ¬ s = σ.next := by omega
  rw [← cntR_eq (setP_nodup hq.2.2.1) (fun p hp => setP_lt (by omega) hp)] at h
  have hsl : (setP P W n).length = W := setP_len P W n
  have hset := rset P W A n hq hn
  generalize setP P W n = l at hsl h hset
  simp [ac29, rs29, lk_cons]
  refine wp_loop (RCountJ P W A n bs l (.sl s 0 P P true) s σ.next σ.mem) P ?_ ?_
  · exact ⟨0, 0, rfl, by omega, rfl, rfl, by simp [e1, hs], by simp, fun a ha => by simp [show ¬ a = σ.next by omega]⟩
  · rintro m r σ' ⟨i, c, rfl, hi, hc, rfl, hm, hm2, ho⟩
    by_cases hlt2 : i < P
    · obtain ⟨k, hk⟩ : ∃ k, i + 1 = k := ⟨_, rfl⟩
      obtain ⟨c', hc'⟩ : ∃ k, c + 1 = k := ⟨_, rfl⟩
      have hcl : c ≤ i := by rw [hc]; exact Nat.le_trans List.countP_le_length (by simp)
      have hw : IntKind.i64.wrap ((i : Int) + 1) = (k : Int) := by rw [IntWalk.i64_in] <;> omega
      have hw2 : IntKind.i64.wrap ((c : Int) + 1) = (c' : Int) := by rw [IntWalk.i64_in] <;> omega
      have h2 := bv_get bs i (by omega)
      have ht : cntR bs l k = cntR bs l i + if bs.getD i false && decide (i ∈ l) then 1 else 0 := by
        rw [← hk]
        simp only [cntR, List.range_succ, List.countP_append, List.countP_cons, List.countP_nil, Nat.zero_add]
      have hmem : decide (∃ y ∈ l, (y : Int) = (i : Int)) = decide (i ∈ l) := by
        simp only [decide_eq_decide]
        exact ⟨fun ⟨y, hy, e⟩ => by have : y = i := by omega
                                    subst this; exact hy, fun h => ⟨i, h, rfl⟩⟩
      cases hbp : bs.getD i false with
      | true =>
        rw [hbp] at h2 ht
        simp [lk_cons, hlt2, hm, hm2, h2]
        refine hset _ _ ?_
        simp [lk_cons]
        rw [← hsl]
        refine in_c l false i (by omega) _ _ ?_
        rw [hmem]
        by_cases hil : i ∈ l
        · simp [hil] at ht
          simp [lk_cons, hil, hw, hw2]
          exact ⟨P - k, by omega, k, c', rfl, by omega, by rw [ht, ← hc, ← hc'], rfl, hm, by rw [hsl]; exact hm2, ho⟩
        · simp [hil] at ht
          simp [lk_cons, hil, hw, hw2]
          exact ⟨P - k, by omega, k, c, rfl, by omega, by rw [ht, ← hc], rfl, hm, by rw [hsl]; exact hm2, ho⟩
      | false =>
        rw [hbp] at h2 ht
        simp at ht
        simp [lk_cons, hlt2, hm, hm2, h2, hw, hw2]
        exact ⟨P - k, by omega, k, c, rfl, by omega, by rw [ht, ← hc], rfl, hm, hm2, ho⟩
    · have : i = P := by omega
      subst this
      subst hc
      simp [lk_cons, hm2]
      exact ⟨ho, h⟩

theorem renough (P W A n s : Nat) (bs : List Bool) (hq : 1 ≤ A ∧ A ≤ W ∧ W ≤ P ∧ P ≤ 7) (hb : bs.length = P) (hn : n < 18446744073709551616) (σ : St) (hs : σ.mem.get s = some (.cells 1 (bv bs))) (hlt : s < σ.next) (Q : AVal → St → Prop) (h : Q (.bool (decide (A ≤ cnt bs (setP P W n)))) σ) :
    ACall Try.prog 15 [qv P W A, u64 n, .sl s 0 P P true] σ Q := by
  refine ACall.scrub ?_
  refine ACall.of_compF hmx (fun a w => Try.call15 a w) Try.func15 cf15 (n := 3) (by decide) rfl ?_
  have e1 : ¬ s = σ.next := by omega
  simp [ac15, rs15, lk_cons]
  refine rcheck _ _ _ _ _ ?_
  have hd : decide ((1:Int) ≤ A ∧ (A:Int) ≤ W ∧ (W:Int) ≤ P ∧ (P:Int) ≤ 7) = true := by simp; omega
  rw [hd]
  simp [lk_cons]
  refine rcount P W A n s bs hq hb hn _ (by simp [e1, hs]) (by simp; omega) _ ?_
  simp [lk_cons]
  exact ⟨fun a ha => by simp [show ¬ a = σ.next by omega], h⟩
end Go.Proofs.Ytkfofdeceicfkaa.AM

namespace Go.Proofs.Ytkfofdeceicfkaa.AM
set_option maxRecDepth 100000
set_option linter.unusedVariables false
set_option linter.unusedSimpArgs false

theorem clone_nil (σ : St) (Q : AVal → St → Prop) (h : Q .nilsl σ) : ACall Try.prog 25 [.nilsl] σ Q := by
  refine ACall.of_compF hmx (fun a w => Try.call25 a w) Try.func25 cf25 (n := 1) (by decide) rfl ?_
  simp [ac25, rs25, lk_cons, h]

theorem clone_isl (cs : List AVal) (k : Nat) (t : Bool) (hl : cs.length = k) (hk : k ≤ 140737488355328) (σ : St) (hu : uptoL σ.next cs = true) (Q : AVal → St → Prop) (h : ∀ t, Q (.isl cs k t) σ) : ACall Try.prog 25 [.isl cs k t] σ Q := by
  refine ACall.freeze ?_
  refine ACall.of_compF hmx (fun a w => Try.call25 a w) Try.func25 cf25 (n := 1) (by decide) rfl ?_
  by_cases h0 : k = 0
  · subst h0
    have : cs = [] := List.eq_nil_of_length_eq_zero hl
    subst this
    simp [ac25, rs25, lk_cons, fillL, repL, srcL, storeL]
    exact ⟨fun a ha => by simp [show ¬ a = σ.next by omega], _, frz_sl (es := 1) (vals := []) (Nat.le_refl _) (by simp) (by simp) rfl, by simpa using h true⟩
  · have g1 : k ≤ 9223372036854775807 := by omega
    simp [ac25, rs25, lk_cons, fillL, repL, srcL, hl, h0, hk, g1]
    exact ⟨fun a ha => by simp [show ¬ a = σ.next by omega, show ¬ a = σ.next + 1 by omega], _, frz_sl (es := 1) (vals := cs) (by omega) (by simp) (by omega) hu, by
      rw [List.drop_zero, List.take_of_length_le (by omega)]; exact h _⟩

theorem clone_sl (a k c : Nat) (t : Bool) (cs : List AVal) (hl : cs.length = k) (hk : k ≤ 140737488355328) (σ : St) (hm : σ.mem.get a = some (.cells 1 cs)) (ha : a < σ.next) (hu : uptoL σ.next cs = true) (Q : AVal → St → Prop) (h : ∀ t, Q (.isl cs k t) σ) : ACall Try.prog 25 [.sl a 0 k c t] σ Q := by
  refine ACall.freeze ?_
  refine ACall.of_compF hmx (fun a w => Try.call25 a w) Try.func25 cf25 (n := 1) (by decide) rfl ?_
  have e1 : ¬ a = σ.next := by omega
  by_cases h0 : k = 0
  · subst h0
    have : cs = [] := List.eq_nil_of_length_eq_zero hl
    subst this
    simp [ac25, rs25, lk_cons, fillL, repL, srcL, storeL, hm, e1]
    exact ⟨fun a ha => by simp [show ¬ a = σ.next by omega], _, frz_sl (es := 1) (vals := []) (Nat.le_refl _) (by simp) (by simp) rfl, by simpa using h true⟩
  · have g1 : k ≤ 9223372036854775807 := by omega
    have g2 : cs.take k = cs := List.take_of_length_le (by omega)
    simp [ac25, rs25, lk_cons, fillL, repL, srcL, hl, h0, hk, g1, hm, e1, g2]
    exact ⟨fun a ha => by simp [show ¬ a = σ.next by omega, show ¬ a = σ.next + 1 by omega], _, frz_sl (es := 1) (vals := cs) (by omega) (by simp) (by omega) hu, by
      rw [List.drop_zero, List.take_of_length_le (by omega)]; exact h _⟩

/-- The quorum of a number. -/
def qP (n : Nat) : Nat := 1 + n % 7
def qW (n : Nat) : Nat := 1 + (n / 7) % qP n
def qA (n : Nat) : Nat := 1 + (n / 49) % qW n
theorem q_ok (n : Nat) : 1 ≤ qA n ∧ qA n ≤ qW n ∧ qW n ≤ qP n ∧ qP n ≤ 7 := by
  have h1 : n / 7 % qP n < qP n := Nat.mod_lt _ (by simp [qP]; omega)
  have h2 : n / 49 % qW n < qW n := Nat.mod_lt _ (by simp [qW]; omega)
  refine ⟨by simp only [qA]; omega, by simp only [qA]; omega, by simp only [qW]; omega, by simp only [qP]; omega⟩

theorem quorum_c (n : Nat) (hn : n < 65536) (σ : St) (Q : AVal → St → Prop) (h : Q (qv (qP n) (qW n) (qA n)) σ) : ACall Try.prog 9 [.int .u16 n] σ Q := by
  refine ACall.pure rfl ?_
  refine ACall.of_compF hmx (fun a w => Try.call9 a w) Try.func9 cf9 (n := 1) (by decide) rfl ?_
  have hq := q_ok n
  have t1 : (n : Int).tmod 7 = ((n % 7 : Nat) : Int) := (Int.ofNat_tmod n 7).symm
  have t2 : (n : Int).tdiv 7 = ((n / 7 : Nat) : Int) := (Int.ofNat_tdiv n 7).symm
  have t3 : (n : Int).tdiv 49 = ((n / 49 : Nat) : Int) := (Int.ofNat_tdiv n 49).symm
  have t4 : ((n / 7 : Nat) : Int).tmod (qP n : Int) = ((n / 7 % qP n : Nat) : Int) := (Int.ofNat_tmod _ _).symm
  have t5 : ((n / 49 : Nat) : Int).tmod (qW n : Int) = ((n / 49 % qW n : Nat) : Int) := (Int.ofNat_tmod _ _).symm
  have m1 : n % 7 < 7 := Nat.mod_lt _ (by omega)
  have m2 : n / 7 < 65536 := by omega
  have m3 : n / 49 < 65536 := by omega
  have m4 : n / 7 % qP n < 7 := Nat.lt_of_lt_of_le (Nat.mod_lt _ (by omega)) (by omega)
  have m5 : n / 49 % qW n < 7 := Nat.lt_of_lt_of_le (Nat.mod_lt _ (by omega)) (by omega)
  have e1 : 1 + n % 7 = qP n := rfl
  have e2 : 1 + n / 7 % qP n = qW n := rfl
  have e3 : 1 + n / 49 % qW n = qA n := rfl
  generalize n % 7 = x1 at *
  generalize n / 7 % qP n = x4 at *
  generalize n / 49 % qW n = x5 at *
  generalize n / 7 = x2 at *
  generalize n / 49 = x3 at *
  generalize qP n = p at *
  generalize qW n = w at *
  generalize qA n = a at *
  have w1 : IntKind.i64.wrap (x1 : Int) = x1 := by rw [IntWalk.i64_in]; omega
  have w2 : IntKind.i64.wrap (1 + (x1 : Int)) = p := by rw [IntWalk.i64_in] <;> omega
  have w3 : IntKind.i64.wrap (x2 : Int) = x2 := by rw [IntWalk.i64_in]; omega
  have w4 : IntKind.i64.wrap (1 + (x4 : Int)) = w := by rw [IntWalk.i64_in] <;> omega
  have w5 : IntKind.i64.wrap (x3 : Int) = x3 := by rw [IntWalk.i64_in]; omega
  have w6 : IntKind.i64.wrap (1 + (x5 : Int)) = a := by rw [IntWalk.i64_in] <;> omega
  have w7 : IntKind.u16.wrap (x2 : Int) = x2 := by rw [IntWalk.u16_in]; omega
  have w8 : IntKind.u16.wrap (x3 : Int) = x3 := by rw [IntWalk.u16_in]; omega
  have z1 : ¬ p = 0 := by omega
  have z2 : ¬ w = 0 := by omega
  simp [ac9, rs9, lk_cons, t1, t2, t3, t4, t5, w1, w2, w3, w4, w5, w6, w7, w8, z1, z2, fillL, storeL]
  exact ⟨_, rfl, rfl, h⟩
end Go.Proofs.Ytkfofdeceicfkaa.AM

namespace Go.Proofs.Ytkfofdeceicfkaa.AM
set_option maxRecDepth 100000
set_option linter.unusedVariables false
set_option linter.unusedSimpArgs false

/-- An entry that waits: its number, its data, the block of what was said of it, that. -/
structure WEnt where
  n : Nat
  d : AVal
  s : Nat
  bs : List Bool

def cellsE (P : Nat) (e : WEnt) : List AVal := [u64 e.n, e.d, .sl e.s 0 P P true]
def cellsEs (P : Nat) : List WEnt → List AVal
  | [] => []
  | e :: es => cellsE P e ++ cellsEs P es
@[simp] theorem cellsEs_len (P : Nat) (es : List WEnt) : (cellsEs P es).length = 3 * es.length := by
  induction es with
  | nil => rfl
  | cons e es ih => simp only [cellsEs, cellsE, List.length_append, List.length_cons, List.length_nil, ih]; omega
theorem cellsEs_append (P : Nat) (a b : List WEnt) : cellsEs P (a ++ b) = cellsEs P a ++ cellsEs P b := by
  induction a with
  | nil => rfl
  | cons e es ih => simp only [List.cons_append, cellsEs, ih, List.append_assoc]

/-- What waits, as the slice wv. -/
def WaitV (σ : St) (P : Nat) (fp : Nat → Prop) (ents : List WEnt) (wv : AVal) : Prop :=
  (ents = [] ∧ wv = .nilsl) ∨ ∃ (a : Nat) (pre : List AVal), wv = .sl a pre.length ents.length ents.length false ∧ σ.mem.get a = some (.cells 3 (pre ++ cellsEs P ents)) ∧ fp a ∧ ∀ e ∈ ents, e.s ≠ a

structure WRep (σ : St) (w : Nat) (fp : Nat → Prop) (P W A sure : Nat) (ents : List WEnt) (closed : Bool) (wv : AVal) : Prop where
  head : σ.mem.get w = some (.cells 6 [i64 P, i64 W, i64 A, u64 sure, wv, .bool closed])
  wfp : fp w
  wait : WaitV σ P (fun a => fp a ∧ a ≠ w) ents wv
  said : ∀ e ∈ ents, σ.mem.get e.s = some (.cells 1 (bv e.bs)) ∧ e.bs.length = P ∧ fp e.s ∧ e.s ≠ w
  apart : (ents.map (·.s)).Nodup
  num : ∀ (i : Nat) (e : WEnt), ents[i]? = some e → e.n = sure + i
  lt : ∀ a, fp a → a < σ.next
  done : ∀ e ∈ ents, e.d.one = true ∧ cellsOf e.d = [e.d]

/-- Outside of fp, what was there is as it was. -/
def Keeps (fp : Nat → Prop) (σ σ' : St) : Prop := σ.next ≤ σ'.next ∧ ∀ a, a < σ.next → ¬ fp a → σ'.mem.get a = σ.mem.get a

theorem wv_len {σ : St} {P : Nat} {fp : Nat → Prop} {ents : List WEnt} {wv : AVal} (h : WaitV σ P fp ents wv) (ρ : St) : evalV ρ (.len 1 wv) = some (i64 ents.length, ρ) := by
  rcases h with ⟨rfl, rfl⟩ | ⟨a, pre, rfl, _⟩ <;> simp

theorem count_c {σ : St} {w : Nat} {fp : Nat → Prop} {P W A sure : Nat} {ents : List WEnt} {closed : Bool} {wv : AVal} (h : WRep σ w fp P W A sure ents closed wv) (hs : sure + ents.length ≤ 2000000) (Q : AVal → St → Prop) (hq : Q (u64 (sure + ents.length : Nat)) σ) : ACall Try.prog 17 [.ptr w 0] σ Q := by
  refine ACall.of_compF hmx (fun a w => Try.call17 a w) Try.func17 cf17 (n := 1) (by decide) rfl ?_
  have h1 := h.head
  have w1 : IntKind.u64.wrap (ents.length : Int) = ents.length := by rw [IntWalk.u64_in]; omega
  obtain ⟨z, hz⟩ : ∃ z, sure + ents.length = z := ⟨_, rfl⟩
  have w2 : IntKind.u64.wrap ((sure : Int) + (ents.length : Int)) = (z : Int) := by rw [IntWalk.u64_in] <;> omega
  rw [hz] at hq
  rcases h.wait with ⟨rfl, rfl⟩ | ⟨a, pre, rfl, _⟩
  · simp at w1 w2
    simp [ac17, rs17, lk_cons, h1, w1, w2, hq]
  · simp [ac17, rs17, lk_cons, h1, w1, w2, hq]

theorem sure_c {σ : St} {w : Nat} {fp : Nat → Prop} {P W A sure : Nat} {ents : List WEnt} {closed : Bool} {wv : AVal} (h : WRep σ w fp P W A sure ents closed wv) (Q : AVal → St → Prop) (hq : Q (u64 sure) σ) : ACall Try.prog 16 [.ptr w 0] σ Q := by
  refine ACall.of_compF hmx (fun a w => Try.call16 a w) Try.func16 cf16 (n := 1) (by decide) rfl ?_
  have h1 := h.head
  simp [ac16, rs16, lk_cons, h1, hq]

theorem new_c (P W A : Nat) (hq : 1 ≤ A ∧ A ≤ W ∧ W ≤ P ∧ P ≤ 7) (σ : St) (Q : AVal → St → Prop) (h : ∀ w fp σ', WRep σ' w fp P W A 0 [] false .nilsl → Keeps (fun _ => False) σ σ' → (∀ a, fp a → σ.next ≤ a) → Q (.tup [.ptr w 0, i64 0]) σ') : ACall Try.prog 10 [qv P W A] σ Q := by
  refine ACall.of_compF hmx (fun a w => Try.call10 a w) Try.func10 cf10 (n := 1) (by decide) rfl ?_
  simp [ac10, rs10, lk_cons]
  refine qcheck _ _ _ _ _ ?_
  have hd : decide ((1:Int) ≤ A ∧ (A:Int) ≤ W ∧ (W:Int) ≤ P ∧ (P:Int) ≤ 7) = true := by simp; omega
  rw [hd]
  simp [lk_cons, fillL, storeL]
  refine h (σ.next + 1) (fun a => a = σ.next + 1) _ ⟨by simp, rfl, .inl ⟨rfl, rfl⟩, fun e he => by simp at he, by simp, fun i e he => by simp at he, fun a ha => by subst ha; simp, fun e he => by simp at he⟩ ⟨by simp; omega, fun a ha _ => ?_⟩ (fun a ha => by omega)
  simp [show ¬ a = σ.next by omega, show ¬ a = σ.next + 1 by omega]

theorem close_c {σ : St} {w : Nat} {fp : Nat → Prop} {P W A sure : Nat} {ents : List WEnt} {closed : Bool} {wv : AVal} (h : WRep σ w fp P W A sure ents closed wv) (Q : AVal → St → Prop)
    (h1 : ents ≠ [] → Q (.tup [u64 0, i64 23]) σ) (h2 : ∀ σ', ents = [] → WRep σ' w fp P W A sure [] true wv → Keeps fp σ σ' → Q (.tup [u64 sure, i64 0]) σ') : ACall Try.prog 18 [.ptr w 0] σ Q := by
  refine ACall.of_compF hmx (fun a w => Try.call18 a w) Try.func18 cf18 (n := 1) (by decide) rfl ?_
  have hh := h.head
  have hlt := h.lt w h.wfp
  by_cases he : ents = []
  · subst he
    have key : ∀ σ', (σ' = ⟨σ.mem.set w (.cells 6 [i64 P, i64 W, i64 A, u64 sure, wv, .bool true]), σ.next⟩) → Q (.tup [u64 sure, i64 0]) σ' := fun σ' e => by
      subst e
      refine h2 _ rfl ⟨by simp, h.wfp, ?_, fun e he => by simp at he, by simp, fun i e he => by simp at he, h.lt, fun e he => by simp at he⟩ ⟨Nat.le_refl _, fun a ha hf => ?_⟩
      · rcases h.wait with hw | ⟨a, pre, g1, g2, g3, g4⟩
        · exact .inl hw
        · exact .inr ⟨a, pre, g1, by simp [g3.2]; simpa using g2, g3, g4⟩
      · have : ¬ a = w := fun e => hf (e ▸ h.wfp)
        simp [this]
    rcases h.wait with ⟨_, rfl⟩ | ⟨a, pre, rfl, _⟩
    · simp [ac18, rs18, lk_cons, hh, storeL]
      exact key _ rfl
    · simp [ac18, rs18, lk_cons, hh, storeL]
      exact key _ rfl
  · rcases h.wait with ⟨e, _⟩ | ⟨a, pre, rfl, _⟩
    · exact absurd e he
    · have hp : 0 < ents.length := List.length_pos_iff.2 he
      simp [ac18, rs18, lk_cons, hh, hp]
      exact h1 he
end Go.Proofs.Ytkfofdeceicfkaa.AM

namespace Go.Proofs.Ytkfofdeceicfkaa.AM
set_option maxRecDepth 100000
set_option linter.unusedVariables false
set_option linter.unusedSimpArgs false

structure DataOk (σ : St) (d : AVal) (k : Nat) (dc : Bool → AVal) : Prop where
  len : (d = .nilsl ∧ k = 0) ∨ (∃ cs t, d = .isl cs k t) ∨ ∃ a c t, d = .sl a 0 k c t
  clone : ∀ (σ2 : St) (Q : AVal → St → Prop), σ.next ≤ σ2.next → (∀ a, a < σ.next → σ2.mem.get a = σ.mem.get a) → (∀ t, Q (dc t) σ2) → ACall Try.prog 25 [d] σ2 Q
  one : ∀ t, dc t = .nilsl ∨ ∃ cs n t', dc t = .isl cs n t'

theorem dlen {σ : St} {d : AVal} {k : Nat} {dc : Bool → AVal} (h : DataOk σ d k dc) (ρ : St) : evalV ρ (.len 1 d) = some (i64 k, ρ) := by
  rcases h.len with ⟨rfl, rfl⟩ | ⟨cs, t, rfl⟩ | ⟨a, c, t, rfl⟩ <;> simp

theorem bv_rep (n : Nat) : bv (List.replicate n false) = List.replicate n (AVal.bool false) := by simp [bv]

theorem WRep.add {σ σ' : St} {w : Nat} {fp : Nat → Prop} {P W A sure : Nat} {ents : List WEnt} {closed : Bool} {wv : AVal} (h : WRep σ w fp P W A sure ents closed wv) {s a' : Nat} {dd : AVal} (hs : σ.next ≤ s) (ha : σ.next ≤ a') (hsa : s ≠ a') (hs2 : s < σ'.next) (ha2 : a' < σ'.next) (hnx : σ.next ≤ σ'.next)
    (m1 : σ'.mem.get w = some (.cells 6 [i64 P, i64 W, i64 A, u64 sure, .sl a' 0 (ents.length + 1) (ents.length + 1) false, .bool closed])) (m2 : σ'.mem.get s = some (.cells 1 (bv (List.replicate P false))))
    (m3 : σ'.mem.get a' = some (.cells 3 (cellsEs P ents ++ [u64 (sure + ents.length : Nat), dd, .sl s 0 P P true]))) (m4 : ∀ e ∈ ents, σ'.mem.get e.s = σ.mem.get e.s) (m5 : dd.one = true ∧ cellsOf dd = [dd]) :
    WRep σ' w (fun x => fp x ∨ x = s ∨ x = a') P W A sure (ents ++ [⟨sure + ents.length, dd, s, List.replicate P false⟩]) closed (.sl a' 0 (ents.length + 1) (ents.length + 1) false) := by
  have hw := h.lt w h.wfp
  refine ⟨m1, .inl h.wfp, .inr ⟨a', [], ?_, ?_, ⟨.inr (.inr rfl), by omega⟩, ?_⟩, ?_, ?_, ?_, ?_, ?_⟩
  · simp
  · rw [m3, cellsEs_append]; simp [cellsEs, cellsE]
  · intro e he
    rcases List.mem_append.1 he with he | he
    · have := h.lt _ (h.said e he).2.2.1; omega
    · simp at he; subst he; exact hsa
  · intro e he
    rcases List.mem_append.1 he with he | he
    · have g := h.said e he
      exact ⟨by rw [m4 e he]; exact g.1, g.2.1, .inl g.2.2.1, g.2.2.2⟩
    · simp at he; subst he
      exact ⟨m2, by simp, .inr (.inl rfl), by show s ≠ w; omega⟩
  · rw [List.map_append, List.nodup_append]
    refine ⟨h.apart, by simp, fun x hx y hy => ?_⟩
    obtain ⟨e, he, rfl⟩ := List.mem_map.1 hx
    simp at hy; subst hy
    have := h.lt _ (h.said e he).2.2.1
    omega
  · intro i e he
    by_cases hi : i < ents.length
    · rw [List.getElem?_append_left hi] at he; exact h.num i e he
    · rw [List.getElem?_append_right (by omega)] at he
      have h0 : i - ents.length = 0 := by
        rcases Nat.eq_zero_or_pos (i - ents.length) with h0 | h0
        · exact h0
        · rw [List.getElem?_eq_none (by simp; omega)] at he; cases he
      rw [h0] at he
      simp at he; subst he
      show sure + ents.length = sure + i
      omega
  · intro x hx
    rcases hx with hx | rfl | rfl
    · exact Nat.lt_of_lt_of_le (h.lt x hx) hnx
    · exact hs2
    · exact ha2
  · intro e he
    rcases List.mem_append.1 he with he | he
    · exact h.done e he
    · simp at he; subst he; exact m5

theorem add_c {σ : St} {w : Nat} {fp : Nat → Prop} {P W A sure : Nat} {ents : List WEnt} {closed : Bool} {wv : AVal} (h : WRep σ w fp P W A sure ents closed wv) (hP : P ≤ 7) (hs : sure + ents.length ≤ 1000000) {d : AVal} {k : Nat} {dc : Bool → AVal} (hd : DataOk σ d k dc) (Q : AVal → St → Prop)
    (q1 : closed = true → Q (.tup [u64 0, i64 24]) σ) (q2 : closed = false → 256 < k → Q (.tup [u64 0, i64 3]) σ) (q3 : closed = false → k ≤ 256 → 64 ≤ ents.length → Q (.tup [u64 0, i64 14]) σ)
    (q4 : ∀ (σ' : St) (fp' : Nat → Prop) (s : Nat) (t : Bool) (wv' : AVal), closed = false → k ≤ 256 → ents.length < 64 → WRep σ' w fp' P W A sure (ents ++ [⟨sure + ents.length, dc t, s, List.replicate P false⟩]) false wv' → Keeps fp σ σ' → (∀ a, fp' a → fp a ∨ σ.next ≤ a) → Q (.tup [u64 (sure + ents.length : Nat), i64 0]) σ') :
    ACall Try.prog 11 [.ptr w 0, d] σ Q := by
  refine ACall.of_compF hmx (fun a w => Try.call11 a w) Try.func11 cf11 (n := 2) (by decide) rfl ?_
  have hh := h.head
  have hlt := h.lt w h.wfp
  have hdl := dlen hd
  have hwl : ∀ ρ, evalV ρ (.len 1 wv) = some (i64 ents.length, ρ) := wv_len h.wait
  obtain ⟨z, hz⟩ : ∃ z, sure + ents.length = z := ⟨_, rfl⟩
  cases closed with
  | true =>
    simp [ac11, rs11, lk_cons, hh]
    exact q1 rfl
  | false =>
    by_cases hk : 256 < k
    · have hk' : (256 : Int) < k := by omega
      simp [ac11, rs11, lk_cons, hh, ↓hdl, hk']
      exact q2 rfl hk
    · have hk' : k ≤ 256 := by omega
      have hk2 : ¬ (256 : Int) < k := by omega
      by_cases hw : 64 ≤ ents.length
      · have hw' : (64 : Int) ≤ ents.length := by omega
        simp [ac11, rs11, lk_cons, hh, ↓hdl, ↓hwl, hk2, hw']
        exact q3 rfl hk' hw
      · have hw' : ¬ (64 : Int) ≤ ents.length := by omega
        have hz' : ¬ (1048576 : Int) ≤ z := by omega
        simp [ac11, rs11, lk_cons, hh, ↓hdl, ↓hwl, hk2, hw']
        refine count_c h (by omega) _ ?_
        rw [hz]
        simp [lk_cons, hz']
        refine count_c h (by omega) _ ?_
        rw [hz]
        have hPb : (P : Int) ≤ 9223372036854775807 ∧ (P : Int) ≤ 140737488355328 := by omega
        have e1 : ¬ w = σ.next := by omega
        have e2 : ¬ w = σ.next + 1 := by omega
        have e3 : ¬ w = σ.next + 1 + 1 := by omega
        simp [lk_cons, hh, hPb]
        refine hd.clone _ _ (by simp) (fun a ha => by simp [show ¬ a = σ.next by omega]) fun t => ?_
        have q5 := fun σ' fp' s wv' => q4 σ' fp' s t wv'
        have hone : ∃ dd, dc t = dd ∧ cellsOf dd = [dd] ∧ dd.one = true := by
          rcases hd.one t with e | ⟨cs, n, t', e⟩ <;> exact ⟨_, e, rfl, rfl⟩
        obtain ⟨dd, hdd, one1, one2⟩ := hone
        rw [hdd]
        simp only [hdd] at q5
        rcases h.wait with ⟨rfl, rfl⟩ | ⟨a, pre, rfl, g2, g3, g4⟩
        · simp [lk_cons, hh, e1, e2, e3, one1, one2, fillL, storeL, srcL, repL]
          rw [← hz, ← bv_rep]
          refine q5 _ _ σ.next _ trivial hk' (by simp) (h.add (Nat.le_refl _) (a' := σ.next + 1 + 1) (by omega) (by omega) (by simp; omega) (by simp) (by simp; omega) (by simp) (by simp [Ne.symm e1, show ¬ σ.next = σ.next + 1 + 1 by omega]) ?_ (fun e he => by simp at he) ⟨one2, one1⟩) ⟨by simp; omega, fun a ha hf => ?_⟩ (fun a ha => ?_)
          · simp [Ne.symm e3, cellsEs]
          · have : ¬ a = w := fun e => hf (e ▸ h.wfp)
            simp [this, show ¬ a = σ.next by omega, show ¬ a = σ.next + 1 by omega, show ¬ a = σ.next + 1 + 1 by omega]
          · rcases ha with ha | rfl | rfl
            · exact .inl ha
            · exact .inr (Nat.le_refl _)
            · exact .inr (by omega)
        · have e4 : ¬ a = σ.next := by have := h.lt a g3.1; omega
          have e5 : ¬ a = σ.next + 1 := by have := h.lt a g3.1; omega
          have e6 : ¬ w = a := fun e => g3.2 e.symm
          have gl : ¬ ents.length + 1 ≤ ents.length := by omega
          have gm : ents.length * 3 ≤ 3 * ents.length := by omega
          have gb : (ents.length + 1) * 56 ≤ 140737488355328 ∧ ents.length ≤ 9223372036854775806 := by omega
          simp [lk_cons, hh, e1, e2, e3, e4, e5, e6, g2, gl, gb, gm, one1, one2, fillL, storeL, srcL, repL]
          rw [← hz, ← bv_rep]
          refine q5 _ _ σ.next _ trivial hk' (by omega) (h.add (Nat.le_refl _) (a' := σ.next + 1 + 1) (by omega) (by omega) (by simp; omega) (by simp) (by simp; omega) (by simp) (by simp [Ne.symm e1, Ne.symm e4, show ¬ σ.next = σ.next + 1 + 1 by omega]) ?_ (fun e he => ?_) ⟨one2, one1⟩) ⟨by simp; omega, fun b hb hf => ?_⟩ (fun b hb => ?_)
          · simp [Ne.symm e3]
            exact List.take_of_length_le (by simp; omega)
          · have g := h.said e he
            have g5 := h.lt _ g.2.2.1
            have g6 := g4 e he
            simp [g.2.2.2, g6, show ¬ e.s = σ.next by omega, show ¬ e.s = σ.next + 1 by omega, show ¬ e.s = σ.next + 1 + 1 by omega]
          · have g5 : ¬ b = w := fun e => hf (e ▸ h.wfp)
            have g6 : ¬ b = a := fun e => hf (e ▸ g3.1)
            simp [g5, g6, show ¬ b = σ.next by omega, show ¬ b = σ.next + 1 by omega, show ¬ b = σ.next + 1 + 1 by omega]
          · rcases hb with hb | rfl | rfl
            · exact .inl hb
            · exact .inr (Nat.le_refl _)
            · exact .inr (by omega)
end Go.Proofs.Ytkfofdeceicfkaa.AM

namespace Go.Proofs.Ytkfofdeceicfkaa.AM
set_option maxRecDepth 100000
set_option linter.unusedVariables false
set_option linter.unusedSimpArgs false

def itemsC : List WEnt → List AVal
  | [] => []
  | e :: es => [u64 e.n, e.d] ++ itemsC es
theorem itemsC_append (a b : List WEnt) : itemsC (a ++ b) = itemsC a ++ itemsC b := by
  induction a with
  | nil => rfl
  | cons e es ih => simp only [List.cons_append, itemsC, ih, List.append_assoc]
@[simp] theorem itemsC_len (es : List WEnt) : (itemsC es).length = 2 * es.length := by
  induction es with
  | nil => rfl
  | cons e es ih => simp only [itemsC, List.length_append, List.length_cons, List.length_nil, ih]; omega

def enoughE (P W A : Nat) (e : WEnt) : Bool := decide (A ≤ cnt e.bs (setP P W e.n))
def setSaid (p : Nat) (b : Bool) (e : WEnt) : WEnt := { e with bs := e.bs.set p b }
/-- The entry at j hears p. -/
def heard (ents : List WEnt) (j p : Nat) : List WEnt := ents.modify j (setSaid p true)

theorem WRep.pop {σ σ' : St} {w : Nat} {fp : Nat → Prop} {P W A sure : Nat} {e : WEnt} {ents : List WEnt} {closed : Bool} {a : Nat} {pre : List AVal} (h : WRep σ w fp P W A sure (e :: ents) closed (.sl a pre.length (ents.length + 1) (ents.length + 1) false))
    (hm : σ.mem.get a = some (.cells 3 (pre ++ cellsEs P (e :: ents)))) (ha : fp a ∧ a ≠ w) (hae : ∀ x ∈ e :: ents, x.s ≠ a)
    (m1 : σ'.mem.get w = some (.cells 6 [i64 P, i64 W, i64 A, u64 (sure + 1 : Nat), .sl a (pre.length + 3) ents.length ents.length false, .bool closed])) (m2 : ∀ x, fp x → x ≠ w → σ'.mem.get x = σ.mem.get x) (hn : σ.next ≤ σ'.next) :
    WRep σ' w fp P W A (sure + 1) ents closed (.sl a (pre.length + 3) ents.length ents.length false) := by
  refine ⟨m1, h.wfp, .inr ⟨a, pre ++ cellsE P e, by simp [cellsE], ?_, ha, fun x hx => hae x (List.mem_cons_of_mem _ hx)⟩, ?_, ?_, ?_, ?_, fun x hx => h.done x (List.mem_cons_of_mem _ hx)⟩
  · rw [m2 a ha.1 ha.2, hm]; simp [cellsEs, List.append_assoc]
  · intro x hx
    have g := h.said x (List.mem_cons_of_mem _ hx)
    exact ⟨by rw [m2 _ g.2.2.1 g.2.2.2]; exact g.1, g.2⟩
  · have := h.apart
    simp only [List.map_cons, List.nodup_cons] at this
    exact this.2
  · intro i x hx
    have := h.num (i + 1) x (by simpa using hx)
    omega
  · intro x hx
    exact Nat.lt_of_lt_of_le (h.lt x hx) hn

def AckJ (w : Nat) (fp : Nat → Prop) (P W A sure : Nat) (ents : List WEnt) (closed : Bool) (σ0 : St) (m : Nat) (r : Regs) (σ' : St) : Prop := ∃ (k : Nat) (wv ov : AVal), m = ents.length - k ∧ k ≤ ents.length ∧ WRep σ' w fp P W A (sure + k) (ents.drop k) closed wv ∧ Keeps fp σ0 σ' ∧
  (∀ (i : Nat) (e : WEnt), i < k → ents[i]? = some e → enoughE P W A e = true) ∧ r = [(0, .ptr w 0), (7, ov)] ∧
  (k = 0 ∧ ov = .nilsl ∨ ∃ o, ov = .sl o 0 k k false ∧ σ0.next ≤ o ∧ o < σ'.next ∧ σ'.mem.get o = some (.cells 2 (itemsC (ents.take k))))
end Go.Proofs.Ytkfofdeceicfkaa.AM

namespace Go.Proofs.Ytkfofdeceicfkaa.AM
set_option maxRecDepth 100000
set_option linter.unusedVariables false
set_option linter.unusedSimpArgs false

theorem cellsEs_modify (P p : Nat) (b : Bool) : ∀ (ents : List WEnt) (j : Nat), cellsEs P (ents.modify j (setSaid p b)) = cellsEs P ents
  | [], j => by cases j <;> rfl
  | e :: es, 0 => rfl
  | e :: es, j + 1 => by simp only [List.modify_succ_cons, cellsEs, cellsEs_modify P p b es j]

theorem map_s_modify (p : Nat) (b : Bool) : ∀ (ents : List WEnt) (j : Nat), (ents.modify j (setSaid p b)).map (·.s) = ents.map (·.s)
  | [], j => by cases j <;> rfl
  | e :: es, 0 => rfl
  | e :: es, j + 1 => by simp only [List.modify_succ_cons, List.map_cons, map_s_modify p b es j]

theorem WRep.frame {σ σ' : St} {w : Nat} {fp : Nat → Prop} {P W A sure : Nat} {ents : List WEnt} {closed : Bool} {wv : AVal} (h : WRep σ w fp P W A sure ents closed wv) (hm : ∀ a, fp a → σ'.mem.get a = σ.mem.get a) (hn : σ.next ≤ σ'.next) : WRep σ' w fp P W A sure ents closed wv := by
  refine ⟨by rw [hm w h.wfp]; exact h.head, h.wfp, ?_, fun e he => ?_, h.apart, h.num, fun a ha => Nat.lt_of_lt_of_le (h.lt a ha) hn, h.done⟩
  · rcases h.wait with hw | ⟨a, pre, g1, g2, g3, g4⟩
    · exact .inl hw
    · exact .inr ⟨a, pre, g1, by rw [hm a g3.1]; exact g2, g3, g4⟩
  · have g := h.said e he
    exact ⟨by rw [hm _ g.2.2.1]; exact g.1, g.2⟩

theorem WRep.hear {σ : St} {w : Nat} {fp : Nat → Prop} {P W A sure : Nat} {ents : List WEnt} {closed : Bool} {wv : AVal} (h : WRep σ w fp P W A sure ents closed wv) {j : Nat} {e : WEnt} (hj : ents[j]? = some e) (p : Nat) (b : Bool) :
    WRep ⟨σ.mem.set e.s (.cells 1 (bv (e.bs.set p b))), σ.next⟩ w fp P W A sure (ents.modify j (setSaid p b)) closed wv := by
  have hm := List.mem_of_getElem? hj
  have hs := h.said e hm
  have get : ∀ (i : Nat) (x : WEnt), (ents.modify j (setSaid p b))[i]? = some x → ∃ y, ents[i]? = some y ∧ x.n = y.n ∧ x.s = y.s ∧ x.d = y.d ∧ (i = j → x.bs = y.bs.set p b) ∧ (i ≠ j → x = y) := by
    intro i x hx
    rw [List.getElem?_modify] at hx
    cases hy : ents[i]? with
    | none => rw [hy] at hx; simp at hx
    | some y =>
      rw [hy] at hx
      simp only [Option.map_eq_map, Option.map_some, Option.some.injEq] at hx
      by_cases hij : j = i
      · rw [if_pos hij] at hx; subst hx
        exact ⟨y, rfl, rfl, rfl, rfl, fun _ => rfl, fun hne => absurd hij.symm hne⟩
      · rw [if_neg hij] at hx; subst hx
        exact ⟨y, rfl, rfl, rfl, rfl, fun e => absurd e.symm hij, fun _ => rfl⟩
  have inj : ∀ (i : Nat) (y : WEnt), ents[i]? = some y → y.s = e.s → i = j := by
    intro i y hy he
    have h1 : (ents.map (·.s))[i]? = some e.s := by rw [List.getElem?_map, hy]; simp [he]
    have h2 : (ents.map (·.s))[j]? = some e.s := by rw [List.getElem?_map, hj]; rfl
    have hi := (List.getElem?_eq_some_iff.1 h1).1
    exact (List.getElem?_inj hi h.apart).1 (h1.trans h2.symm)
  refine ⟨by simp [Ne.symm hs.2.2.2, h.head], h.wfp, ?_, ?_, by rw [map_s_modify]; exact h.apart, ?_, h.lt, fun x hx => ?_⟩
  · rcases h.wait with ⟨rfl, rfl⟩ | ⟨a, pre, g1, g2, g3, g4⟩
    · simp at hj
    · refine .inr ⟨a, pre, by rw [List.length_modify]; exact g1, ?_, g3, ?_⟩
      · rw [cellsEs_modify]; simp [Ne.symm (g4 e hm), g2]
      · intro x hx
        obtain ⟨i, hi⟩ := List.mem_iff_getElem?.1 hx
        obtain ⟨y, hy, _, e2, _⟩ := get i x hi
        rw [e2]; exact g4 y (List.mem_of_getElem? hy)
  · intro x hx
    obtain ⟨i, hi⟩ := List.mem_iff_getElem?.1 hx
    obtain ⟨y, hy, _, e2, _, e4, e5⟩ := get i x hi
    have gy := h.said y (List.mem_of_getElem? hy)
    by_cases hij : i = j
    · subst hij
      rw [hj] at hy; cases hy
      rw [e2, e4 rfl]
      exact ⟨by simp, by simp [hs.2.1], hs.2.2⟩
    · have hne : ¬ y.s = e.s := fun he => hij (inj i y hy he)
      rw [e5 hij]
      exact ⟨by simp [hne, gy.1], gy.2⟩
  · intro i x hx
    obtain ⟨y, hy, e1, _⟩ := get i x hx
    rw [e1]; exact h.num i y hy
  · obtain ⟨i, hi⟩ := List.mem_iff_getElem?.1 hx
    obtain ⟨y, hy, _, _, e3, _⟩ := get i x hi
    rw [e3]; exact h.done y (List.mem_of_getElem? hy)
end Go.Proofs.Ytkfofdeceicfkaa.AM

namespace Go.Proofs.Ytkfofdeceicfkaa.AM
set_option maxRecDepth 100000
set_option linter.unusedVariables false
set_option linter.unusedSimpArgs false

def popped (P W A : Nat) : List WEnt → Nat
  | [] => 0
  | e :: es => if enoughE P W A e then 1 + popped P W A es else 0

theorem popped_at (P W A : Nat) : ∀ (es : List WEnt) (k : Nat), k ≤ es.length → (∀ (i : Nat) (e : WEnt), i < k → es[i]? = some e → enoughE P W A e = true) → (∀ e, es[k]? = some e → enoughE P W A e = false) → popped P W A es = k
  | [], k, hk, _, _ => by simp at hk; subst hk; rfl
  | e :: es, 0, _, _, h2 => by simp [popped, h2 e rfl]
  | e :: es, k + 1, hk, h1, h2 => by
    have := popped_at P W A es k (by simpa using hk) (fun i x hi hx => h1 (i + 1) x (by omega) (by simpa using hx)) (fun x hx => h2 x (by simpa using hx))
    simp [popped, h1 0 e (by omega) rfl, this]; omega

theorem bv_set (l : List Bool) (p : Nat) (b : Bool) : (bv l).set p (.bool b) = bv (l.set p b) := by simp [bv, List.map_set]

theorem cellsEs_get {P : Nat} : ∀ {ents : List WEnt} {j : Nat} {e : WEnt}, ents[j]? = some e → (cellsEs P ents)[j * 3]? = some (u64 e.n) ∧ (cellsEs P ents)[j * 3 + 1]? = some e.d ∧ (cellsEs P ents)[j * 3 + 2]? = some (.sl e.s 0 P P true)
  | [], j, e, h => by simp at h
  | x :: es, 0, e, h => by simp at h; subst h; simp [cellsEs, cellsE]
  | x :: es, j + 1, e, h => by
    have := cellsEs_get (P := P) (ents := es) (j := j) (e := e) (by simpa using h)
    have e1 : (j + 1) * 3 = j * 3 + 1 + 1 + 1 := by omega
    simpa [cellsEs, cellsE, e1] using this

theorem pre_get (pre l : List AVal) (i : Nat) : (pre ++ l)[pre.length + i]? = l[i]? := by
  rw [List.getElem?_append_right (by omega)]; congr 1; omega

theorem ack_c {σ : St} {w : Nat} {fp : Nat → Prop} {P W A sure : Nat} {ents : List WEnt} {closed : Bool} {wv : AVal} (h : WRep σ w fp P W A sure ents closed wv) (hq : 1 ≤ A ∧ A ≤ W ∧ W ≤ P ∧ P ≤ 7) (hs : sure + ents.length ≤ 1000000) (place : Int) (n : Nat) (hn : n < 18446744073709551616) (Q : AVal → St → Prop)
    (q1 : (n < sure ∨ sure + ents.length ≤ n ∨ ¬ ∃ y ∈ setP P W n, (y : Int) = place) → Q .nilsl σ)
    (q2 : ∀ (σ' : St) (wv' v : AVal) (p k : Nat), (p : Int) = place → p ∈ setP P W n → sure ≤ n → n < sure + ents.length → k = popped P W A (heard ents (n - sure) p) → WRep σ' w fp P W A (sure + k) ((heard ents (n - sure) p).drop k) closed wv' → Keeps fp σ σ' →
      (k = 0 ∧ v = .nilsl ∨ ∃ t, v = .isl (itemsC ((heard ents (n - sure) p).take k)) k t) → Q v σ') :
    ACall Try.prog 12 [.ptr w 0, i64 place, u64 n] σ Q := by
  refine ACall.freeze1 ?_
  refine ACall.of_compF hmx (fun a w => Try.call12 a w) Try.func12 cf12 (n := 3) (by decide) rfl ?_
  have hh := h.head
  by_cases h1 : n < sure
  · have h1' : (n : Int) < sure := by omega
    simp [ac12, rs12, lk_cons, hh, h1, h1']
    exact (q1 (.inl h1))
  · have h1' : ¬ (n : Int) < sure := by omega
    simp [ac12, rs12, lk_cons, hh, h1, h1']
    refine count_c h (by omega) _ ?_
    obtain ⟨z, hz⟩ : ∃ z, sure + ents.length = z := ⟨_, rfl⟩
    rw [hz]
    by_cases h2 : z ≤ n
    · have h2' : (z : Int) ≤ n := by omega
      simp [lk_cons, hh, h2, h2']
      exact (q1 (.inr (.inl (by omega))))
    · have h2' : ¬ (z : Int) ≤ n := by omega
      simp [lk_cons, hh, h2, h2']
      refine qset P W A n hq hn _ _ ?_
      have hsl := setP_len P W n
      simp [lk_cons]
      have hc := contains_c (setP P W n) false place (by omega)
      rw [hsl] at hc
      refine hc _ _ ?_
      by_cases h3 : ∃ y ∈ setP P W n, (y : Int) = place
      · obtain ⟨p, hp, rfl⟩ := h3
        have hd : decide (∃ y ∈ setP P W n, (y : Int) = (p : Int)) = true := by simpa using ⟨p, hp, rfl⟩
        rw [hd]
        obtain ⟨j, hj⟩ : ∃ j, n - sure = j := ⟨_, rfl⟩
        have hjl : j < ents.length := by omega
        have hwj : IntKind.u64.wrap ((n : Int) - (sure : Int)) = (j : Int) := by rw [IntWalk.u64_in] <;> omega
        obtain ⟨e, he⟩ : ∃ e, ents[j]? = some e := ⟨_, List.getElem?_eq_getElem hjl⟩
        have hpP : p < P := setP_lt (by omega) hp
        have gs := h.said e (List.mem_of_getElem? he)
        rcases h.wait with ⟨rfl, rfl⟩ | ⟨a, pre, rfl, g2, g3, g4⟩
        · simp at he
        · have gc := (cellsEs_get (P := P) he).2.2
          have gp := pre_get pre (cellsEs P ents) (j * 3 + 2)
          rw [← Nat.add_assoc, gc] at gp
          have hpl : p + 1 ≤ e.bs.length := by omega
          simp [lk_cons, hh, hwj, hjl, g2, gp, gs.1, hpP, hpl, storeL, bv_set]
          have h0 : WRep _ w fp P W A sure (heard ents j p) closed _ := h.hear he p true
          have hk0 : Keeps fp σ ⟨σ.mem.set e.s (.cells 1 (bv (e.bs.set p true))), σ.next⟩ := ⟨Nat.le_refl _, fun a ha hf => by
            have : ¬ a = e.s := fun ee => hf (ee ▸ gs.2.2.1)
            simp [this]⟩
          rw [hj] at q2
          replace q2 := fun σ' wv' v k => q2 σ' wv' v p k rfl hp
          have hlen : (heard ents j p).length = ents.length := by simp [heard]
          generalize heard ents j p = es at h0 q2 hlen
          generalize (⟨σ.mem.set e.s (.cells 1 (bv (e.bs.set p true))), σ.next⟩ : St) = σ1 at h0 hk0
          refine wp_loop (AckJ w fp P W A sure es closed σ) es.length ?_ ?_
          · exact ⟨0, _, .nilsl, rfl, by omega, h0, hk0, fun i e hi => by omega, rfl, .inl ⟨rfl, rfl⟩⟩
          · rintro m r σ' ⟨k, wv, ov, rfl, hkl, hr, hke, hen, rfl, ho⟩
            have hr0 := hr.head
            have fin : (∀ e, es[k]? = some e → enoughE P W A e = false) → (Q ov σ' ∨ ∃ n o len cap t es' vals, ov = .sl n o len cap t ∧ σ'.mem.get n = some (.cells es' vals) ∧ σ.next ≤ n ∧ o + len * es' ≤ vals.length ∧ Q (.isl ((vals.drop o).take (len * es')) len (t && decide (cap = len))) ⟨σ'.mem.del n, σ'.next⟩) := by
              intro hnot
              have hpk := popped_at P W A es k hkl hen hnot
              rcases ho with ⟨rfl, rfl⟩ | ⟨o, rfl, o1, o2, o3⟩
              · exact .inl (q2 σ' wv _ 0 (by omega) (by omega) hpk.symm hr hke (.inl ⟨rfl, rfl⟩))
              · refine .inr ⟨o, 0, k, k, false, 2, _, rfl, o3, o1, by simp; omega, ?_⟩
                refine q2 _ wv _ k (by omega) (by omega) hpk.symm ?_ ?_ (.inr ⟨false && decide (k = k), ?_⟩)
                · exact hr.frame (fun a ha => by have := h.lt a ha; simp [show ¬ a = o by omega]) (Nat.le_refl _)
                · exact ⟨hke.1, fun a ha hf => by simp [show ¬ a = o by omega]; exact hke.2 a ha hf⟩
                · rw [List.drop_zero, List.take_of_length_le (by simp; omega)]
            cases hdr : es.drop k with
            | nil =>
              have hk : es.length ≤ k := by
                have := congrArg List.length hdr
                simp at this; omega
              rw [hdr] at hr
              have hf := fin (fun e he => by rw [List.getElem?_eq_none hk] at he; cases he)
              rcases hr.wait with ⟨_, rfl⟩ | ⟨a2, pre2, rfl, g5, g6, g7⟩
              · simp [lk_cons, hr0]
                simpa using hf
              · simp [lk_cons, hr0]
                simpa using hf
            | cons e1 rest =>
              rw [hdr] at hr
              rcases hr.wait with ⟨hc, _⟩ | ⟨a2, pre2, rfl, g5, g6, g7⟩
              · cases hc
              · have gc1 := (cellsEs_get (P := P) (ents := e1 :: rest) (j := 0) (e := e1) rfl).2.2
                have gp1 := pre_get pre2 (cellsEs P (e1 :: rest)) 2
                rw [show 0 * 3 + 2 = 2 from rfl] at gc1
                rw [gc1] at gp1
                have hn1 := hr.num 0 e1 rfl
                have gs1 := hr.said e1 (by simp)
                obtain ⟨c, hc⟩ : ∃ c, sure + k = c := ⟨_, rfl⟩
                have hcast : (sure : Int) + (k : Int) = (c : Int) := by omega
                rw [hc] at hr hn1
                simp only [Nat.add_zero] at hn1
                have hklt : k < es.length := by
                  have := congrArg List.length hdr
                  simp at this; omega
                have hek : es[k]? = some e1 := by
                  have := congrArg (fun l => l[0]?) hdr
                  simpa using this
                simp [lk_cons, hr0, hcast, g5, gp1]
                refine qenough P W A c e1.s e1.bs hq gs1.2.1 (by omega) _ gs1.1 (hr.lt _ gs1.2.2.1) _ ?_
                by_cases hen1 : A ≤ cnt e1.bs (setP P W c)
                · have hdn := hr.done e1 (by simp)
                  have ld : (cellsEs P (e1 :: rest)).take 2 = [u64 c, e1.d] := by
                    simp [cellsEs, cellsE, hn1]
                  obtain ⟨c1, hc1⟩ : ∃ c1, c + 1 = c1 := ⟨_, rfl⟩
                  have wc : IntKind.u64.wrap ((c : Int) + 1) = (c1 : Int) := by rw [IntWalk.u64_in] <;> omega
                  have lb : 2 ≤ 3 * (rest.length + 1) := by omega
                  have n1 := hr.lt w hr.wfp
                  have n2 := h.lt w h.wfp
                  have n3 := h.lt a2 g6.1
                  have n4 := hke.1
                  have f1 : ¬ w = σ'.next := by omega
                  have f2 : ¬ w = σ'.next + 1 := by omega
                  have f3 : ¬ a2 = σ'.next := by omega
                  have f4 : ¬ a2 = σ'.next + 1 := by omega
                  have f5 : ¬ w = a2 := fun e => g6.2 e.symm
                  have b1 : (1 : Int) ≤ (rest.length : Int) + 1 := by omega
                  have hdr1 : es.drop (k + 1) = rest := by rw [← List.drop_drop, hdr]; rfl
                  have hen2 : ∀ (i : Nat) (x : WEnt), i < k + 1 → es[i]? = some x → enoughE P W A x = true := fun i x hi hx => by
                    by_cases hik : i < k
                    · exact hen i x hik hx
                    · have : i = k := by omega
                      subst this
                      rw [hek] at hx; cases hx
                      simp [enoughE, hn1, hen1]
                  have hit : itemsC (es.take (k + 1)) = itemsC (es.take k) ++ [u64 c, e1.d] := by
                    rw [List.take_add_one, hek, itemsC_append]; simp [itemsC, hn1]
                  have hcc : sure + (k + 1) = c + 1 := by omega
                  rcases ho with ⟨hk0, rfl⟩ | ⟨o, rfl, o1, o2, o3⟩
                  · simp [lk_cons, f1, f2, f3, f4, f5, g6.2, b1, asliceSl, bnd, optM, hen1, hr0, g5, ld, lb, hdn.1, hdn.2, hcast, wc, fillL, storeL, repL, srcL]
                    refine ⟨es.length - (k + 1), by omega, k + 1, .sl a2 (pre2.length + 3) rest.length rest.length false, .sl (σ'.next + 1) 0 1 1 false, rfl, by omega, ?_, ⟨by simp; omega, fun x hx hf => ?_⟩, hen2, rfl, .inr ⟨σ'.next + 1, by rw [hk0], by omega, by simp, ?_⟩⟩
                    · rw [hdr1, hcc]
                      refine hr.pop g5 g6 g7 (by simp [hc1]) (fun x hx hxw => ?_) (by simp; omega)
                      have := hr.lt x hx
                      simp [hxw, show ¬ x = σ'.next by omega, show ¬ x = σ'.next + 1 by omega]
                    · have hxw : ¬ x = w := fun e => hf (e ▸ h.wfp)
                      simp [hxw, show ¬ x = σ'.next by omega, show ¬ x = σ'.next + 1 by omega]
                      exact hke.2 x hx hf
                    · simp [Ne.symm f2]
                      rw [hit, hk0]; rfl
                  · have f6 : ¬ w = o := by omega
                    have f7 : ¬ a2 = o := by omega
                    have f8 : ¬ o = σ'.next := by omega
                    have f9 : ¬ o = σ'.next + 1 := by omega
                    have d1 : ¬ k + 1 ≤ k := by omega
                    have d2 : (k + 1) * 32 ≤ 140737488355328 ∧ k ≤ 9223372036854775806 := by omega
                    have d3 : k * 2 ≤ 2 * min k es.length := by omega
                    simp [lk_cons, f1, f2, f3, f4, f5, f6, f7, f8, f9, o3, d1, d2, d3, g6.2, b1, asliceSl, bnd, optM, hen1, hr0, g5, ld, lb, hdn.1, hdn.2, hcast, wc, fillL, storeL, repL, srcL]
                    refine ⟨es.length - (k + 1), by omega, k + 1, .sl a2 (pre2.length + 3) rest.length rest.length false, .sl (σ'.next + 1) 0 (k + 1) (k + 1) false, rfl, by omega, ?_, ⟨by simp; omega, fun x hx hf => ?_⟩, hen2, rfl, .inr ⟨σ'.next + 1, rfl, by omega, by simp, ?_⟩⟩
                    · rw [hdr1, hcc]
                      refine hr.pop g5 g6 g7 (by simp [hc1]) (fun x hx hxw => ?_) (by simp; omega)
                      have := hr.lt x hx
                      have := h.lt x hx
                      simp [hxw, show ¬ x = σ'.next by omega, show ¬ x = σ'.next + 1 by omega, show ¬ x = o by omega]
                    · have hxw : ¬ x = w := fun e => hf (e ▸ h.wfp)
                      simp [hxw, show ¬ x = σ'.next by omega, show ¬ x = σ'.next + 1 by omega, show ¬ x = o by omega]
                      exact hke.2 x hx hf
                    · simp [Ne.symm f2]
                      rw [hit, List.take_of_length_le (by simp; omega)]
                · simp [lk_cons, hen1]
                  simpa using fin (fun e he => by rw [hek] at he; cases he; simp [enoughE, hn1, hen1])
      · have hd : decide (∃ y ∈ setP P W n, (y : Int) = place) = false := by simpa using h3
        rw [hd]
        simp [lk_cons, hh]
        exact (q1 (.inr (.inr h3)))
end Go.Proofs.Ytkfofdeceicfkaa.AM

namespace Go.Proofs.Ytkfofdeceicfkaa.AM
set_option maxRecDepth 100000
set_option linter.unusedVariables false
set_option linter.unusedSimpArgs false

def hasE (P W : Nat) (place : Int) (e : WEnt) : Bool := decide (∃ y ∈ setP P W e.n, (y : Int) = place)
def replE (P W : Nat) (place : Int) (e : WEnt) : WEnt := if hasE P W place e then setSaid place.toNat false e else e
def replL (P W : Nat) (place : Int) (i : Nat) (ents : List WEnt) : List WEnt := (ents.take i).map (replE P W place) ++ ents.drop i
def uv (l : List Nat) : List AVal := l.map fun (x : Nat) => u64 (x : Int)
def replN (P W : Nat) (place : Int) (ents : List WEnt) : List Nat := (ents.filter (hasE P W place)).map (·.n)

theorem modify_append {α : Type} (f : α → α) (b : List α) : ∀ (a : List α), (a ++ b).modify a.length f = a ++ b.modify 0 f
  | [] => rfl
  | x :: a => by simp only [List.cons_append, List.length_cons, List.modify_succ_cons, modify_append f b a]

theorem replL_step (P W : Nat) (place : Int) (ents : List WEnt) (i : Nat) (e : WEnt) (h : ents[i]? = some e) : replL P W place (i + 1) ents = if hasE P W place e then (replL P W place i ents).modify i (setSaid place.toNat false) else replL P W place i ents := by
  have hi := (List.getElem?_eq_some_iff.1 h).1
  have he : ents.drop i = e :: ents.drop (i + 1) := by
    rw [List.drop_eq_getElem_cons hi]; congr 1; exact (List.getElem?_eq_some_iff.1 h).2
  have hl : ((ents.take i).map (replE P W place)).length = i := by simp; omega
  unfold replL
  rw [List.take_add_one, h, List.map_append, he]
  by_cases hh : hasE P W place e = true
  · have hm := modify_append (setSaid place.toNat false) (e :: ents.drop (i + 1)) ((ents.take i).map (replE P W place))
    rw [hl] at hm
    rw [if_pos hh, hm]
    simp [replE, hh]
  · rw [if_neg hh]
    simp [replE, hh]

theorem replL_get (P W : Nat) (place : Int) (ents : List WEnt) (i : Nat) : (replL P W place i ents)[i]? = ents[i]? := by
  by_cases hi : i ≤ ents.length
  · have hl : ((ents.take i).map (replE P W place)).length = i := by simp; omega
    unfold replL
    rw [List.getElem?_append_right (by omega), hl, Nat.sub_self, List.getElem?_drop]; simp
  · rw [List.getElem?_eq_none (by simp [replL]; omega), List.getElem?_eq_none (by omega)]

theorem replL_len (P W : Nat) (place : Int) (i : Nat) (ents : List WEnt) : (replL P W place i ents).length = ents.length := by
  simp [replL]; omega
theorem replL_end (P W : Nat) (place : Int) (ents : List WEnt) : replL P W place ents.length ents = ents.map (replE P W place) := by simp [replL]
theorem replN_snoc (P W : Nat) (place : Int) (ents : List WEnt) (i : Nat) (e : WEnt) (h : ents[i]? = some e) : replN P W place (ents.take (i + 1)) = replN P W place (ents.take i) ++ if hasE P W place e then [e.n] else [] := by
  rw [List.take_add_one, h]
  simp only [replN, List.filter_append, List.map_append]
  congr 1
  cases hh : hasE P W place e <;> simp [hh]
theorem replN_le (P W : Nat) (place : Int) (ents : List WEnt) : (replN P W place ents).length ≤ ents.length := by
  simp only [replN, List.length_map]; exact List.length_filter_le _ _

def ReplJ (w : Nat) (fp : Nat → Prop) (P W A sure : Nat) (place : Int) (ents : List WEnt) (closed : Bool) (wv : AVal) (σ0 : St) (m : Nat) (r : Regs) (σ' : St) : Prop := ∃ (i : Nat) (ov : AVal), m = ents.length - i ∧ i ≤ ents.length ∧ WRep σ' w fp P W A sure (replL P W place i ents) closed wv ∧ Keeps fp σ0 σ' ∧
  r = [(0, .ptr w 0), (1, i64 place), (5, ov), (13, wv), (14, i64 ents.length), (15, i64 i)] ∧
  (replN P W place (ents.take i) = [] ∧ ov = .nilsl ∨ ∃ o k, ov = .sl o 0 k k false ∧ k = (replN P W place (ents.take i)).length ∧ 0 < k ∧ σ0.next ≤ o ∧ o < σ'.next ∧ σ'.mem.get o = some (.cells 1 (uv (replN P W place (ents.take i)))))
end Go.Proofs.Ytkfofdeceicfkaa.AM

namespace Go.Proofs.Ytkfofdeceicfkaa.AM
set_option maxRecDepth 100000
set_option linter.unusedVariables false
set_option linter.unusedSimpArgs false

theorem cellsEs_take {P : Nat} : ∀ {ents : List WEnt} {j : Nat} {e : WEnt}, ents[j]? = some e → ((cellsEs P ents).drop (j * 3)).take 3 = [u64 e.n, e.d, .sl e.s 0 P P true]
  | [], j, e, h => by simp at h
  | x :: es, 0, e, h => by simp at h; subst h; simp [cellsEs, cellsE]
  | x :: es, j + 1, e, h => by
    have := cellsEs_take (P := P) (ents := es) (j := j) (e := e) (by simpa using h)
    have e1 : (j + 1) * 3 = j * 3 + 1 + 1 + 1 := by omega
    simpa [cellsEs, cellsE, e1] using this

theorem replace_c {σ : St} {w : Nat} {fp : Nat → Prop} {P W A sure : Nat} {ents : List WEnt} {closed : Bool} {wv : AVal} (h : WRep σ w fp P W A sure ents closed wv) (hq : 1 ≤ A ∧ A ≤ W ∧ W ≤ P ∧ P ≤ 7) (hs : sure + ents.length ≤ 1000000) (place : Int) (Q : AVal → St → Prop)
    (q : ∀ (σ' : St) (v : AVal), WRep σ' w fp P W A sure (ents.map (replE P W place)) closed wv → Keeps fp σ σ' → (replN P W place ents = [] ∧ v = .nilsl ∨ ∃ t, v = .isl (uv (replN P W place ents)) (replN P W place ents).length t) → Q v σ') :
    ACall Try.prog 20 [.ptr w 0, i64 place] σ Q := by
  refine ACall.freeze1 ?_
  refine ACall.of_compF hmx (fun a w => Try.call20 a w) Try.func20 cf20 (n := 2) (by decide) rfl ?_
  have hh := h.head
  have hwl : ∀ ρ, evalV ρ (.len 1 wv) = some (i64 ents.length, ρ) := wv_len h.wait
  simp [ac20, rs20, lk_cons, hh, ↓hwl]
  refine wp_loop (ReplJ w fp P W A sure place ents closed wv σ) ents.length ?_ ?_
  · exact ⟨0, .nilsl, rfl, by omega, by simpa [replL] using h, ⟨Nat.le_refl _, fun _ _ _ => rfl⟩, rfl, .inl ⟨rfl, rfl⟩⟩
  · rintro m r σ' ⟨i, ov, rfl, hi, hr, hke, rfl, ho⟩
    by_cases hlt : i < ents.length
    · obtain ⟨e, he⟩ : ∃ e, ents[i]? = some e := ⟨_, List.getElem?_eq_getElem hlt⟩
      have he2 : (replL P W place i ents)[i]? = some e := by rw [replL_get]; exact he
      have hlen := replL_len P W place i ents
      have gs := hr.said e (List.mem_of_getElem? he2)
      have hdn := hr.done e (List.mem_of_getElem? he2)
      have hn := hr.num i e he2
      have hr0 := hr.head
      have n1 := hr.lt w hr.wfp
      have n2 := hr.lt _ gs.2.2.1
      obtain ⟨k1, hk1⟩ : ∃ k, i + 1 = k := ⟨_, rfl⟩
      have hw : IntKind.i64.wrap ((i : Int) + 1) = (k1 : Int) := by rw [IntWalk.i64_in] <;> omega
      rcases hr.wait with ⟨hc, _⟩ | ⟨a, pre, rfl, g5, g6, g7⟩
      · rw [hc] at hlen; simp at hlen; omega
      · rw [hlen] at hr
        have gc := cellsEs_get (P := P) he2
        have f1 : ¬ w = σ'.next := by omega
        have f2 : ¬ e.s = σ'.next := by omega
        have ld := cellsEs_take (P := P) he2
        have lb : pre.length + i * 3 + 3 ≤ pre.length + 3 * ents.length := by omega
        simp [lk_cons, hlt, hlen, g5, ld, lb, hdn.1, hdn.2, storeL, hr0, f1]
        refine qset P W A e.n hq (by omega) _ _ ?_
        simp [lk_cons]
        have hc := contains_c (setP P W e.n) false place (by rw [setP_len]; omega)
        rw [setP_len] at hc
        refine hc _ _ ?_
        have hrl := replL_step P W place ents i e he
        have hrn := replN_snoc P W place ents i e he
        rw [hk1] at hrl hrn
        have hnl := replN_le P W place (ents.take i)
        simp only [List.length_take] at hnl
        by_cases hhas : hasE P W place e = true
        · rw [if_pos hhas] at hrl hrn
          obtain ⟨p, hp, rfl⟩ : ∃ y ∈ setP P W e.n, (y : Int) = place := by simpa [hasE] using hhas
          have hd : decide (∃ y ∈ setP P W e.n, (y : Int) = (p : Int)) = true := hhas
          have hpP : p < P := setP_lt (by omega) hp
          rw [hd]
          rw [Int.toNat_natCast] at hrl
          have gf := hr.hear he2 p false
          have n4 := hke.1
          have f3 : ¬ e.s = σ'.next + 1 := by omega
          have f4 : ¬ e.s = σ'.next + 2 := by omega
          have hpl : p + 1 ≤ e.bs.length := by omega
          have f2' := Ne.symm f2
          have f3' := Ne.symm f3
          have z1 : ¬ σ'.next = σ'.next + 1 := by omega
          rcases ho with ⟨ho1, rfl⟩ | ⟨o, k, rfl, hk, k0, o1, o2, o3⟩
          · simp [lk_cons, hw, f2, f3, f2', f3', z1, hpP, gs.1, hpl, storeL, bv_set, fillL, repL, srcL]
            refine ⟨ents.length - k1, by omega, k1, .sl (σ'.next + 1 + 1) 0 1 1 false, rfl, by omega, ?_, ⟨by simp; omega, fun x hx hf => ?_⟩, rfl, .inr ⟨σ'.next + 1 + 1, 1, rfl, by rw [hrn]; simp [ho1], by omega, by omega, by simp, ?_⟩⟩
            · rw [hrl]
              refine gf.frame ?_ ?_
              rotate_left
              · show σ'.next ≤ σ'.next + 1 + 1 + 1
                omega
              intro x hx
              have := hr.lt x hx
              simp [show ¬ x = σ'.next by omega, show ¬ x = σ'.next + 1 by omega, show ¬ x = σ'.next + 1 + 1 by omega, show ¬ x = σ'.next + 2 by omega]
            · have hxe : ¬ x = e.s := fun ee => hf (ee ▸ gs.2.2.1)
              simp [hxe, show ¬ x = σ'.next by omega, show ¬ x = σ'.next + 1 by omega, show ¬ x = σ'.next + 1 + 1 by omega, show ¬ x = σ'.next + 2 by omega]
              exact hke.2 x hx hf
            · simp
              rw [hrn, ho1]; rfl
          · have d1 : ¬ k + 1 ≤ k := by omega
            have d2 : (k + 1) * 8 ≤ 140737488355328 ∧ k ≤ 9223372036854775806 := by omega
            have f5 : ¬ o = σ'.next := by omega
            have f6 : ¬ o = σ'.next + 1 := by omega
            have f7 : ¬ o = e.s := by have := h.lt _ gs.2.2.1; omega
            have ul : (uv (replN P W p (ents.take i))).length = k := by simp [uv, hk]
            simp [lk_cons, hw, f2, f3, f2', f3', z1, Ne.symm f5, f5, f6, f7, o3, d1, d2, ul, hpP, gs.1, hpl, storeL, bv_set, fillL, repL, srcL]
            refine ⟨ents.length - k1, by omega, k1, .sl (σ'.next + 1 + 1) 0 (k + 1) (k + 1) false, rfl, by omega, ?_, ⟨by simp; omega, fun x hx hf => ?_⟩, rfl, .inr ⟨σ'.next + 1 + 1, k + 1, rfl, by rw [hrn]; simp [hk], by omega, by omega, by simp, ?_⟩⟩
            · rw [hrl]
              refine gf.frame ?_ ?_
              rotate_left
              · show σ'.next ≤ σ'.next + 1 + 1 + 1
                omega
              intro x hx
              have := hr.lt x hx
              have := h.lt x hx
              simp [show ¬ x = o by omega, show ¬ x = σ'.next by omega, show ¬ x = σ'.next + 1 by omega, show ¬ x = σ'.next + 1 + 1 by omega, show ¬ x = σ'.next + 2 by omega]
            · have hxe : ¬ x = e.s := fun ee => hf (ee ▸ gs.2.2.1)
              simp [hxe, show ¬ x = o by omega, show ¬ x = σ'.next by omega, show ¬ x = σ'.next + 1 by omega, show ¬ x = σ'.next + 1 + 1 by omega, show ¬ x = σ'.next + 2 by omega]
              exact hke.2 x hx hf
            · simp
              rw [hrn, List.take_of_length_le (by omega)]
              simp [uv]
        · rw [if_neg hhas] at hrl hrn
          have hd : decide (∃ y ∈ setP P W e.n, (y : Int) = place) = false := by simpa [hasE] using hhas
          rw [hd]
          simp [lk_cons, hw]
          rw [List.append_nil] at hrn
          refine ⟨ents.length - k1, by omega, k1, ov, rfl, by omega, ?_, ⟨by have := hke.1; show σ.next ≤ σ'.next + 1; omega, fun x hx hf => ?_⟩, rfl, ?_⟩
          · rw [hrl]
            refine hr.frame ?_ ?_
            rotate_left
            · show σ'.next ≤ σ'.next + 1
              omega
            intro x hx
            have := hr.lt x hx
            simp [show ¬ x = σ'.next by omega]
          · have := hke.1
            simp [show ¬ x = σ'.next by omega]
            exact hke.2 x hx hf
          · rw [hrn]
            rcases ho with ho | ⟨o, k, rfl, hk, k0, o1, o2, o3⟩
            · exact .inl ho
            · exact .inr ⟨o, k, rfl, hk, k0, o1, by simp; omega, by simp [show ¬ o = σ'.next by omega, o3]⟩
    · have : i = ents.length := by omega
      subst this
      rw [replL_end] at hr
      rw [List.take_length] at ho
      simp [lk_cons]
      rcases ho with ⟨h1, rfl⟩ | ⟨o, k, rfl, hk, k0, o1, o2, o3⟩
      · exact .inl (q σ' _ hr hke (.inl ⟨h1, rfl⟩))
      · right
        have ul : (uv (replN P W place ents)).length = k := by simp [uv, hk]
        have hq' := q ⟨σ'.mem.del o, σ'.next⟩ (.isl (uv (replN P W place ents)) k false) (hr.frame (fun a ha => by have := h.lt a ha; simp [show ¬ a = o by omega]) (Nat.le_refl _)) ⟨hke.1, fun a ha hf => by simp [show ¬ a = o by omega]; exact hke.2 a ha hf⟩ (.inr ⟨false, by rw [hk]⟩)
        exact ⟨o, 0, k, k, .inl ⟨rfl, 1, _, o3, o1, by omega, by rw [List.drop_zero, List.take_of_length_le (by omega)]; exact hq'⟩⟩
end Go.Proofs.Ytkfofdeceicfkaa.AM

namespace Go.Proofs.Ytkfofdeceicfkaa.AM
set_option maxRecDepth 100000
set_option linter.unusedVariables false
set_option linter.unusedSimpArgs false

/-- Data la a writer keeps them. -/
def DV (d : AVal) : Prop := d = .nilsl ∨ ∃ cs k t, d = .isl cs k t ∧ cs.length = k ∧ k ≤ 140737488355328 ∧ uptoL 0 cs = true
def cloneV : AVal → AVal
  | .isl cs k _ => .isl cs k (decide (k = 0))
  | v => v
@[simp] theorem cloneV_nil : cloneV .nilsl = .nilsl := Eq.trans rfl rfl
@[simp] theorem cloneV_isl (cs : List AVal) (k : Nat) (t : Bool) : cloneV (.isl cs k t) = .isl cs k (decide (k = 0)) := Eq.trans rfl rfl


theorem clone_dv (d : AVal) (hd : DV d) (σ : St) (Q : AVal → St → Prop) (h : Q (cloneV d) σ) : ACall Try.prog 25 [d] σ Q := by
  rcases hd with rfl | ⟨cs, k, t, rfl, hl, hk, hu0⟩
  · exact clone_nil σ Q h
  · simp at h
    have hu := AVal.uptoL_mono (Nat.zero_le σ.next) cs hu0
    refine ACall.freeze ?_
    refine ACall.of_compF hmx (fun a w => Try.call25 a w) Try.func25 cf25 (n := 1) (by decide) rfl ?_
    by_cases h0 : k = 0
    · subst h0
      have : cs = [] := List.eq_nil_of_length_eq_zero hl
      subst this
      simp [ac25, rs25, lk_cons, fillL, repL, srcL, storeL]
      exact ⟨fun a ha => by simp [show ¬ a = σ.next by omega], _, frz_sl (es := 1) (vals := []) (Nat.le_refl _) (by simp) (by simp) rfl, by simpa using h⟩
    · have g1 : k ≤ 9223372036854775807 := by omega
      simp [h0] at h
      simp [ac25, rs25, lk_cons, fillL, repL, srcL, hl, h0, hk, g1]
      exact ⟨fun a ha => by simp [show ¬ a = σ.next by omega, show ¬ a = σ.next + 1 by omega], _, frz_sl (es := 1) (vals := cs) (by omega) (by simp) (by omega) hu, by
        rw [List.drop_zero, List.take_of_length_le (by omega)]; exact h⟩

/-- The places that have not said so. -/
def unsaid (P W : Nat) (e : WEnt) : List Nat := (setP P W e.n).filter fun p => !(e.bs.getD p false)
def cloneE (e : WEnt) : WEnt := { e with d := cloneV e.d }


def toA (P W : Nat) (e : WEnt) : AVal := if unsaid P W e = [] then .nilsl else .isl (iv (unsaid P W e)) (unsaid P W e).length false

/-- A list of places that is being told; neither x nor y is its block. -/
def ListV (mem : Mem) (lo hi x y : Nat) (l : List Nat) (v : AVal) : Prop :=
  (l = [] ∧ v = .nilsl) ∨ ∃ o k, v = .sl o 0 k k false ∧ k = l.length ∧ 0 < k ∧ lo ≤ o ∧ o < hi ∧ o ≠ x ∧ o ≠ y ∧ mem.get o = some (.cells 1 (iv l))

theorem ListV.one {mem : Mem} {lo hi x y : Nat} {l : List Nat} {v : AVal} (h : ListV mem lo hi x y l v) : v.one = true ∧ cellsOf v = [v] := by
  rcases h with ⟨_, rfl⟩ | ⟨o, k, rfl, _⟩ <;> simp

theorem ListV.move {mem mem' : Mem} {lo hi x y lo' hi' x' y' : Nat} {l : List Nat} {v : AVal} (h : ListV mem lo hi x y l v) (hlo : lo' ≤ lo) (hhi : hi ≤ hi') (hk : ∀ a, lo ≤ a → a < hi → a ≠ x → a ≠ y → mem'.get a = mem.get a ∧ a ≠ x' ∧ a ≠ y') : ListV mem' lo' hi' x' y' l v := by
  rcases h with h | ⟨o, k, h1, h2, h3, h4, h5, h6, h7, h8⟩
  · exact .inl h
  · have g := hk o h4 h5 h6 h7
    exact .inr ⟨o, k, h1, h2, h3, by omega, by omega, g.2.1, g.2.2, g.1.trans h8⟩

theorem ListV.frz {mem : Mem} {lo hi x y : Nat} {P W : Nat} {e : WEnt} {v : AVal} (h : ListV mem lo hi x y (unsaid P W e) v) : frzD lo mem 1 v = some (toA P W e) := by
  rcases h with ⟨h1, rfl⟩ | ⟨o, k, rfl, hk, k0, h1, _, _, _, h2⟩
  · rw [toA, if_pos h1]; rfl
  · have hne : ¬ unsaid P W e = [] := by intro he; rw [he] at hk; simp at hk; omega
    rw [toA, if_neg hne]
    have hl : (iv (unsaid P W e)).length = k := by simp [iv, hk]
    simp only [frzD]
    rw [if_neg (by omega), h2]
    simp only
    rw [if_pos (by omega), List.drop_zero, List.take_of_length_le (by omega), listM_id (fun x hx => ?_)]
    · simp [hk]
    · obtain ⟨n, _, rfl⟩ := List.mem_map.1 hx
      rfl

def WaitJ2 (σ1 : St) (w : Nat) (ov tv : AVal) (b : Nat) (wv : AVal) (len i : Nat) (l : List Nat) (W : Nat) (bs : List Bool) (m : Nat) (r : Regs) (σ' : St) : Prop := ∃ (j : Nat) (lv : AVal), m = W - j ∧ j ≤ W ∧
  r = [(0, .ptr w 0), (4, ov), (5, tv), (7, .ptr b 0), (8, lv), (16, wv), (17, i64 len), (18, i64 i), (29, .isl (iv l) W false), (30, i64 W), (31, i64 j)] ∧ σ1.next ≤ σ'.next ∧ (∀ a, a < σ1.next → σ'.mem.get a = σ1.mem.get a) ∧
  ListV σ'.mem σ1.next σ'.next 0 0 ((l.take j).filter fun p => !(bs.getD p false)) lv

def WaitJ (w : Nat) (P W A sure : Nat) (ents : List WEnt) (closed : Bool) (wv : AVal) (σ0 : St) (m : Nat) (r : Regs) (σ' : St) : Prop := ∃ (i : Nat) (ov tv : AVal), m = ents.length - i ∧ i ≤ ents.length ∧ σ0.next ≤ σ'.next ∧ (∀ a, a < σ0.next → σ'.mem.get a = σ0.mem.get a) ∧
  r = [(0, .ptr w 0), (4, ov), (5, tv), (16, wv), (17, i64 ents.length), (18, i64 i)] ∧
  (i = 0 ∧ ov = .nilsl ∧ tv = .nilsl ∨ ∃ o t ts, ov = .sl o 0 i i false ∧ tv = .sl t 0 i i false ∧ 0 < i ∧ σ0.next ≤ o ∧ o < σ'.next ∧ σ0.next ≤ t ∧ t < σ'.next ∧ o ≠ t ∧
    σ'.mem.get o = some (.cells 2 (itemsC ((ents.take i).map cloneE))) ∧ σ'.mem.get t = some (.cells 1 ts) ∧ All2 (fun e v => ListV σ'.mem σ0.next σ'.next o t (unsaid P W e) v) (ents.take i) ts)

theorem DV.one {d : AVal} (h : DV d) : (cloneV d).one = true ∧ cellsOf (cloneV d) = [cloneV d] ∧ (cloneV d).upto 0 = true ∧ (d.one = true ∧ cellsOf d = [d]) := by
  rcases h with rfl | ⟨cs, k, t, rfl, _, _, hu⟩
  · simp
  · simp [hu]

theorem items_frz (lo : Nat) (mem : Mem) : ∀ (ents : List WEnt), (∀ e ∈ ents, DV e.d) → ∀ x ∈ itemsC (ents.map cloneE), frzD lo mem 1 x = some x
  | [], _, x, hx => by simp [itemsC] at hx
  | e :: es, h, x, hx => by
    simp only [List.map_cons, itemsC, List.mem_append, List.mem_cons, List.not_mem_nil, or_false] at hx
    rcases hx with (rfl | rfl) | hx
    · rfl
    · have hd := h e (by simp)
      show frzD lo mem 1 (cloneV e.d) = some (cloneV e.d)
      rcases hd with h1 | ⟨cs, k, t, h1, _, _, hu⟩
      · rw [h1]; rfl
      · rw [h1]
        have := AVal.uptoL_mono (Nat.zero_le lo) cs hu
        simp [frzD, this]
    · exact items_frz lo mem es (fun y hy => h y (by simp [hy])) x hx

theorem waiting_c {σ : St} {w : Nat} {fp : Nat → Prop} {P W A sure : Nat} {ents : List WEnt} {closed : Bool} {wv : AVal} (h : WRep σ w fp P W A sure ents closed wv) (hq : 1 ≤ A ∧ A ≤ W ∧ W ≤ P ∧ P ≤ 7) (hs : sure + ents.length ≤ 1000000) (hd : ∀ e ∈ ents, DV e.d) (Q : AVal → St → Prop)
    (q1 : ents = [] → Q (.tup [.nilsl, .nilsl]) σ) (q2 : ents ≠ [] → Q (.tup [.isl (itemsC (ents.map cloneE)) ents.length false, .isl (ents.map (toA P W)) ents.length false]) σ) :
    ACall Try.prog 19 [.ptr w 0] σ Q := by
  refine ACall.freezeD 3 ?_
  refine ACall.of_compF hmx (fun a w => Try.call19 a w) Try.func19 cf19 (n := 1) (by decide) rfl ?_
  have hh := h.head
  have hwl : ∀ ρ, evalV ρ (.len 1 wv) = some (i64 ents.length, ρ) := wv_len h.wait
  simp [ac19, rs19, lk_cons, hh, ↓hwl]
  refine wp_loop (WaitJ w P W A sure ents closed wv σ) ents.length ?_ ?_
  · exact ⟨0, .nilsl, .nilsl, rfl, by omega, Nat.le_refl _, fun _ _ => rfl, rfl, .inl ⟨rfl, rfl, rfl⟩⟩
  · rintro m r σ' ⟨i, ov, tv, rfl, hi, hnx, hkp, rfl, ho⟩
    by_cases hlt : i < ents.length
    · obtain ⟨e, he⟩ : ∃ e, ents[i]? = some e := ⟨_, List.getElem?_eq_getElem hlt⟩
      have hme := List.mem_of_getElem? he
      have gs := h.said e hme
      have hn := h.num i e he
      have dv := hd e hme
      have hdn := dv.one
      have n1 := h.lt w h.wfp
      have n2 := h.lt _ gs.2.2.1
      have hr0 : σ'.mem.get w = _ := (hkp w n1).trans hh
      have hr1 : σ'.mem.get e.s = _ := (hkp _ n2).trans gs.1
      obtain ⟨k1, hk1⟩ : ∃ k, i + 1 = k := ⟨_, rfl⟩
      have hw : IntKind.i64.wrap ((i : Int) + 1) = (k1 : Int) := by rw [IntWalk.i64_in] <;> omega
      rcases h.wait with ⟨hc, _⟩ | ⟨a, pre, rfl, g5, g6, g7⟩
      · rw [hc] at hlt; simp at hlt
      · have n3 := h.lt _ g6.1
        have hr2 : σ'.mem.get a = _ := (hkp _ n3).trans g5
        have f1 : ¬ w = σ'.next := by omega
        have f2 : ¬ e.s = σ'.next := by omega
        have ld := cellsEs_take (P := P) he
        have lb : pre.length + i * 3 + 3 ≤ pre.length + 3 * ents.length := by omega
        simp [lk_cons, hlt, hr2, ld, lb, hdn.2.2.2.1, hdn.2.2.2.2, storeL, hr0, f1]
        refine qset P W A e.n hq (by omega) _ _ ?_
        simp [lk_cons]
        have hsl := setP_len P W e.n
        have hslt : ∀ p ∈ setP P W e.n, p < P := fun p hp => setP_lt (by omega) hp
        obtain ⟨l, hl⟩ : ∃ l, setP P W e.n = l := ⟨_, rfl⟩
        rw [hl] at hsl hslt
        rw [hl]
        obtain ⟨σ1, hσ1⟩ : ∃ σ1 : St, σ1 = ⟨(σ'.mem.set σ'.next (.cells 3 [.int .u64 0, .nilsl, .nilsl])).set σ'.next (.cells 3 [.int .u64 e.n, e.d, .sl e.s 0 P P true]), σ'.next + 1⟩ := ⟨_, rfl⟩
        have x1 : σ1.next = σ'.next + 1 := by rw [hσ1]
        have x2 : ∀ a, a < σ'.next → σ1.mem.get a = σ'.mem.get a := fun a ha => by rw [hσ1]; simp [show ¬ a = σ'.next by omega]
        have x3 : σ1.mem.get σ'.next = some (.cells 3 [.int .u64 e.n, e.d, .sl e.s 0 P P true]) := by rw [hσ1]; simp
        rw [← hσ1]
        clear hσ1
        refine wp_loop (WaitJ2 σ1 w ov tv σ'.next (.sl a pre.length ents.length ents.length false) ents.length i l W e.bs) W ?_ ?_
        · exact ⟨0, .nilsl, rfl, by omega, rfl, Nat.le_refl _, fun _ _ => rfl, .inl ⟨rfl, rfl⟩⟩
        · rintro m r σ2 ⟨j, lv, rfl, hj, rfl, y1, y2, hlv⟩
          have z1 : σ2.mem.get σ'.next = _ := (y2 _ (by omega)).trans x3
          have z2 : σ2.mem.get e.s = _ := (y2 _ (by omega)).trans ((x2 _ (by omega)).trans hr1)
          have hmono : ∀ a, a < σ'.next → σ2.mem.get a = σ'.mem.get a := fun a ha => (y2 a (by omega)).trans (x2 a ha)
          by_cases hjw : j < W
          · obtain ⟨p, hp⟩ : ∃ p, l[j]? = some p := ⟨_, List.getElem?_eq_getElem (by omega)⟩
            have hpP := hslt p (List.mem_of_getElem? hp)
            have hpl : (iv l)[j]? = some (i64 p) := by simp [iv, hp]
            have hb := bv_get e.bs p (by omega)
            obtain ⟨j1, hj1⟩ : ∃ k, j + 1 = k := ⟨_, rfl⟩
            have hwj : IntKind.i64.wrap ((j : Int) + 1) = (j1 : Int) := by rw [IntWalk.i64_in] <;> omega
            have hfl : (l.take j1).filter (fun p => !(e.bs.getD p false)) = (l.take j).filter (fun p => !(e.bs.getD p false)) ++ if e.bs.getD p false then [] else [p] := by
              rw [← hj1, List.take_add_one, hp, List.filter_append]
              congr 1
              rw [show (some p).toList = [p] from rfl, List.filter_cons]
              cases e.bs.getD p false <;> rfl
            obtain ⟨fl, hfl2⟩ : ∃ fl, (l.take j).filter (fun p => !(e.bs.getD p false)) = fl := ⟨_, rfl⟩
            have hlen : fl.length ≤ j := by rw [← hfl2]; exact Nat.le_trans (List.length_filter_le _ _) (by simp; omega)
            rw [hfl2] at hfl hlv
            cases hbp : e.bs.getD p false with
            | true =>
              rw [hbp] at hb hfl
              simp only [if_true, List.append_nil] at hfl
              simp [lk_cons, hjw, hpl, z1, z2, hpP, hb, hwj]
              exact ⟨W - j1, by omega, j1, lv, rfl, by omega, rfl, y1, y2, by rw [hfl]; exact hlv⟩
            | false =>
              rw [hbp] at hb hfl
              simp only [Bool.false_eq_true, if_false] at hfl
              rcases hlv with ⟨h1, rfl⟩ | ⟨o, k, rfl, hk, k0, o1, o2, _, _, o3⟩
              · simp [lk_cons, hjw, hpl, z1, z2, hpP, hb, hwj, fillL, repL, srcL, storeL]
                refine ⟨W - j1, by omega, j1, _, rfl, by omega, rfl, by simp; omega, fun x hx => ?_, .inr ⟨σ2.next + 1, 1, rfl, by rw [hfl, h1]; rfl, by omega, by omega, by simp, by omega, by omega, ?_⟩⟩
                · simp [show ¬ x = σ2.next by omega, show ¬ x = σ2.next + 1 by omega]
                  exact y2 x hx
                · rw [hfl, h1]; simp [iv]
              · have d1 : ¬ k + 1 ≤ k := by omega
                have d2 : (k + 1) * 8 ≤ 140737488355328 ∧ k ≤ 9223372036854775806 := by omega
                have f5 : ¬ o = σ2.next := by omega
                have f6 : ¬ o = σ2.next + 1 := by omega
                have ul : (iv fl).length = k := by simp [iv, hk]
                simp [lk_cons, hjw, hpl, z1, z2, hpP, hb, hwj, f5, f6, Ne.symm f5, o3, d1, d2, ul, fillL, repL, srcL, storeL]
                refine ⟨W - j1, by omega, j1, _, rfl, by omega, rfl, by simp; omega, fun x hx => ?_, .inr ⟨σ2.next + 1, k + 1, rfl, by rw [hfl]; simp [hk], by omega, by omega, by simp, by omega, by omega, ?_⟩⟩
                · simp [show ¬ x = σ2.next by omega, show ¬ x = σ2.next + 1 by omega, show ¬ x = o by omega]
                  exact y2 x hx
                · rw [hfl]; simp [iv, List.take_of_length_le (show (fl.map fun (x : Nat) => AVal.int .i64 (x : Int)).length ≤ k by simp; omega)]
          · have hjW : j = W := by omega
            subst hjW
            rw [List.take_of_length_le (by omega)] at hlv
            have hun : l.filter (fun p => !(e.bs.getD p false)) = unsaid P j e := by rw [unsaid, hl]
            rw [hun] at hlv
            have hlo := hlv.one
            simp [lk_cons, z1, hlo.1, hlo.2, fillL, repL, srcL, storeL]
            refine clone_dv e.d dv _ _ ?_
            have hte : ents.take k1 = ents.take i ++ [e] := by rw [← hk1, List.take_add_one, he]; rfl
            rcases ho with ⟨i0, rfl, rfl⟩ | ⟨o, t, ts, rfl, rfl, i0, o1, o2, t1, t2, hot, m1, m2, hal⟩
            · have e1 : ¬ σ2.next = σ2.next + 2 := by omega
              have e2 : ¬ σ2.next + 1 = σ2.next + 2 := by omega
              have e3 : ¬ σ2.next = σ2.next + 1 + 1 := by omega
              have e4 : ¬ σ2.next = σ2.next + 1 := by omega
              simp [lk_cons, z1, show ¬ σ'.next = σ2.next by omega, e1, e2, e3, e4, hdn.1, hdn.2.1, fillL, repL, srcL, storeL, hw]
              refine ⟨ents.length - k1, by omega, k1, .sl (σ2.next + 1 + 1) 0 1 1 false, .sl (σ2.next + 1 + 1 + 1) 0 1 1 false, rfl, by omega, by simp; omega, fun x hx => ?_, rfl, .inr ⟨σ2.next + 1 + 1, σ2.next + 1 + 1 + 1, [lv], ?_, ?_, by omega, by omega, by simp, by omega, by simp, by omega, ?_, by simp, ?_⟩⟩
              · have := hmono x (by omega)
                simp [show ¬ x = σ2.next by omega, show ¬ x = σ2.next + 1 by omega, show ¬ x = σ2.next + 1 + 1 by omega, show ¬ x = σ2.next + 2 by omega, show ¬ x = σ2.next + 1 + 1 + 1 by omega, show ¬ x = σ2.next + 3 by omega]
                rw [this]; exact hkp x hx
              · rw [← hk1, i0]
              · rw [← hk1, i0]
              · rw [hte, i0]; simp [itemsC, cloneE]
              · rw [hte, i0]
                refine ⟨?_, trivial⟩
                refine hlv.move (by omega) (by simp; omega) (fun x hx1 hx2 _ _ => ⟨?_, by omega, by omega⟩)
                simp [show ¬ x = σ2.next by omega, show ¬ x = σ2.next + 1 by omega, show ¬ x = σ2.next + 1 + 1 by omega, show ¬ x = σ2.next + 2 by omega, show ¬ x = σ2.next + 1 + 1 + 1 by omega, show ¬ x = σ2.next + 3 by omega]
            · have M1 : σ2.mem.get o = _ := (hmono o o2).trans m1
              have M2 : σ2.mem.get t = _ := (hmono t t2).trans m2
              have hts := hal.len
              rw [List.length_take] at hts
              have e1 : ¬ σ2.next = σ2.next + 2 := by omega
              have e2 : ¬ σ2.next + 1 = σ2.next + 2 := by omega
              have e3 : ¬ σ2.next = σ2.next + 1 + 1 := by omega
              have e4 : ¬ σ2.next = σ2.next + 1 := by omega
              have f1 : ¬ o = σ2.next := by omega
              have f2 : ¬ o = σ2.next + 1 := by omega
              have f3 : ¬ o = σ2.next + 1 + 1 := by omega
              have f4 : ¬ t = σ2.next := by omega
              have f5 : ¬ t = σ2.next + 1 := by omega
              have f6 : ¬ t = σ2.next + 1 + 1 := by omega
              have f7 : ¬ t = o := Ne.symm hot
              have d1 : ¬ i + 1 ≤ i := by omega
              have d2 : (i + 1) * 32 ≤ 140737488355328 ∧ i ≤ 9223372036854775806 := by omega
              have d3 : (i + 1) * 24 ≤ 140737488355328 ∧ i ≤ 9223372036854775806 := by omega
              have ul : i * 2 ≤ 2 * min i ents.length := by omega
              have ul2 : i ≤ ts.length := by omega
              simp [lk_cons, z1, show ¬ σ'.next = σ2.next by omega, M1, M2, ul, ul2, d1, d2, d3, e1, e2, e3, e4, f1, f2, f3, f4, f5, f6, f7, hot, Ne.symm f1, Ne.symm f2, Ne.symm f3, Ne.symm f4, Ne.symm f5, Ne.symm f6, hdn.1, hdn.2.1, fillL, repL, srcL, storeL, hw]
              refine ⟨ents.length - k1, by omega, k1, .sl (σ2.next + 1 + 1) 0 (i + 1) (i + 1) false, .sl (σ2.next + 1 + 1 + 1) 0 (i + 1) (i + 1) false, rfl, by omega, by simp; omega, fun x hx => ?_, rfl, .inr ⟨σ2.next + 1 + 1, σ2.next + 1 + 1 + 1, ts ++ [lv], by rw [hk1], by rw [hk1], by omega, by omega, by simp, by omega, by simp, by omega, ?_, ?_, ?_⟩⟩
              · have := hmono x (by omega)
                simp [show ¬ x = o by omega, show ¬ x = t by omega, show ¬ x = σ2.next by omega, show ¬ x = σ2.next + 1 by omega, show ¬ x = σ2.next + 1 + 1 by omega, show ¬ x = σ2.next + 2 by omega, show ¬ x = σ2.next + 1 + 1 + 1 by omega, show ¬ x = σ2.next + 3 by omega]
                rw [this]; exact hkp x hx
              · rw [hte, List.map_append, itemsC_append]
                have e5 : ¬ σ2.next + 1 + 1 = t := by omega
                simp [e5, show ¬ σ2.next + 2 = t by omega]
                rw [List.take_of_length_le (by simp; omega)]
                simp [itemsC, cloneE]
              · simp [List.take_of_length_le (show ts.length ≤ i by omega)]
              · rw [hte]
                refine All2.snoc ?_ (All2.imp (fun e v hev => ?_) hal)
                · refine hlv.move (by omega) (by simp; omega) (fun x hx1 hx2 _ _ => ⟨?_, by omega, by omega⟩)
                  simp [show ¬ x = o by omega, show ¬ x = t by omega, show ¬ x = σ2.next by omega, show ¬ x = σ2.next + 1 by omega, show ¬ x = σ2.next + 1 + 1 by omega, show ¬ x = σ2.next + 2 by omega, show ¬ x = σ2.next + 1 + 1 + 1 by omega, show ¬ x = σ2.next + 3 by omega]
                · refine hev.move (Nat.le_refl _) (by simp; omega) (fun x hx1 hx2 hxo hxt => ⟨?_, by omega, by omega⟩)
                  have := hmono x (by omega)
                  simp [hxo, hxt, show ¬ x = σ2.next by omega, show ¬ x = σ2.next + 1 by omega, show ¬ x = σ2.next + 1 + 1 by omega, show ¬ x = σ2.next + 2 by omega, show ¬ x = σ2.next + 1 + 1 + 1 by omega, show ¬ x = σ2.next + 3 by omega]
                  exact this
    · have : i = ents.length := by omega
      subst this
      simp [lk_cons]
      rcases ho with ⟨i0, rfl, rfl⟩ | ⟨o, t, ts, rfl, rfl, i0, o1, o2, t1, t2, hot, m1, m2, hal⟩
      · have hen : ents = [] := List.eq_nil_of_length_eq_zero i0
        exact ⟨hkp, _, rfl, q1 hen⟩
      · have hen : ents ≠ [] := by intro hc; subst hc; simp at i0
        refine ⟨hkp, _, ?_, q2 hen⟩
        have hts := hal.len
        rw [List.take_length] at hts hal m1
        have g1 : listM (frzD σ.next σ'.mem 1) ts = some (ents.map (toA P W)) := All2.listM (fun e v hv => hv.frz) hal
        have g2 : listM (frzD σ.next σ'.mem 1) (itemsC (ents.map cloneE)) = some (itemsC (ents.map cloneE)) := listM_id (items_frz _ _ ents hd)
        rw [frzD_tup]
        have s1 := frzD_sl (d := 1) (len := ents.length) (cap := ents.length) (t := false) (o := 0) o1 m1 (by simp; omega)
        have s2 := frzD_sl (d := 1) (len := ents.length) (cap := ents.length) (t := false) (o := 0) t1 m2 (by omega)
        rw [List.drop_zero, List.take_of_length_le (by simp; omega), g2] at s1
        rw [List.drop_zero, List.take_of_length_le (by omega), g1] at s2
        rw [listM_cons, s1, listM_cons, s2]
        rfl
end Go.Proofs.Ytkfofdeceicfkaa.AM

namespace Go.Proofs.Ytkfofdeceicfkaa.AM
set_option maxRecDepth 100000
set_option linter.unusedVariables false
set_option linter.unusedSimpArgs false

theorem data_nil (σ : St) : DataOk σ .nilsl 0 (fun _ => .nilsl) :=
  ⟨.inl ⟨rfl, rfl⟩, fun σ2 Q _ _ h => clone_nil σ2 Q (h true), fun _ => .inl rfl⟩
theorem data_isl (σ : St) (cs : List AVal) (k : Nat) (t : Bool) (hl : cs.length = k) (hk : k ≤ 140737488355328) (hu : uptoL 0 cs = true) : DataOk σ (.isl cs k t) k (fun t => .isl cs k t) :=
  ⟨.inr (.inl ⟨_, _, rfl⟩), fun σ2 Q _ _ h => clone_isl cs k t hl hk σ2 (AVal.uptoL_mono (Nat.zero_le _) _ hu) Q h, fun _ => .inr ⟨_, _, _, rfl⟩⟩
theorem data_sl (σ : St) (a c : Nat) (cs : List AVal) (k : Nat) (t : Bool) (hl : cs.length = k) (hk : k ≤ 140737488355328) (hm : σ.mem.get a = some (.cells 1 cs)) (ha : a < σ.next) (hu : uptoL 0 cs = true) : DataOk σ (.sl a 0 k c t) k (fun t => .isl cs k t) :=
  ⟨.inr (.inr ⟨_, _, _, rfl⟩), fun σ2 Q h1 h2 h => clone_sl a k c t cs hl hk σ2 (by rw [h2 a ha]; exact hm) (by omega) (AVal.uptoL_mono (Nat.zero_le _) _ hu) Q h, fun _ => .inr ⟨_, _, _, rfl⟩⟩

/-- A writer, its quorum beside it. -/
def MI (σ : St) (w q P W A sure : Nat) (ents : List WEnt) (closed : Bool) : Prop :=
  ∃ fp wv, WRep σ w fp P W A sure ents closed wv ∧ (∀ a, fp a → q < a) ∧ σ.mem.get q = some (.cells 3 [i64 P, i64 W, i64 A]) ∧ q < σ.next ∧ (∀ e ∈ ents, DV e.d)

theorem MI.q {σ : St} {w q P W A sure : Nat} {ents : List WEnt} {closed : Bool} (h : MI σ w q P W A sure ents closed) : σ.mem.get q = some (.cells 3 [i64 P, i64 W, i64 A]) := by
  obtain ⟨fp, wv, _, _, hq, _⟩ := h; exact hq
theorem MI.num {σ : St} {w q P W A sure : Nat} {ents : List WEnt} {closed : Bool} (h : MI σ w q P W A sure ents closed) {i : Nat} {e : WEnt} (he : ents[i]? = some e) : e.n = sure + i := by
  obtain ⟨fp, wv, h, _⟩ := h; exact h.num i e he
theorem MI.said {σ : St} {w q P W A sure : Nat} {ents : List WEnt} {closed : Bool} (h : MI σ w q P W A sure ents closed) {e : WEnt} (he : e ∈ ents) : e.bs.length = P := by
  obtain ⟨fp, wv, h, _⟩ := h; exact (h.said e he).2.1

theorem MI.frame {σ σ' : St} {w q P W A sure : Nat} {ents : List WEnt} {closed : Bool} (h : MI σ w q P W A sure ents closed) (hm : ∀ a, a < σ.next → σ'.mem.get a = σ.mem.get a) (hn : σ.next ≤ σ'.next) : MI σ' w q P W A sure ents closed := by
  obtain ⟨fp, wv, h1, h2, h3, h4, h5⟩ := h
  exact ⟨fp, wv, h1.frame (fun a ha => hm a (h1.lt a ha)) hn, h2, by rw [hm q h4]; exact h3, by omega, h5⟩

theorem new_m {σ : St} {q P W A : Nat} (hq : 1 ≤ A ∧ A ≤ W ∧ W ≤ P ∧ P ≤ 7) (hm : σ.mem.get q = some (.cells 3 [i64 P, i64 W, i64 A])) (hl : q < σ.next) (Q : AVal → St → Prop) (h : ∀ w σ', MI σ' w q P W A 0 [] false → Q (.tup [.ptr w 0, i64 0]) σ') : ACall Try.prog 10 [qv P W A] σ Q := by
  refine new_c P W A hq σ Q fun w fp σ' hr hk hf => h w σ' ⟨fp, _, hr, fun a ha => by have := hf a ha; omega, ?_, ?_, fun e he => by simp at he⟩
  · rw [hk.2 q hl (fun h => h)]; exact hm
  · have := hk.1; omega

theorem add_m {σ : St} {w q P W A sure : Nat} {ents : List WEnt} {closed : Bool} (h : MI σ w q P W A sure ents closed) (hP : P ≤ 7) (hs : sure + ents.length ≤ 1000000) {d : AVal} {k : Nat} {dc : Bool → AVal} (hd : DataOk σ d k dc) (hdv : ∀ t, DV (dc t)) (Q : AVal → St → Prop)
    (q1 : closed = true → Q (.tup [u64 0, i64 24]) σ) (q2 : closed = false → 256 < k → Q (.tup [u64 0, i64 3]) σ) (q3 : closed = false → k ≤ 256 → 64 ≤ ents.length → Q (.tup [u64 0, i64 14]) σ)
    (q4 : ∀ (σ' : St) (s : Nat) (t : Bool), closed = false → k ≤ 256 → ents.length < 64 → MI σ' w q P W A sure (ents ++ [⟨sure + ents.length, dc t, s, List.replicate P false⟩]) false → Q (.tup [u64 (sure + ents.length : Nat), i64 0]) σ') :
    ACall Try.prog 11 [.ptr w 0, d] σ Q := by
  obtain ⟨fp, wv, h1, h2, h3, h4, h5⟩ := h
  refine add_c h1 hP hs hd Q q1 q2 q3 fun σ' fp' s t wv' c1 c2 c3 hr hk hf => q4 σ' s t c1 c2 c3 ⟨fp', wv', hr, fun a ha => ?_, ?_, ?_, fun e he => ?_⟩
  · rcases hf a ha with hx | hx
    · exact h2 a hx
    · omega
  · rw [hk.2 q h4 (fun hx => by have := h2 q hx; omega)]; exact h3
  · have := hk.1; omega
  · rcases List.mem_append.1 he with he | he
    · exact h5 e he
    · simp at he; subst he; exact hdv t

theorem heard_dv {ents : List WEnt} (h : ∀ e ∈ ents, DV e.d) (j p : Nat) : ∀ e ∈ heard ents j p, DV e.d := by
  intro e he
  obtain ⟨i, hi⟩ := List.mem_iff_getElem?.1 he
  rw [heard, List.getElem?_modify] at hi
  cases hy : ents[i]? with
  | none => rw [hy] at hi; simp at hi
  | some y =>
    rw [hy] at hi
    have := h y (List.mem_of_getElem? hy)
    by_cases hij : j = i
    · simp [hij] at hi; subst hi; exact this
    · simp [hij] at hi; subst hi; exact this

theorem ack_m {σ : St} {w q P W A sure : Nat} {ents : List WEnt} {closed : Bool} (h : MI σ w q P W A sure ents closed) (hq : 1 ≤ A ∧ A ≤ W ∧ W ≤ P ∧ P ≤ 7) (hs : sure + ents.length ≤ 1000000) (place : Int) (n : Nat) (hn : n < 18446744073709551616) (Q : AVal → St → Prop)
    (q1 : (n < sure ∨ sure + ents.length ≤ n ∨ ¬ ∃ y ∈ setP P W n, (y : Int) = place) → Q .nilsl σ)
    (q2 : ∀ (σ' : St) (v : AVal) (p k : Nat), (p : Int) = place → p ∈ setP P W n → sure ≤ n → n < sure + ents.length → k = popped P W A (heard ents (n - sure) p) → MI σ' w q P W A (sure + k) ((heard ents (n - sure) p).drop k) closed →
      (k = 0 ∧ v = .nilsl ∨ ∃ t, v = .isl (itemsC ((heard ents (n - sure) p).take k)) k t) → Q v σ') :
    ACall Try.prog 12 [.ptr w 0, i64 place, u64 n] σ Q := by
  obtain ⟨fp, wv, h1, h2, h3, h4, h5⟩ := h
  refine ack_c h1 hq hs place n hn Q q1 fun σ' wv' v p k c1 c2 c3 c4 c5 hr hk hv => q2 σ' v p k c1 c2 c3 c4 c5 ⟨fp, wv', hr, h2, ?_, ?_, fun e he => heard_dv h5 _ _ e (List.mem_of_mem_drop he)⟩ hv
  · rw [hk.2 q h4 (fun hx => by have := h2 q hx; omega)]; exact h3
  · have := hk.1; omega

theorem close_m {σ : St} {w q P W A sure : Nat} {ents : List WEnt} {closed : Bool} (h : MI σ w q P W A sure ents closed) (Q : AVal → St → Prop)
    (h1 : ents ≠ [] → Q (.tup [u64 0, i64 23]) σ) (h2 : ∀ σ', ents = [] → MI σ' w q P W A sure [] true → Q (.tup [u64 sure, i64 0]) σ') : ACall Try.prog 18 [.ptr w 0] σ Q := by
  obtain ⟨fp, wv, g1, g2, g3, g4, g5⟩ := h
  refine close_c g1 Q h1 fun σ' he hr hk => h2 σ' he ⟨fp, wv, hr, g2, ?_, ?_, fun e he => by simp at he⟩
  · rw [hk.2 q g4 (fun hx => by have := g2 q hx; omega)]; exact g3
  · have := hk.1; omega

theorem sure_m {σ : St} {w q P W A sure : Nat} {ents : List WEnt} {closed : Bool} (h : MI σ w q P W A sure ents closed) (Q : AVal → St → Prop) (hq : Q (u64 sure) σ) : ACall Try.prog 16 [.ptr w 0] σ Q := by
  obtain ⟨fp, wv, g1, _⟩ := h
  exact sure_c g1 Q hq

theorem count_m {σ : St} {w q P W A sure : Nat} {ents : List WEnt} {closed : Bool} (h : MI σ w q P W A sure ents closed) (hs : sure + ents.length ≤ 2000000) (Q : AVal → St → Prop) (hq : Q (u64 (sure + ents.length : Nat)) σ) : ACall Try.prog 17 [.ptr w 0] σ Q := by
  obtain ⟨fp, wv, g1, _⟩ := h
  exact count_c g1 hs Q hq

theorem waiting_m {σ : St} {w q P W A sure : Nat} {ents : List WEnt} {closed : Bool} (h : MI σ w q P W A sure ents closed) (hq : 1 ≤ A ∧ A ≤ W ∧ W ≤ P ∧ P ≤ 7) (hs : sure + ents.length ≤ 1000000) (Q : AVal → St → Prop)
    (q1 : ents = [] → Q (.tup [.nilsl, .nilsl]) σ) (q2 : ents ≠ [] → Q (.tup [.isl (itemsC (ents.map cloneE)) ents.length false, .isl (ents.map (toA P W)) ents.length false]) σ) :
    ACall Try.prog 19 [.ptr w 0] σ Q := by
  obtain ⟨fp, wv, g1, g2, g3, g4, g5⟩ := h
  exact waiting_c g1 hq hs g5 Q q1 q2

theorem waiting_v {σ : St} {w q P W A sure : Nat} {ents : List WEnt} {closed : Bool} (h : MI σ w q P W A sure ents closed) (hq : 1 ≤ A ∧ A ≤ W ∧ W ≤ P ∧ P ≤ 7) (hs : sure + ents.length ≤ 1000000) (Q : AVal → St → Prop)
    (k : ∀ x y, (ents = [] ∧ x = .nilsl ∧ y = .nilsl ∨ x = .isl (itemsC (ents.map cloneE)) ents.length false ∧ y = .isl (ents.map (toA P W)) ents.length false) → Q (.tup [x, y]) σ) :
    ACall Try.prog 19 [.ptr w 0] σ Q :=
  waiting_m h hq hs Q (fun he => k _ _ (.inl ⟨he, rfl, rfl⟩)) (fun _ => k _ _ (.inr ⟨rfl, rfl⟩))

theorem replace_m {σ : St} {w q P W A sure : Nat} {ents : List WEnt} {closed : Bool} (h : MI σ w q P W A sure ents closed) (hq : 1 ≤ A ∧ A ≤ W ∧ W ≤ P ∧ P ≤ 7) (hs : sure + ents.length ≤ 1000000) (place : Int) (Q : AVal → St → Prop)
    (q1 : ∀ (σ' : St) (v : AVal), MI σ' w q P W A sure (ents.map (replE P W place)) closed → (replN P W place ents = [] ∧ v = .nilsl ∨ ∃ t, v = .isl (uv (replN P W place ents)) (replN P W place ents).length t) → Q v σ') :
    ACall Try.prog 20 [.ptr w 0, i64 place] σ Q := by
  obtain ⟨fp, wv, g1, g2, g3, g4, g5⟩ := h
  refine replace_c g1 hq hs place Q fun σ' v hr hk hv => q1 σ' v ⟨fp, wv, hr, g2, ?_, ?_, fun e he => ?_⟩ hv
  · rw [hk.2 q g4 (fun hx => by have := g2 q hx; omega)]; exact g3
  · have := hk.1; omega
  · obtain ⟨e', he', rfl⟩ := List.mem_map.1 he
    have := g5 e' he'
    simp only [replE]
    split <;> exact this

/-- What is fresh: nobody has said anything. -/
def Fresh (P : Nat) (e : WEnt) : Prop := e.bs = List.replicate P false
theorem fresh_cnt {P : Nat} {e : WEnt} (h : Fresh P e) (l : List Nat) : cnt e.bs l = 0 := by
  rw [h, cnt, List.countP_eq_zero]
  intro p _
  rw [List.getD_eq_getElem?_getD, List.getElem?_replicate]
  split <;> simp
theorem fresh_popped {P W A : Nat} (hA : 1 ≤ A) : ∀ {ents : List WEnt}, (∀ e ∈ ents, Fresh P e) → popped P W A ents = 0
  | [], _ => rfl
  | e :: es, h => by
    have := fresh_cnt (h e (by simp)) (setP P W e.n)
    simp [popped, enoughE, this]; omega
theorem popped_le (P W A : Nat) : ∀ (ents : List WEnt), popped P W A ents ≤ ents.length
  | [] => Nat.le_refl _
  | e :: es => by
    have := popped_le P W A es
    simp only [popped, List.length_cons]
    split <;> omega
end Go.Proofs.Ytkfofdeceicfkaa.AM

/- The example of chapter 11 is as it should be. -/
namespace Go.Proofs.Ytkfofdeceicfkaa.AM
set_option maxRecDepth 100000
set_option linter.unusedVariables false
set_option linter.unusedSimpArgs false

def tabL : TabL := [(8, ac8, rs8, 0), (10, ac10, rs10, 1), (11, ac11, rs11, 2), (12, ac12, rs12, 3), (17, ac17, rs17, 1), (24, ac24, rs24, 1), (25, ac25, rs25, 1), (26, ac26, rs26, 2), (27, ac27, rs27, 2), (28, ac28, rs28, 3), (36, ac36, rs36, 2), (37, ac37, rs37, 3)]
theorem tabOk : TabOk Try.prog (look tabL) := by
  unfold tabL
  refine tab_cons ?_ (fun a w => Try.call8 a w) Try.func8 cf8 (by decide)
  refine tab_cons ?_ (fun a w => Try.call10 a w) Try.func10 cf10 (by decide)
  refine tab_cons ?_ (fun a w => Try.call11 a w) Try.func11 cf11 (by decide)
  refine tab_cons ?_ (fun a w => Try.call12 a w) Try.func12 cf12 (by decide)
  refine tab_cons ?_ (fun a w => Try.call17 a w) Try.func17 cf17 (by decide)
  refine tab_cons ?_ (fun a w => Try.call24 a w) Try.func24 cf24 (by decide)
  refine tab_cons ?_ (fun a w => Try.call25 a w) Try.func25 cf25 (by decide)
  refine tab_cons ?_ (fun a w => Try.call26 a w) Try.func26 cf26 (by decide)
  refine tab_cons ?_ (fun a w => Try.call27 a w) Try.func27 cf27 (by decide)
  refine tab_cons ?_ (fun a w => Try.call28 a w) Try.func28 cf28 (by decide)
  refine tab_cons ?_ (fun a w => Try.call36 a w) Try.func36 cf36 (by decide)
  refine tab_cons ?_ (fun a w => Try.call37 a w) Try.func37 cf37 (by decide)
  exact tab_nil hmx
def runOk (x : Option (AVal × St)) : Bool := match x with
  | some (.bool true, _) => true
  | _ => false
theorem awake_run : runOk (callT (look tabL) 300 20 8 [] σ0) = true := by kernel_rfl
theorem awake (σ : St) (Q : AVal → St → Prop) (hq : Q (.bool true) σ) : ACall Try.prog 8 [] σ Q := by
  refine ACall.frame ?_ rfl
  have h := awake_run
  unfold runOk at h
  split at h
  · rename_i σ hs; exact ACall.of_run tabOk 300 20 hs ⟨rfl, hq⟩
  · cases h

end Go.Proofs.Ytkfofdeceicfkaa.AM

namespace Go.Proofs.Ytkfofdeceicfkaa.AM
open Go.RowKit
set_option maxRecDepth 100000
set_option linter.unusedVariables false
set_option linter.unusedSimpArgs false

theorem BytesOf.dv {d : AVal} {l : List UInt8} (h : BytesOf d l) (hl : l.length ≤ 140737488355328) : DV d := by
  rcases h with ⟨rfl, rfl⟩ | ⟨t, rfl⟩
  · exact .inl rfl
  · exact .inr ⟨_, _, _, rfl, bytesV_len l, hl, bytesV_upto 0 l⟩
theorem BytesOf.data {d : AVal} {l : List UInt8} (h : BytesOf d l) (hl : l.length ≤ 140737488355328) (σ : St) : ∃ dc, DataOk σ d l.length dc ∧ ∀ t, BytesOf (dc t) l := by
  rcases h with ⟨rfl, rfl⟩ | ⟨t, rfl⟩
  · exact ⟨_, data_nil σ, fun _ => .inl ⟨rfl, rfl⟩⟩
  · exact ⟨_, data_isl σ _ _ t (bytesV_len l) hl (bytesV_upto 0 l), fun t => .inr ⟨t, rfl⟩⟩

end Go.Proofs.Ytkfofdeceicfkaa.AM

/- The law of order: what is kept while it runs. -/
namespace Go.Proofs.Ytkfofdeceicfkaa.AM
set_option maxRecDepth 100000
set_option linter.unusedVariables false
set_option linter.unusedSimpArgs false

def hasL (h N P : Nat) : List AVal := (List.range N).map fun i => .sl (h + 1 + i) 0 P P true
theorem hasL_get {h N P i : Nat} (hi : i < N) : (hasL h N P)[i]? = some (.sl (h + 1 + i) 0 P P true) := by
  simp [hasL, hi]
theorem hasL_len (h N P : Nat) : (hasL h N P).length = N := by simp [hasL]

/-- What was said of each entry, in its blocks. -/
def Has (mem : Mem) (h N P : Nat) (hs : List (List Bool)) : Prop :=
  mem.get h = some (.cells 1 (hasL h N P)) ∧ hs.length = N ∧ ∀ (i : Nat) (bs : List Bool), hs[i]? = some bs → mem.get (h + 1 + i) = some (.cells 1 (bv bs)) ∧ bs.length = P

def DatOf (ls : List (List UInt8)) (nx : Nat) (ents : List WEnt) : Prop := ∀ (j : Nat) (e : WEnt), ents[j]? = some e → ∃ l, ls[nx + j]? = some l ∧ BytesOf e.d l

/-- The writer, with nx entries confirmed, and what is known of it. -/
def OI (σ' : St) (w P W A nx N h : Nat) (ls : List (List UInt8)) (hs : List (List Bool)) : Prop :=
  ∃ (fp : Nat → Prop) (wv : AVal) (ents : List WEnt), WRep σ' w fp P W A nx ents false wv ∧ (∀ a, fp a → 0 < a ∧ a < h) ∧ h + N < σ'.next ∧ σ'.mem.get 0 = some (.cells 3 [i64 P, i64 W, i64 A]) ∧ nx + ents.length = N ∧
    ents.map (·.bs) = hs.drop nx ∧ DatOf ls nx ents ∧ ∀ e es, ents = e :: es → enoughE P W A e = false

/-- An entry more has a place's word. -/
def hear1 (P W : Nat) (hs : List (List Bool)) (nx e p : Nat) : List (List Bool) := if nx ≤ e ∧ p ∈ setP P W e then hs.modify e (·.set p true) else hs

/-- Behind an Ack: what it gave. -/
def Mid (w P W A nx N h : Nat) (ls : List (List UInt8)) (hs hs1 : List (List Bool)) (v : AVal) (σ' : St) : Prop :=
  ∃ (k : Nat) (its : List WEnt), OI σ' w P W A (nx + k) N h ls hs1 ∧ Has σ'.mem h N P hs ∧ its.length = k ∧ (k = 0 ∧ v = .nilsl ∨ ∃ t, v = .isl (itemsC its) k t) ∧
    ∀ (i : Nat) (x : WEnt), its[i]? = some x → x.n = nx + i ∧ hs1[nx + i]? = some x.bs ∧ enoughE P W A x = true ∧ ∃ l, ls[nx + i]? = some l ∧ BytesOf x.d l

theorem popped_spec (P W A : Nat) : ∀ (es : List WEnt), (∀ (i : Nat) (e : WEnt), i < popped P W A es → es[i]? = some e → enoughE P W A e = true) ∧ ∀ e es', es.drop (popped P W A es) = e :: es' → enoughE P W A e = false
  | [] => ⟨fun i e _ h => by simp at h, fun e es' h => by simp at h⟩
  | x :: es => by
    have ih := popped_spec P W A es
    by_cases hx : enoughE P W A x = true
    · have hp : popped P W A (x :: es) = popped P W A es + 1 := by simp [popped, hx]; omega
      rw [hp]
      refine ⟨fun i e hi he => ?_, fun e es' h => ih.2 e es' (by simpa using h)⟩
      cases i with
      | zero => simp at he; subst he; exact hx
      | succ i => exact ih.1 i e (by omega) (by simpa using he)
    · have hp : popped P W A (x :: es) = 0 := by simp [popped, hx]
      rw [hp]
      refine ⟨fun i e hi _ => by omega, fun e es' h => ?_⟩
      simp at h
      rw [← h.1]; simpa using hx

theorem modify_drop {α : Type} (f : α → α) : ∀ (l : List α) (n j : Nat), (l.modify (n + j) f).drop n = (l.drop n).modify j f
  | l, 0, j => by simp
  | [], n + 1, j => by cases j <;> simp
  | x :: l, n + 1, j => by
    rw [show n + 1 + j = (n + j) + 1 by omega, List.modify_succ_cons]
    simpa using modify_drop f l n j
theorem map_bs_heard (ents : List WEnt) (j p : Nat) : (heard ents j p).map (·.bs) = (ents.map (·.bs)).modify j (·.set p true) := by
  refine List.ext_getElem? fun i => ?_
  rw [heard, List.getElem?_map, List.getElem?_modify, List.getElem?_modify, List.getElem?_map]
  cases ents[i]? with
  | none => rfl
  | some y => by_cases h : j = i <;> simp [h, setSaid]
theorem heard_get {ents : List WEnt} {j p i : Nat} {e : WEnt} (h : (heard ents j p)[i]? = some e) : ∃ y, ents[i]? = some y ∧ e.n = y.n ∧ e.d = y.d := by
  rw [heard, List.getElem?_modify] at h
  cases hy : ents[i]? with
  | none => rw [hy] at h; simp at h
  | some y =>
    rw [hy] at h
    by_cases hij : j = i
    · simp [hij] at h; subst h; exact ⟨y, rfl, rfl, rfl⟩
    · simp [hij] at h; subst h; exact ⟨y, rfl, rfl, rfl⟩

theorem ack_mid {σ : St} {w P W A nx N h : Nat} {ls : List (List UInt8)} {hs : List (List Bool)} (hq : 1 ≤ A ∧ A ≤ W ∧ W ≤ P ∧ P ≤ 7) (hN : N ≤ 1000) (ho : OI σ w P W A nx N h ls hs) (hh : Has σ.mem h N P hs) (p e : Nat) (he : e < N) :
    ACall Try.prog 12 [.ptr w 0, i64 (p : Int), u64 (e : Int)] σ (Mid w P W A nx N h ls hs (hear1 P W hs nx e p)) := by
  obtain ⟨fp, wv, ents, h1, h2, h3, h4, h5, h6, h7, h8⟩ := ho
  refine ack_c h1 hq (by omega) p e (by omega) _ ?_ ?_
  · intro hno
    have : hear1 P W hs nx e p = hs := by
      rw [hear1, if_neg]
      rintro ⟨a, b⟩
      rcases hno with hno | hno | hno
      · omega
      · omega
      · exact hno ⟨p, b, rfl⟩
    rw [this]
    exact ⟨0, [], ⟨fp, wv, ents, h1, h2, h3, h4, h5, h6, h7, h8⟩, hh, rfl, .inl ⟨rfl, rfl⟩, fun i x hx => by simp at hx⟩
  · intro σ' wv' v p' k c1 c2 c3 c4 c5 hr hk hv
    have : p' = p := by omega
    subst this
    have hhe : hear1 P W hs nx e p' = hs.modify e (·.set p' true) := by rw [hear1, if_pos ⟨c3, c2⟩]
    rw [hhe]
    obtain ⟨j, hj⟩ : ∃ j, e - nx = j := ⟨_, rfl⟩
    have hej : e = nx + j := by omega
    rw [hj] at c5 hr hv
    obtain ⟨es, hes⟩ : ∃ es, heard ents j p' = es := ⟨_, rfl⟩
    have hbs := map_bs_heard ents j p'
    rw [h6, ← modify_drop, ← hej, hes] at hbs
    have hlen : es.length = ents.length := by rw [← hes]; simp [heard]
    have hdat : DatOf ls nx es := by
      intro i x hx
      rw [← hes] at hx
      obtain ⟨y, hy, _, hd⟩ := heard_get hx
      rw [hd]; exact h7 i y hy
    have hnum : ∀ (i : Nat) (x : WEnt), es[i]? = some x → x.n = nx + i := by
      intro i x hx
      rw [← hes] at hx
      obtain ⟨y, hy, hn, _⟩ := heard_get hx
      rw [hn]; exact h1.num i y hy
    rw [hes] at c5 hr hv
    have hps := popped_spec P W A es
    rw [← c5] at hps
    have hkl : k ≤ es.length := by
      rw [c5]; exact popped_le P W A es
    have keep : ∀ a, a < σ.next → (a = 0 ∨ h ≤ a) → σ'.mem.get a = σ.mem.get a := fun a ha hb => hk.2 a ha (fun hf => by have := h2 a hf; omega)
    refine ⟨k, es.take k, ⟨fp, wv', es.drop k, hr, h2, by have := hk.1; omega, ?_, by rw [List.length_drop]; omega, ?_, ?_, fun x xs hx => hps.2 x xs hx⟩, ⟨?_, hh.2.1, fun i bs hi => ?_⟩, by rw [List.length_take]; omega, ?_, ?_⟩
    · rw [keep 0 (by omega) (.inl rfl)]; exact h4
    · rw [List.map_drop, hbs, List.drop_drop]
    · intro i x hx
      rw [List.getElem?_drop] at hx
      obtain ⟨l, hl, hb⟩ := hdat _ x hx
      exact ⟨l, by rw [← hl]; congr 1; omega, hb⟩
    · rw [keep h (by omega) (.inr (Nat.le_refl _))]; exact hh.1
    · have hi2 : i < N := by rw [← hh.2.1]; exact (List.getElem?_eq_some_iff.1 hi).1
      have := hh.2.2 i bs hi
      exact ⟨by rw [keep _ (by omega) (.inr (by omega))]; exact this.1, this.2⟩
    · rcases hv with ⟨a, b⟩ | ⟨t, b⟩
      · exact .inl ⟨a, b⟩
      · exact .inr ⟨t, b⟩
    · intro i x hx
      rw [List.getElem?_take] at hx
      split at hx
      · rename_i hik
        refine ⟨hnum i x hx, ?_, hps.1 i x hik hx, hdat i x hx⟩
        have : (es.map (·.bs))[i]? = some x.bs := by rw [List.getElem?_map, hx]; rfl
        rw [hbs, List.getElem?_drop] at this
        exact this
      · cases hx
end Go.Proofs.Ytkfofdeceicfkaa.AM

/- Items and how they are compared. -/
namespace Go.Proofs.Ytkfofdeceicfkaa.AM
set_option maxRecDepth 100000
set_option linter.unusedVariables false
set_option linter.unusedSimpArgs false

/-- Entries with their bytes, as cells. -/
def ICells : List AVal → List (Nat × List UInt8) → Prop
  | [], [] => True
  | c :: d :: cs, x :: xs => c = u64 (x.1 : Int) ∧ BytesOf d x.2 ∧ ICells cs xs
  | _, _ => False
theorem ICells.len : ∀ {cs : List AVal} {xs : List (Nat × List UInt8)}, ICells cs xs → cs.length = xs.length * 2
  | [], [], _ => rfl
  | c :: d :: cs, x :: xs, h => by have := h.2.2.len; simp [this]; omega
  | [], _ :: _, h => h.elim
  | [_], _, h => by cases ‹List (Nat × List UInt8)› <;> exact h.elim
  | _ :: _ :: _, [], h => h.elim
theorem ICells.get : ∀ {cs : List AVal} {xs : List (Nat × List UInt8)}, ICells cs xs → ∀ {i : Nat} {x : Nat × List UInt8}, xs[i]? = some x → ∃ d, BytesOf d x.2 ∧ (cs.drop (i * 2)).take 2 = [u64 (x.1 : Int), d]
  | c :: d :: cs, y :: xs, h, 0, x, hx => by
    simp at hx; subst hx
    exact ⟨d, h.2.1, by simp [h.1]⟩
  | c :: d :: cs, y :: xs, h, i + 1, x, hx => by
    obtain ⟨d', h1, h2⟩ := h.2.2.get (i := i) (by simpa using hx)
    exact ⟨d', h1, by rw [← h2, show (i + 1) * 2 = i * 2 + 1 + 1 by omega]; rfl⟩
  | [], [], _, _, _, hx => by simp at hx
  | [], _ :: _, h, _, _, _ => h.elim
  | [_], _, h, _, _, _ => by cases ‹List (Nat × List UInt8)› <;> exact h.elim
  | _ :: _ :: _, [], h, _, _, _ => h.elim
theorem ICells.take : ∀ {cs : List AVal} {xs : List (Nat × List UInt8)} (i : Nat), ICells cs xs → ICells (cs.take (i * 2)) (xs.take i)
  | [], [], i, _ => by simp [ICells]
  | c :: d :: cs, x :: xs, 0, _ => by simp [ICells]
  | c :: d :: cs, x :: xs, i + 1, h => by
    rw [show (i + 1) * 2 = i * 2 + 1 + 1 by omega]
    exact ⟨h.1, h.2.1, h.2.2.take i⟩
  | [], _ :: _, _, h => h.elim
  | [_], _, _, h => by cases ‹List (Nat × List UInt8)› <;> exact h.elim
  | _ :: _ :: _, [], _, h => h.elim
theorem ICells.append : ∀ {cs ds : List AVal} {xs ys : List (Nat × List UInt8)}, ICells cs xs → ICells ds ys → ICells (cs ++ ds) (xs ++ ys)
  | [], ds, [], ys, _, h => h
  | c :: d :: cs, ds, x :: xs, ys, h, k => ⟨h.1, h.2.1, h.2.2.append k⟩
  | [], _, _ :: _, _, h, _ => h.elim
  | [_], _, _, _, h, _ => by cases ‹List (Nat × List UInt8)› <;> exact h.elim
  | _ :: _ :: _, _, [], _, h, _ => h.elim
theorem ICells.upto (lo : Nat) : ∀ {cs : List AVal} {xs : List (Nat × List UInt8)}, ICells cs xs → uptoL lo cs = true
  | [], [], _ => rfl
  | c :: d :: cs, x :: xs, h => by simp [h.1, h.2.1.upto lo, h.2.2.upto lo]
  | [], _ :: _, h => h.elim
  | [_], _, h => by cases ‹List (Nat × List UInt8)› <;> exact h.elim
  | _ :: _ :: _, [], h => h.elim

/-- A slice of entries that does not change. -/
def ItemsOf (v : AVal) (xs : List (Nat × List UInt8)) : Prop := v = .nilsl ∧ xs = [] ∨ ∃ cs k t, v = .isl cs k t ∧ k = xs.length ∧ ICells cs xs
theorem ItemsOf.len {v : AVal} {xs : List (Nat × List UInt8)} (h : ItemsOf v xs) (ρ : St) : evalV ρ (.len 1 v) = some (i64 xs.length, ρ) := by
  rcases h with ⟨rfl, rfl⟩ | ⟨cs, k, t, rfl, rfl, _⟩ <;> simp
theorem ItemsOf.one {v : AVal} {xs : List (Nat × List UInt8)} (h : ItemsOf v xs) : v.one = true ∧ cellsOf v = [v] := by
  rcases h with ⟨rfl, rfl⟩ | ⟨cs, k, t, rfl, rfl, _⟩ <;> simp
theorem ItemsOf.upto {v : AVal} {xs : List (Nat × List UInt8)} (h : ItemsOf v xs) (lo : Nat) : v.upto lo = true := by
  rcases h with ⟨rfl, rfl⟩ | ⟨cs, k, t, rfl, rfl, hc⟩
  · rfl
  · simp [hc.upto lo]

def SameJ (x y : AVal) (xs ys : List (Nat × List UInt8)) (σ0 : St) (m : Nat) (r : Regs) (σ' : St) : Prop := ∃ i : Nat, m = xs.length - i ∧ i ≤ xs.length ∧ xs.take i = ys.take i ∧ σ' = σ0 ∧ r = [(0, x), (1, y), (5, i64 i)]

/-- Bytes, unchanging or in memory. -/
def BytesM (σ : St) (d : AVal) (l : List UInt8) : Prop := BytesOf d l ∨ ∃ b k c t, d = .sl b 0 k c t ∧ k = l.length ∧ b < σ.next ∧ σ.mem.get b = some (.cells 1 (bytesV l))
theorem BytesM.str {σ : St} {d : AVal} {l : List UInt8} (h : BytesM σ d l) : evalV σ (.bytesStr d) = some (.str ⟨l.toArray⟩, σ) := by
  rcases h with h | ⟨b, k, c, t, rfl, rfl, _, hm⟩
  · exact h.str σ
  · have hl := bytesV_len l
    simp only [evalV, srcL, hm]
    rw [if_pos (by omega), Nat.mul_one, List.drop_zero, List.take_of_length_le (by omega)]
    simp only [Option.bind_some, bytesV_bytes, Option.map_some]
theorem BytesM.one {σ : St} {d : AVal} {l : List UInt8} (h : BytesM σ d l) : d.one = true ∧ cellsOf d = [d] := by
  rcases h with h | ⟨b, k, c, t, rfl, rfl, _, hm⟩
  · exact h.one
  · simp
theorem BytesM.upto {σ : St} {d : AVal} {l : List UInt8} (h : BytesM σ d l) : d.upto σ.next = true := by
  rcases h with h | ⟨b, k, c, t, rfl, rfl, hb, hm⟩
  · exact h.upto _
  · simp [hb]
/-- Is a block one of those that hold d? -/
def Holds (d : AVal) (a : Nat) : Prop := ∃ k c t, d = .sl a 0 k c t
theorem BytesM.frame {σ σ' : St} {d : AVal} {l : List UInt8} (h : BytesM σ d l) (hn : σ.next ≤ σ'.next) (hm : ∀ a, a < σ.next → Holds d a → σ'.mem.get a = σ.mem.get a) : BytesM σ' d l := by
  rcases h with h | ⟨b, k, c, t, rfl, rfl, hb, h⟩
  · exact .inl h
  · exact .inr ⟨b, _, c, t, rfl, rfl, by omega, by rw [hm b hb ⟨_, _, _, rfl⟩]; exact h⟩

def MCells (σ : St) : List AVal → List (Nat × List UInt8) → Prop
  | [], [] => True
  | c :: d :: cs, x :: xs => c = u64 (x.1 : Int) ∧ BytesM σ d x.2 ∧ MCells σ cs xs
  | _, _ => False
theorem MCells.len {σ : St} : ∀ {cs : List AVal} {xs : List (Nat × List UInt8)}, MCells σ cs xs → cs.length = xs.length * 2
  | [], [], _ => rfl
  | c :: d :: cs, x :: xs, h => by have := h.2.2.len; simp [this]; omega
  | [], _ :: _, h => h.elim
  | [_], _, h => by cases ‹List (Nat × List UInt8)› <;> exact h.elim
  | _ :: _ :: _, [], h => h.elim
theorem MCells.get {σ : St} : ∀ {cs : List AVal} {xs : List (Nat × List UInt8)}, MCells σ cs xs → ∀ {i : Nat} {x : Nat × List UInt8}, xs[i]? = some x → ∃ d, BytesM σ d x.2 ∧ (cs.drop (i * 2)).take 2 = [u64 (x.1 : Int), d] ∧ cs[i * 2]? = some (u64 (x.1 : Int)) ∧ cs[i * 2 + 1]? = some d
  | c :: d :: cs, y :: xs, h, 0, x, hx => by
    simp at hx; subst hx
    exact ⟨d, h.2.1, by simp [h.1], by simp [h.1], by simp⟩
  | c :: d :: cs, y :: xs, h, i + 1, x, hx => by
    obtain ⟨d', h1, h2, h3, h4⟩ := h.2.2.get (i := i) (by simpa using hx)
    have e : (i + 1) * 2 = i * 2 + 1 + 1 := by omega
    exact ⟨d', h1, by rw [← h2, e]; rfl, by rw [e]; simpa using h3, by rw [e]; simpa using h4⟩
  | [], [], _, _, _, hx => by simp at hx
  | [], _ :: _, h, _, _, _ => h.elim
  | [_], _, h, _, _, _ => by cases ‹List (Nat × List UInt8)› <;> exact h.elim
  | _ :: _ :: _, [], h, _, _, _ => h.elim
theorem MCells.append {σ : St} : ∀ {cs ds : List AVal} {xs ys : List (Nat × List UInt8)}, MCells σ cs xs → MCells σ ds ys → MCells σ (cs ++ ds) (xs ++ ys)
  | [], ds, [], ys, _, h => h
  | c :: d :: cs, ds, x :: xs, ys, h, k => ⟨h.1, h.2.1, h.2.2.append k⟩
  | [], _, _ :: _, _, h, _ => h.elim
  | [_], _, _, _, h, _ => by cases ‹List (Nat × List UInt8)› <;> exact h.elim
  | _ :: _ :: _, _, [], _, h, _ => h.elim
theorem MCells.upto {σ : St} : ∀ {cs : List AVal} {xs : List (Nat × List UInt8)}, MCells σ cs xs → uptoL σ.next cs = true
  | [], [], _ => rfl
  | c :: d :: cs, x :: xs, h => by simp [h.1, h.2.1.upto, h.2.2.upto]
  | [], _ :: _, h => h.elim
  | [_], _, h => by cases ‹List (Nat × List UInt8)› <;> exact h.elim
  | _ :: _ :: _, [], h => h.elim
theorem MCells.frame {σ σ' : St} (hn : σ.next ≤ σ'.next) : ∀ {cs : List AVal} {xs : List (Nat × List UInt8)}, MCells σ cs xs → (∀ a, a < σ.next → (∃ d ∈ cs, Holds d a) → σ'.mem.get a = σ.mem.get a) → MCells σ' cs xs
  | [], [], _, _ => trivial
  | c :: d :: cs, x :: xs, h, hm => ⟨h.1, h.2.1.frame hn fun a ha hh => hm a ha ⟨d, by simp, hh⟩, MCells.frame hn h.2.2 fun a ha ⟨y, hy, hh⟩ => hm a ha ⟨y, by simp [hy], hh⟩⟩
  | [], _ :: _, h, _ => h.elim
  | [_], _, h, _ => by cases ‹List (Nat × List UInt8)› <;> exact h.elim
  | _ :: _ :: _, [], h, _ => h.elim

def ItemsM (σ : St) (v : AVal) (xs : List (Nat × List UInt8)) : Prop := v = .nilsl ∧ xs = [] ∨ ∃ cs k t, v = .isl cs k t ∧ k = xs.length ∧ MCells σ cs xs
theorem ItemsM.len {σ : St} {v : AVal} {xs : List (Nat × List UInt8)} (h : ItemsM σ v xs) (ρ : St) : evalV ρ (.len 1 v) = some (i64 xs.length, ρ) := by
  rcases h with ⟨rfl, rfl⟩ | ⟨cs, k, t, rfl, rfl, _⟩ <;> simp

theorem same_cm {x y : AVal} {xs ys : List (Nat × List UInt8)} (hx : ItemsOf x xs) (σ : St) (hy : ItemsM σ y ys) (hl : xs.length ≤ 1000000) (Q : AVal → St → Prop) (h : Q (.bool (decide (xs = ys))) σ) : ACall Try.prog 33 [x, y] σ Q := by
  refine ACall.of_compF hmx (fun a w => Try.call33 a w) Try.func33 cf33 (n := 2) (by decide) rfl ?_
  have l1 := hx.len
  have l2 := hy.len
  simp [ac33, rs33, lk_cons, ↓l1, ↓l2]
  by_cases hlen : xs.length = ys.length
  · have hlen' : (xs.length : Int) = ys.length := by omega
    simp [lk_cons, hlen, hlen']
    refine wp_loop (SameJ x y xs ys σ) xs.length ?_ ?_
    · exact ⟨0, rfl, by omega, rfl, rfl, rfl⟩
    · rintro m r σ' ⟨i, rfl, hi, hp, rfl, rfl⟩
      by_cases hlt : i < xs.length
      · have hlt2 : i < ys.length := by omega
        obtain ⟨p, hpx⟩ : ∃ p, xs[i]? = some p := ⟨_, List.getElem?_eq_getElem hlt⟩
        obtain ⟨q, hqy⟩ : ∃ q, ys[i]? = some q := ⟨_, List.getElem?_eq_getElem hlt2⟩
        obtain ⟨k, hk⟩ : ∃ k, i + 1 = k := ⟨_, rfl⟩
        have hw : IntKind.i64.wrap ((i : Int) + 1) = (k : Int) := by rw [IntWalk.i64_in] <;> omega
        rcases hx with ⟨rfl, rfl⟩ | ⟨cs, kk, t, rfl, rfl, hc⟩
        · simp at hpx
        rcases hy with ⟨rfl, rfl⟩ | ⟨ds, kk', t', rfl, rfl, hd⟩
        · simp at hqy
        obtain ⟨a, ha, e1⟩ := hc.get hpx
        obtain ⟨b, hb, e2, _⟩ := hd.get hqy
        have s1 := ha.str
        have s2 := hb.str
        have notEq : p ≠ q → ¬ xs = ys := by
          intro hne he
          subst he
          rw [hpx] at hqy; cases hqy; exact hne rfl
        by_cases hn : p.1 = q.1
        · have hn' : (p.1 : Int) = (q.1 : Int) := by omega
          by_cases hl2 : p.2 = q.2
          · have hpq : p = q := by cases p; cases q; simp_all
            simp [lk_cons, ↓l1, hlt, hlt2, e1, e2, ↓s1, ↓s2, hn, hl2, str_ne, hw]
            exact ⟨xs.length - k, by omega, k, rfl, by omega, by rw [← hk, List.take_add_one, List.take_add_one, hp, hpx, hqy, hpq], rfl, rfl⟩
          · have := notEq (fun e => hl2 (by rw [e]))
            simp [this] at h
            simp [lk_cons, ↓l1, hlt, hlt2, e1, e2, ↓s1, ↓s2, hn, hl2, str_ne]
            exact h
        · have := notEq (fun e => hn (by rw [e]))
          simp [this] at h
          have hn' : ¬ (p.1 : Int) = (q.1 : Int) := by omega
          simp [lk_cons, ↓l1, hlt, hlt2, e1, e2, ↓s1, ↓s2, hn, hn', str_ne]
          exact h
      · have : i = xs.length := by omega
        subst this
        have : xs = ys := by rwa [List.take_length, hlen, List.take_length] at hp
        simp [this] at h
        simp [lk_cons, ↓l1]
        exact h
  · have hlen' : ¬ (xs.length : Int) = ys.length := by omega
    have : ¬ xs = ys := fun e => hlen (by rw [e])
    simp [this] at h
    simp [lk_cons, hlen, hlen']
    exact h

end Go.Proofs.Ytkfofdeceicfkaa.AM

/- The document's writer in memory. -/
namespace Go.Proofs.Ytkfofdeceicfkaa.AM
set_option maxRecDepth 100000
set_option linter.unusedVariables false
set_option linter.unusedSimpArgs false

theorem wp_cut {P : Program} {a b : ACode} {Q : Post} {r : Regs} {σ : St} (M : Regs → St → Prop) (h : a.wp P (fun e r σ => e = .normal ∧ M r σ) r σ) (hq : ∀ r σ, M r σ → b.wp P Q r σ) : ACode.wp P (.seq a b) Q r σ := by
  simp only [ACode.wp]
  refine wp_mono' h ?_
  rintro e r σ ⟨rfl, hm⟩
  exact hq r σ hm

structure REnt where
  l : List UInt8
  d : AVal
  s : Nat
  bs : List Bool

def rds (es : List REnt) : List AVal := es.map (·.d)
def rhs (P : Nat) (es : List REnt) : List AVal := es.map fun e => .sl e.s 0 P P true
@[simp] theorem rds_len (es : List REnt) : (rds es).length = es.length := by simp [rds]
@[simp] theorem rhs_len (P : Nat) (es : List REnt) : (rhs P es).length = es.length := by simp [rhs]

/-- The two slices. -/
def RSl (σ : St) (m : Nat) (P : Nat) (fs : Nat → Prop) (es : List REnt) (dv hv : AVal) : Prop :=
  (es = [] ∧ dv = .nilsl ∧ hv = .nilsl) ∨ ∃ db hb n, n = es.length ∧ 0 < n ∧ dv = .sl db 0 n n false ∧ hv = .sl hb 0 n n false ∧ σ.mem.get db = some (.cells 1 (rds es)) ∧ σ.mem.get hb = some (.cells 1 (rhs P es)) ∧ fs db ∧ fs hb ∧ db ≠ hb ∧ db ≠ m ∧ hb ≠ m ∧ ∀ e ∈ es, e.s ≠ db ∧ e.s ≠ hb
def DM (σ : St) (fd : Nat → Prop) (d : AVal) (l : List UInt8) : Prop := ∃ b k c t, d = .sl b 0 k c t ∧ k = l.length ∧ σ.mem.get b = some (.cells 1 (bytesV l)) ∧ fd b
theorem DM.one {σ : St} {fd : Nat → Prop} {d : AVal} {l : List UInt8} (h : DM σ fd d l) : d.one = true ∧ cellsOf d = [d] := by
  obtain ⟨b, k, c, t, rfl, _⟩ := h; simp

structure RRep (σ : St) (m : Nat) (fs fd : Nat → Prop) (P W A sure : Nat) (es : List REnt) (closed : Bool) : Prop where
  head : ∃ dv hv, σ.mem.get m = some (.cells 7 [i64 P, i64 W, i64 A, dv, hv, i64 sure, .bool closed]) ∧ RSl σ m P fs es dv hv
  mfs : fs m
  data : ∀ e ∈ es, DM σ fd e.d e.l
  said : ∀ e ∈ es, σ.mem.get e.s = some (.cells 1 (bv e.bs)) ∧ e.bs.length = P ∧ fs e.s ∧ e.s ≠ m
  apart : (es.map (·.s)).Nodup
  le : sure ≤ es.length
  lt : ∀ a, fs a ∨ fd a → a < σ.next
  dis : ∀ a, fs a → ¬ fd a

theorem RRep.frame {σ σ' : St} {m : Nat} {fs fd : Nat → Prop} {P W A sure : Nat} {es : List REnt} {closed : Bool} (h : RRep σ m fs fd P W A sure es closed) (hm : ∀ a, fs a ∨ fd a → σ'.mem.get a = σ.mem.get a) (hn : σ.next ≤ σ'.next) : RRep σ' m fs fd P W A sure es closed := by
  obtain ⟨⟨dv, hv, h1, h2⟩, h3, h4, h5, h6, h7, h8, h9⟩ := h
  refine ⟨⟨dv, hv, (hm m (.inl h3)).trans h1, ?_⟩, h3, fun e he => ?_, fun e he => ?_, h6, h7, fun a ha => Nat.lt_of_lt_of_le (h8 a ha) hn, h9⟩
  · rcases h2 with h | ⟨db, hb, n, g1, g2, g3, g4, g5, g6, g7, g8, g9⟩
    · exact .inl h
    · exact .inr ⟨db, hb, n, g1, g2, g3, g4, (hm db (.inl g7)).trans g5, (hm hb (.inl g8)).trans g6, g7, g8, g9⟩
  · obtain ⟨b, k, c, t, e1, e2, e3, e4⟩ := h4 e he
    exact ⟨b, k, c, t, e1, e2, (hm b (.inr e4)).trans e3, e4⟩
  · obtain ⟨g1, g2, g3, g4⟩ := h5 e he
    exact ⟨(hm _ (.inl g3)).trans g1, g2, g3, g4⟩

/-- An entry more. -/
theorem RRep.add {σ σ' : St} {m : Nat} {fs fd : Nat → Prop} {P W A sure : Nat} {es : List REnt} {closed : Bool} (h : RRep σ m fs fd P W A sure es closed) {l : List UInt8} {d : AVal} {b k c : Nat} {t : Bool} {s db hb : Nat} (hd : d = .sl b 0 k c t) (hk : k = l.length) (hb0 : σ.next ≤ b) (hs0 : σ.next ≤ s) (hdb0 : σ.next ≤ db) (hhb0 : σ.next ≤ hb)
    (h1 : b < σ'.next ∧ s < σ'.next ∧ db < σ'.next ∧ hb < σ'.next) (ne : b ≠ s ∧ b ≠ db ∧ b ≠ hb ∧ s ≠ db ∧ s ≠ hb ∧ db ≠ hb)
    (m1 : σ'.mem.get m = some (.cells 7 [i64 P, i64 W, i64 A, .sl db 0 (es.length + 1) (es.length + 1) false, .sl hb 0 (es.length + 1) (es.length + 1) false, i64 sure, .bool closed]))
    (m2 : σ'.mem.get b = some (.cells 1 (bytesV l))) (m3 : σ'.mem.get s = some (.cells 1 (bv (List.replicate P false)))) (m4 : σ'.mem.get db = some (.cells 1 (rds es ++ [d]))) (m5 : σ'.mem.get hb = some (.cells 1 (rhs P es ++ [.sl s 0 P P true])))
    (m6 : ∀ e ∈ es, σ'.mem.get e.s = σ.mem.get e.s) (m7 : ∀ a, fd a → σ'.mem.get a = σ.mem.get a) :
    RRep σ' m (fun a => fs a ∨ a = s ∨ a = db ∨ a = hb) (fun a => fd a ∨ a = b) P W A sure (es ++ [⟨l, d, s, List.replicate P false⟩]) closed := by
  obtain ⟨_, g3, g4, g5, g6, g7, g8, g9⟩ := h
  have hm := g8 m (.inl g3)
  refine ⟨⟨_, _, m1, .inr ⟨db, hb, es.length + 1, by simp, by omega, rfl, rfl, by rw [m4]; simp [rds], by rw [m5]; simp [rhs], .inr (.inr (.inl rfl)), .inr (.inr (.inr rfl)), ne.2.2.2.2.2, by omega, by omega, fun e he => ?_⟩⟩, .inl g3, fun e he => ?_, fun e he => ?_, ?_, by simp; omega, ?_, ?_⟩
  · rcases List.mem_append.1 he with he | he
    · have := g8 _ (.inl (g5 e he).2.2.1); omega
    · simp at he; subst he; exact ⟨ne.2.2.2.1, ne.2.2.2.2.1⟩
  · rcases List.mem_append.1 he with he | he
    · obtain ⟨b', k', c', t', e1, e2, e3, e4⟩ := g4 e he
      exact ⟨b', k', c', t', e1, e2, (m7 b' e4).trans e3, .inl e4⟩
    · simp at he; subst he; exact ⟨b, k, c, t, hd, hk, m2, .inr rfl⟩
  · rcases List.mem_append.1 he with he | he
    · obtain ⟨e1, e2, e3, e4⟩ := g5 e he
      exact ⟨(m6 e he).trans e1, e2, .inl e3, e4⟩
    · simp at he; subst he; exact ⟨m3, by simp, .inr (.inl rfl), by show s ≠ m; omega⟩
  · rw [List.map_append, List.nodup_append]
    refine ⟨g6, by simp, fun x hx y hy => ?_⟩
    obtain ⟨e, he, rfl⟩ := List.mem_map.1 hx
    simp at hy; subst hy
    have := g8 _ (.inl (g5 e he).2.2.1)
    omega
  · rintro a (h | h)
    · rcases h with h | rfl | rfl | rfl
      · have := g8 a (.inl h); omega
      · omega
      · omega
      · omega
    · rcases h with h | rfl
      · have := g8 a (.inr h); omega
      · omega
  · rintro a (h | rfl | rfl | rfl) (h' | h')
    · exact g9 a h h'
    · subst h'; have := g8 a (.inl h); omega
    · have := g8 a (.inr h'); omega
    · exact ne.1 h'.symm
    · have := g8 a (.inr h'); omega
    · exact ne.2.1 h'.symm
    · have := g8 a (.inr h'); omega
    · exact ne.2.2.1 h'.symm

theorem radd_c {σ : St} {m : Nat} {fs fd : Nat → Prop} {P W A sure : Nat} {es : List REnt} {closed : Bool} (h : RRep σ m fs fd P W A sure es closed) (hP : P ≤ 7) (hs : es.length ≤ 1000000) {d : AVal} {l : List UInt8} (hd : BytesOf d l) (hl : l.length ≤ 140737488351232) (Q : AVal → St → Prop)
    (q1 : closed = true → Q (.tup [u64 0, i64 24]) σ) (q2 : closed = false → 256 < l.length → Q (.tup [u64 0, i64 3]) σ) (q3 : closed = false → l.length ≤ 256 → sure + 64 ≤ es.length → Q (.tup [u64 0, i64 14]) σ)
    (q4 : ∀ (σ' : St) (fs' fd' : Nat → Prop) (d' : AVal) (s : Nat), closed = false → l.length ≤ 256 → es.length < sure + 64 → RRep σ' m fs' fd' P W A sure (es ++ [⟨l, d', s, List.replicate P false⟩]) false → Keeps fs σ σ' → (∀ a, fs' a ∨ fd' a → fs a ∨ fd a ∨ σ.next ≤ a) → Q (.tup [u64 es.length, i64 0]) σ') :
    ACall Try.prog 30 [.ptr m 0, d] σ Q := by
  refine ACall.of_compF hmx (fun a w => Try.call30 a w) Try.func30 cf30 (n := 2) (by decide) rfl ?_
  obtain ⟨⟨dv, hv, hh, hsl⟩, hmf, hdat, hsaid, hap, hle, hlt, hdis⟩ := id h
  have l1 := hd.len
  have hm := hlt m (.inl hmf)
  cases closed with
  | true =>
    simp [ac30, rs30, lk_cons, hh]
    exact q1 rfl
  | false =>
    by_cases hk : 256 < l.length
    · have hk' : (256 : Int) < l.length := by omega
      simp [ac30, rs30, lk_cons, hh, ↓l1, hk']
      exact q2 rfl hk
    have hk1 : l.length ≤ 256 := by omega
    have hk2 : ¬ (256 : Int) < l.length := by omega
    have dlen : ∀ ρ : St, evalV ρ (.len 1 dv) = some (i64 es.length, ρ) := by
      intro ρ
      rcases hsl with ⟨e0, rfl, rfl⟩ | ⟨db, hb, n, e1, e2, rfl, rfl, _⟩
      · subst e0; simp
      · subst e1; simp
    have w1 : IntKind.i64.wrap ((es.length : Int) - (sure : Int)) = ((es.length : Int) - (sure : Int)) := by rw [IntWalk.i64_in] <;> omega
    by_cases hw : sure + 64 ≤ es.length
    · have hw' : (64 : Int) ≤ (es.length : Int) - (sure : Int) := by omega
      simp [ac30, rs30, lk_cons, hh, ↓l1, ↓dlen, hk2, w1, hw']
      exact q3 rfl hk1 hw
    have hw' : ¬ (64 : Int) ≤ (es.length : Int) - (sure : Int) := by omega
    have bl := bytesV_len l
    have e1 : ¬ m = σ.next := by omega
    have e2 : ¬ m = σ.next + 1 := by omega
    have e3 : ¬ m = σ.next + 1 + 1 := by omega
    have e4 : ¬ m = σ.next + 1 + 1 + 1 := by omega
    have hsrc : ∀ ρ : St, srcL ρ 1 d = some (bytesV l, l.length) := by
      intro ρ
      rcases hd with ⟨rfl, rfl⟩ | ⟨t, rfl⟩
      · rfl
      · simp [srcL, bl]
    have w2 : IntKind.i64.wrap ((es.length : Int) + 1 - 1) = (es.length : Int) := by rw [IntWalk.i64_in] <;> omega
    have w3 : IntKind.u64.wrap (es.length : Int) = (es.length : Int) := by rw [IntWalk.u64_in]; omega
    have w4 : IntKind.i64.wrap (es.length : Int) = (es.length : Int) := by rw [IntWalk.i64_in]; omega
    have hPb : (P : Int) ≤ 9223372036854775807 ∧ (P : Int) ≤ 140737488355328 := by omega
    have lit : ∀ x : Nat, x ≠ 0 → ¬ σ.next = σ.next + x := fun x hx => by omega
    have fin : ∀ (x : Int) (σ' : St) (b c : Nat) (t : Bool) (s db hb : Nat), x = es.length → σ.next ≤ b → σ.next ≤ s → σ.next ≤ db → σ.next ≤ hb → (b < σ'.next ∧ s < σ'.next ∧ db < σ'.next ∧ hb < σ'.next) → (b ≠ s ∧ b ≠ db ∧ b ≠ hb ∧ s ≠ db ∧ s ≠ hb ∧ db ≠ hb) →
        σ'.mem.get m = some (.cells 7 [i64 P, i64 W, i64 A, .sl db 0 (es.length + 1) (es.length + 1) false, .sl hb 0 (es.length + 1) (es.length + 1) false, i64 sure, .bool false]) →
        σ'.mem.get b = some (.cells 1 (bytesV l)) → σ'.mem.get s = some (.cells 1 (List.replicate P (AVal.bool false))) → σ'.mem.get db = some (.cells 1 (rds es ++ [.sl b 0 l.length c t])) → σ'.mem.get hb = some (.cells 1 (rhs P es ++ [.sl s 0 P P true])) →
        (∀ a, a < σ.next → a ≠ m → (∀ db hb k c t k' c' t', dv = .sl db 0 k c t → hv = .sl hb 0 k' c' t' → a ≠ db ∧ a ≠ hb) → σ'.mem.get a = σ.mem.get a) → Q (.tup [u64 x, i64 0]) σ' := by
      intro x σ' b c t s db hb hx b1 b2 b3 b4 b5 b6 m1 m2 m3 m4 m5 m6
      subst hx
      have keep : ∀ a, a < σ.next → ¬ fs a → σ'.mem.get a = σ.mem.get a := fun a ha hf => m6 a ha (fun e => hf (e ▸ hmf)) fun db' hb' k c t k' c' t' e1 e2 => by
        rcases hsl with ⟨_, rfl, _⟩ | ⟨db, hb, n, _, _, rfl, rfl, _, _, f1, f2, _⟩
        · cases e1
        · cases e1; cases e2
          exact ⟨fun e => hf (e ▸ f1), fun e => hf (e ▸ f2)⟩
      refine q4 σ' _ _ (.sl b 0 l.length c t) s rfl hk1 (by omega) (h.add rfl rfl b1 b2 b3 b4 b5 b6 m1 m2 (by rw [bv_rep]; exact m3) m4 m5 (fun e he => ?_) (fun a ha => keep a (hlt a (.inr ha)) fun hf => hdis a hf ha)) ⟨by omega, keep⟩ ?_
      · obtain ⟨_, _, g3, g4⟩ := hsaid e he
        refine m6 e.s (hlt _ (.inl g3)) g4 fun db' hb' k c t k' c' t' e1 e2 => ?_
        rcases hsl with ⟨_, rfl, _⟩ | ⟨db, hb, n, _, _, rfl, rfl, _, _, f1, f2, _, _, _, f3⟩
        · cases e1
        · cases e1; cases e2; exact f3 e he
      · rintro a (h | h)
        · rcases h with h | rfl | rfl | rfl
          · exact .inl h
          · exact .inr (.inr b2)
          · exact .inr (.inr b3)
          · exact .inr (.inr b4)
        · rcases h with h | rfl
          · exact .inr (.inl h)
          · exact .inr (.inr b1)
    have r1 : ∀ n : Nat, repL n [AVal.bool false] = List.replicate n (.bool false) := fun n => by
      induction n with
      | zero => rfl
      | succ n ih => simp only [repL, List.replicate_succ, List.flatten_cons] at ih ⊢; rw [ih]; rfl
    have em : ∀ k, (m = σ.next + k) = False := fun k => by simp; omega
    have rl0 : ∀ z, repL 0 z = [] := fun z => rfl
    have rl1 : repL 1 [AVal.nilsl] = [AVal.nilsl] := rfl
    have nn : ∀ a b : Nat, a ≠ b → (σ.next + a = σ.next + b) = False := fun a b h => by simp; omega
    have en : ∀ k, (σ.next + k = m) = False := fun k => by simp; omega
    have e1' : ¬ σ.next = m := fun e => e1 e.symm
    have w0 : IntKind.i64.wrap 0 = 0 := by rw [IntWalk.i64_in]; omega
    have w00 : IntKind.u64.wrap 0 = 0 := by rw [IntWalk.u64_in]; omega
    rcases hsl with ⟨rfl, rfl, rfl⟩ | ⟨db, hb, n, rfl, hn, rfl, rfl, md, mh, f1, f2, f3, f4, f5, f6⟩
    · obtain rfl : sure = 0 := by simpa using hle
      by_cases hl0 : l = []
      · subst hl0
        simp [w0, w00, rl0, rl1, ac30, rs30, lk_cons, hh, ↓l1, hk2, hw', w1, ↓hsrc, fillL, storeL, srcL, e1, em, hPb, r1, Nat.add_assoc]
        refine fin _ _ σ.next 0 true (σ.next + 3) (σ.next + 2) (σ.next + 5) (by simp) (by omega) (by omega) (by omega) (by omega) (by simp) (by omega) (by simp) (by simp [bytesV, storeL, en, e1']) (by simp [en]) (by simp [rds, en]) (by simp [rhs, en]) fun a ha hm _ => by simp [hm, show ∀ x, ¬ a = σ.next + x from fun x => by omega, show ¬ a = σ.next by omega]
      · have hl1 : ¬ l.length = 0 := fun e => hl0 (List.length_eq_zero_iff.1 e)
        have hlb : l.length ≤ 140737488355328 ∧ l.length ≤ 9223372036854775807 := by omega
        simp [w0, w00, rl0, rl1, ac30, rs30, lk_cons, hh, ↓l1, hk2, hw', w1, ↓hsrc, fillL, storeL, srcL, e1, em, hPb, hl0, hl1, hlb, bl, r1, Nat.add_assoc]
        refine fin _ _ (σ.next + 1) l.length false (σ.next + 4) (σ.next + 3) (σ.next + 6) (by simp) (by omega) (by omega) (by omega) (by omega) (by simp) (by omega) (by simp) (by simp [storeL, en, e1']) (by simp [en]) (by simp [rds, en]) (by simp [rhs, en]) fun a ha hm _ => by simp [hm, show ∀ x, ¬ a = σ.next + x from fun x => by omega, show ¬ a = σ.next by omega]
    · have hdb := hlt db (.inl f1)
      have hhb := hlt hb (.inl f2)
      have d1 : ¬ db = σ.next := by omega
      have d2 : ∀ k, (db = σ.next + k) = False := fun k => by simp; omega
      have d3 : ¬ hb = σ.next := by omega
      have d4 : ∀ k, (hb = σ.next + k) = False := fun k => by simp; omega
      have d13 : ∀ k, (σ.next + k = db) = False := fun k => by simp; omega
      have d14 : ∀ k, (σ.next + k = hb) = False := fun k => by simp; omega
      have d5 : ¬ m = db := Ne.symm f4
      have d6 : ¬ m = hb := Ne.symm f5
      have d7 : ¬ hb = db := Ne.symm f3
      have d8 : ¬ es.length + 1 ≤ es.length := by omega
      have d9 : (es.length + 1) * 24 ≤ 140737488355328 ∧ es.length ≤ 9223372036854775806 := by omega
      have d10 : (rds es).take es.length = rds es := List.take_of_length_le (by simp)
      have d11 : (rhs P es).take es.length = rhs P es := List.take_of_length_le (by simp)
      have d12 : ¬ (es.length = 0) := by omega
      have tail : ∀ (a : Nat), a < σ.next → (∀ db' hb' k c t k' c' t', AVal.sl db 0 es.length es.length false = .sl db' 0 k c t → AVal.sl hb 0 es.length es.length false = .sl hb' 0 k' c' t' → a ≠ db' ∧ a ≠ hb') → ¬ a = db ∧ ¬ a = hb := fun a _ h => h db hb _ _ _ _ _ _ rfl rfl
      by_cases hl0 : l = []
      · subst hl0
        simp [w0, w00, rl0, rl1, ac30, rs30, lk_cons, hh, ↓l1, hk2, hw', w1, ↓hsrc, fillL, storeL, srcL, e1, em, hPb, r1, Nat.add_assoc, md, mh, d1, d2, d3, d4, d5, d6, d7, f3, f4, f5, d8, d9, d10, d11, w2, w3, w4]
        refine fin _ _ σ.next 0 true (σ.next + 3) (σ.next + 2) (σ.next + 5) (by simp) (by omega) (by omega) (by omega) (by omega) (by simp) (by omega) (by simp) (by simp [bytesV, storeL, en, e1', Ne.symm d1, Ne.symm d3]) (by simp [en, d13, d14]) (by simp [rds, en, d13, d14]) (by simp [rhs, en, d13, d14]) fun a ha hm hx => by
          have := tail a ha hx
          simp [hm, show ∀ x, ¬ a = σ.next + x from fun x => by omega, show ¬ a = σ.next by omega, this]
      · have hl1 : ¬ l.length = 0 := fun e => hl0 (List.length_eq_zero_iff.1 e)
        have hlb : l.length ≤ 140737488355328 ∧ l.length ≤ 9223372036854775807 := by omega
        simp [w0, w00, rl0, rl1, ac30, rs30, lk_cons, hh, ↓l1, hk2, hw', w1, ↓hsrc, fillL, storeL, srcL, e1, em, hPb, hl0, hl1, hlb, bl, r1, Nat.add_assoc, md, mh, d1, d2, d3, d4, d5, d6, d7, f3, f4, f5, d8, d9, d10, d11, w2, w3, w4]
        refine fin _ _ (σ.next + 1) l.length false (σ.next + 4) (σ.next + 3) (σ.next + 6) (by simp) (by omega) (by omega) (by omega) (by omega) (by simp) (by omega) (by simp) (by simp [storeL, en, e1', d13, d14]) (by simp [en, d13, d14]) (by simp [rds, en, d13, d14]) (by simp [rhs, en, d13, d14]) fun a ha hm hx => by
          have := tail a ha hx
          simp [hm, show ∀ x, ¬ a = σ.next + x from fun x => by omega, show ¬ a = σ.next by omega, this]
end Go.Proofs.Ytkfofdeceicfkaa.AM

/- The document's writer: Close, Ack. -/
namespace Go.Proofs.Ytkfofdeceicfkaa.AM
set_option maxRecDepth 100000
set_option linter.unusedVariables false
set_option linter.unusedSimpArgs false

def rsay (p : Nat) (b : Bool) (e : REnt) : REnt := { e with bs := e.bs.set p b }
theorem rds_mod (p : Nat) (b : Bool) (es : List REnt) (j : Nat) : rds (es.modify j (rsay p b)) = rds es := by
  apply List.ext_getElem?; intro i
  simp only [rds, List.getElem?_map, List.getElem?_modify]
  cases es[i]? with
  | none => rfl
  | some e => by_cases h : j = i <;> simp [h, rsay]
theorem rhs_mod (P p : Nat) (b : Bool) (es : List REnt) (j : Nat) : rhs P (es.modify j (rsay p b)) = rhs P es := by
  apply List.ext_getElem?; intro i
  simp only [rhs, List.getElem?_map, List.getElem?_modify]
  cases es[i]? with
  | none => rfl
  | some e => by_cases h : j = i <;> simp [h, rsay]
theorem rs_mod (p : Nat) (b : Bool) (es : List REnt) (j : Nat) : (es.modify j (rsay p b)).map (·.s) = es.map (·.s) := by
  apply List.ext_getElem?; intro i
  simp only [List.getElem?_map, List.getElem?_modify]
  cases es[i]? with
  | none => rfl
  | some e => by_cases h : j = i <;> simp [h, rsay]
theorem rget_mod {p : Nat} {b : Bool} {es : List REnt} {j i : Nat} {x : REnt} (hx : (es.modify j (rsay p b))[i]? = some x) : ∃ y, es[i]? = some y ∧ x.l = y.l ∧ x.d = y.d ∧ x.s = y.s ∧ (i = j → x.bs = y.bs.set p b) ∧ (i ≠ j → x = y) := by
  rw [List.getElem?_modify] at hx
  cases hy : es[i]? with
  | none => rw [hy] at hx; simp at hx
  | some y =>
    rw [hy] at hx
    simp only [Option.map_eq_map, Option.map_some, Option.some.injEq] at hx
    by_cases hij : j = i
    · rw [if_pos hij] at hx; subst hx
      exact ⟨y, rfl, rfl, rfl, rfl, fun _ => rfl, fun hne => absurd hij.symm hne⟩
    · rw [if_neg hij] at hx; subst hx
      exact ⟨y, rfl, rfl, rfl, rfl, fun e => absurd e.symm hij, fun _ => rfl⟩

theorem RRep.hear {σ : St} {m : Nat} {fs fd : Nat → Prop} {P W A sure : Nat} {es : List REnt} {closed : Bool} (h : RRep σ m fs fd P W A sure es closed) {j : Nat} {e : REnt} (hj : es[j]? = some e) (p : Nat) (b : Bool) :
    RRep ⟨σ.mem.set e.s (.cells 1 (bv (e.bs.set p b))), σ.next⟩ m fs fd P W A sure (es.modify j (rsay p b)) closed := by
  obtain ⟨⟨dv, hv, h1, h2⟩, h3, h4, h5, h6, h7, h8, h9⟩ := h
  have hm := List.mem_of_getElem? hj
  have hs := h5 e hm
  have inj : ∀ (i : Nat) (y : REnt), es[i]? = some y → y.s = e.s → i = j := by
    intro i y hy he
    have h1 : (es.map (·.s))[i]? = some e.s := by rw [List.getElem?_map, hy]; simp [he]
    have h2 : (es.map (·.s))[j]? = some e.s := by rw [List.getElem?_map, hj]; rfl
    have hi := (List.getElem?_eq_some_iff.1 h1).1
    exact (List.getElem?_inj hi h6).1 (h1.trans h2.symm)
  refine ⟨⟨dv, hv, by simp [Ne.symm hs.2.2.2, h1], ?_⟩, h3, fun x hx => ?_, fun x hx => ?_, by rw [rs_mod]; exact h6, by rw [List.length_modify]; exact h7, h8, h9⟩
  · rcases h2 with ⟨rfl, _⟩ | ⟨db, hb, n, g1, g2, g3, g4, g5, g6, g7, g8, g9, g10, g11, g12⟩
    · simp at hj
    · have ge := g12 e hm
      refine .inr ⟨db, hb, n, by rw [List.length_modify]; exact g1, g2, g3, g4, by rw [rds_mod]; simp [Ne.symm ge.1, g5], by rw [rhs_mod]; simp [Ne.symm ge.2, g6], g7, g8, g9, g10, g11, fun x hx => ?_⟩
      obtain ⟨i, hi⟩ := List.mem_iff_getElem?.1 hx
      obtain ⟨y, hy, _, _, e3, _⟩ := rget_mod hi
      rw [e3]; exact g12 y (List.mem_of_getElem? hy)
  · obtain ⟨i, hi⟩ := List.mem_iff_getElem?.1 hx
    obtain ⟨y, hy, e1, e2, _⟩ := rget_mod hi
    obtain ⟨b', k, c, t, f1, f2, f3, f4⟩ := h4 y (List.mem_of_getElem? hy)
    have : ¬ b' = e.s := fun e => h9 _ hs.2.2.1 (e ▸ f4)
    exact ⟨b', k, c, t, by rw [e2]; exact f1, by rw [e1]; exact f2, by rw [e1]; simp [this, f3], f4⟩
  · obtain ⟨i, hi⟩ := List.mem_iff_getElem?.1 hx
    obtain ⟨y, hy, e1, e2, e3, e4, e5⟩ := rget_mod hi
    have gy := h5 y (List.mem_of_getElem? hy)
    by_cases hij : i = j
    · subst hij
      rw [hj] at hy; cases hy
      rw [e3, e4 rfl]
      exact ⟨by simp, by simp [gy.2.1], gy.2.2⟩
    · have : ¬ y.s = e.s := fun e => hij (inj i y hy e)
      rw [e3, e5 hij]
      exact ⟨by simp [this]; exact gy.1, gy.2⟩

theorem RRep.head_set {σ σ' : St} {m : Nat} {fs fd : Nat → Prop} {P W A sure sure' : Nat} {es : List REnt} {closed closed' : Bool} (h : RRep σ m fs fd P W A sure es closed) (hle : sure' ≤ es.length) (hn : σ.next ≤ σ'.next)
    (hm : ∀ dv hv, σ.mem.get m = some (.cells 7 [i64 P, i64 W, i64 A, dv, hv, i64 sure, .bool closed]) → σ'.mem.get m = some (.cells 7 [i64 P, i64 W, i64 A, dv, hv, i64 sure', .bool closed'])) (hk : ∀ a, fs a ∨ fd a → a ≠ m → σ'.mem.get a = σ.mem.get a) : RRep σ' m fs fd P W A sure' es closed' := by
  obtain ⟨⟨dv, hv, h1, h2⟩, h3, h4, h5, h6, h7, h8, h9⟩ := h
  refine ⟨⟨dv, hv, hm dv hv h1, ?_⟩, h3, fun x hx => ?_, fun x hx => ?_, h6, hle, fun a ha => by have := h8 a ha; omega, h9⟩
  · rcases h2 with h2 | ⟨db, hb, n, g1, g2, g3, g4, g5, g6, g7, g8, g9, g10, g11, g12⟩
    · exact .inl h2
    · exact .inr ⟨db, hb, n, g1, g2, g3, g4, (hk db (.inl g7) g10).trans g5, (hk hb (.inl g8) g11).trans g6, g7, g8, g9, g10, g11, g12⟩
  · obtain ⟨b', k, c, t, f1, f2, f3, f4⟩ := h4 x hx
    exact ⟨b', k, c, t, f1, f2, (hk b' (.inr f4) fun e => h9 m h3 (e ▸ f4)).trans f3, f4⟩
  · obtain ⟨g1, g2, g3, g4⟩ := h5 x hx
    exact ⟨(hk _ (.inl g3) g4).trans g1, g2, g3, g4⟩

theorem RRep.dlen {σ : St} {m : Nat} {fs fd : Nat → Prop} {P W A sure : Nat} {es : List REnt} {closed : Bool} (h : RRep σ m fs fd P W A sure es closed) : ∃ (dv hv : AVal), σ.mem.get m = some (.cells 7 [i64 P, i64 W, i64 A, dv, hv, i64 sure, .bool closed]) ∧ (∀ ρ : St, evalV ρ (.len 1 dv) = some (i64 es.length, ρ)) ∧
    (∀ (i : Nat) (e : REnt), es[i]? = some e → ∃ (db hb : Nat) (ds hs : List AVal), dv = .sl db 0 es.length es.length false ∧ hv = .sl hb 0 es.length es.length false ∧ σ.mem.get db = some (.cells 1 ds) ∧ σ.mem.get hb = some (.cells 1 hs) ∧ ds[i]? = some e.d ∧ hs[i]? = some (.sl e.s 0 P P true) ∧ fs db ∧ fs hb ∧ db ≠ m ∧ hb ≠ m ∧ db ≠ e.s ∧ hb ≠ e.s) := by
  obtain ⟨⟨dv, hv, h1, h2⟩, h3, h4, h5, h6, h7, h8, h9⟩ := h
  refine ⟨dv, hv, h1, fun ρ => ?_, fun i e he => ?_⟩
  · rcases h2 with ⟨rfl, rfl, _⟩ | ⟨db, hb, n, g1, g2, rfl, _⟩
    · simp
    · subst g1; simp
  · rcases h2 with ⟨rfl, rfl, _⟩ | ⟨db, hb, n, g1, g2, g3, g4, g5, g6, g7, g8, g9, g10, g11, g12⟩
    · simp at he
    · subst g1
      have := g12 e (List.mem_of_getElem? he)
      exact ⟨db, hb, rds es, rhs P es, g3, g4, g5, g6, by simp [rds, he], by simp [rhs, he], g7, g8, g10, g11, Ne.symm this.1, Ne.symm this.2⟩

theorem rclose_c {σ : St} {m : Nat} {fs fd : Nat → Prop} {P W A sure : Nat} {es : List REnt} {closed : Bool} (h : RRep σ m fs fd P W A sure es closed) (hs : es.length ≤ 1000000) (Q : AVal → St → Prop)
    (q1 : sure < es.length → Q (.tup [u64 0, i64 23]) σ) (q2 : ∀ σ', sure = es.length → RRep σ' m fs fd P W A sure es true → Keeps fs σ σ' → Q (.tup [u64 sure, i64 0]) σ') : ACall Try.prog 32 [.ptr m 0] σ Q := by
  refine ACall.of_compF hmx (fun a w => Try.call32 a w) Try.func32 cf32 (n := 1) (by decide) rfl ?_
  obtain ⟨dv, hv, hh, l1, _⟩ := h.dlen
  by_cases hlt : sure < es.length
  · have hlt' : (sure : Int) < es.length := by omega
    simp [ac32, rs32, lk_cons, hh, ↓l1, hlt, hlt']
    exact q1 hlt
  · have hlt' : ¬ (sure : Int) < es.length := by omega
    have hle := h.le
    have hw : IntKind.u64.wrap (sure : Int) = (sure : Int) := by rw [IntWalk.u64_in]; omega
    simp [ac32, rs32, lk_cons, hh, ↓l1, hlt, hlt', storeL, hw]
    refine q2 _ (by omega) (h.head_set hle (Nat.le_refl _) (fun dv' hv' e => ?_) fun a ha hm => by simp [hm]) ⟨Nat.le_refl _, fun a ha hf => ?_⟩
    · rw [hh] at e; cases e; simp
    · have : ¬ a = m := fun e => hf (e ▸ h.mfs)
      simp [this]

def ritems (s : Nat) : List REnt → List AVal
  | [] => []
  | e :: es => [u64 s, e.d] ++ ritems (s + 1) es
theorem ritems_snoc : ∀ (es : List REnt) (s : Nat) (e : REnt), ritems s (es ++ [e]) = ritems s es ++ [u64 (s + es.length : Nat), e.d]
  | [], s, e => by simp [ritems]
  | x :: es, s, e => by
    have h : s + 1 + es.length = s + (es.length + 1) := by omega
    simp only [List.cons_append, ritems, ritems_snoc es (s + 1) e, List.append_assoc, List.length_cons, h]
@[simp] theorem ritems_len : ∀ (es : List REnt) (s : Nat), (ritems s es).length = 2 * es.length
  | [], s => rfl
  | e :: es, s => by simp only [ritems, List.length_append, List.length_cons, List.length_nil, ritems_len es (s + 1)]; omega
def enoughR (P W A n : Nat) (e : REnt) : Bool := decide (A ≤ cnt e.bs (setP P W n))
def rpopped (P W A : Nat) (s : Nat) : List REnt → Nat
  | [] => 0
  | e :: es => if enoughR P W A s e then 1 + rpopped P W A (s + 1) es else 0
theorem rpopped_at (P W A : Nat) : ∀ (es : List REnt) (s k : Nat), k ≤ es.length → (∀ (i : Nat) (e : REnt), i < k → es[i]? = some e → enoughR P W A (s + i) e = true) → (∀ e, es[k]? = some e → enoughR P W A (s + k) e = false) → rpopped P W A s es = k
  | [], s, k, hk, _, _ => by simp at hk; subst hk; rfl
  | e :: es, s, 0, _, _, h2 => by have := h2 e rfl; simp at this; simp [rpopped, this]
  | e :: es, s, k + 1, hk, h1, h2 => by
    have := rpopped_at P W A es (s + 1) k (by simpa using hk) (fun i x hi hx => by rw [show s + 1 + i = s + (i + 1) by omega]; exact h1 (i + 1) x (by omega) (by simpa using hx)) (fun x hx => by rw [show s + 1 + k = s + (k + 1) by omega]; exact h2 x (by simpa using hx))
    have h0 := h1 0 e (by omega) rfl
    simp at h0
    simp [rpopped, h0, this]; omega

def RAckJ (m : Nat) (fs fd : Nat → Prop) (P W A sure : Nat) (es : List REnt) (closed : Bool) (σ0 : St) (mm : Nat) (r : Regs) (σ' : St) : Prop := ∃ (k : Nat) (ov : AVal), mm = es.length - sure - k ∧ sure + k ≤ es.length ∧ RRep σ' m fs fd P W A (sure + k) es closed ∧ Keeps fs σ0 σ' ∧
  (∀ (i : Nat) (e : REnt), i < k → es[sure + i]? = some e → enoughR P W A (sure + i) e = true) ∧ r = [(0, .ptr m 0), (7, ov)] ∧
  (k = 0 ∧ ov = .nilsl ∨ ∃ o, ov = .sl o 0 k k false ∧ σ0.next ≤ o ∧ o < σ'.next ∧ σ'.mem.get o = some (.cells 2 (ritems sure ((es.drop sure).take k))))

theorem rack_c {σ : St} {m : Nat} {fs fd : Nat → Prop} {P W A sure : Nat} {es : List REnt} {closed : Bool} (h : RRep σ m fs fd P W A sure es closed) (hq : 1 ≤ A ∧ A ≤ W ∧ W ≤ P ∧ P ≤ 7) (hs : es.length ≤ 1000000) (place : Int) (n : Nat) (hn : n < 18446744073709551616) (Q : AVal → St → Prop)
    (q1 : (n < sure ∨ es.length ≤ n ∨ ¬ ∃ y ∈ setP P W n, (y : Int) = place) → Q .nilsl σ)
    (q2 : ∀ (σ' : St) (v : AVal) (p k : Nat), (p : Int) = place → p ∈ setP P W n → sure ≤ n → n < es.length → k = rpopped P W A sure ((es.modify n (rsay p true)).drop sure) → RRep σ' m fs fd P W A (sure + k) (es.modify n (rsay p true)) closed → Keeps fs σ σ' →
      (k = 0 ∧ v = .nilsl ∨ ∃ t, v = .isl (ritems sure (((es.modify n (rsay p true)).drop sure).take k)) k t) → Q v σ') :
    ACall Try.prog 34 [.ptr m 0, i64 place, u64 n] σ Q := by
  refine ACall.freeze1 ?_
  refine ACall.of_compF hmx (fun a w => Try.call34 a w) Try.func34 cf34 (n := 3) (by decide) rfl ?_
  obtain ⟨dv, hv, hh, l1, lget⟩ := h.dlen
  have hle := h.le
  have ws : IntKind.u64.wrap (sure : Int) = (sure : Int) := by rw [IntWalk.u64_in]; omega
  have wl : IntKind.u64.wrap (es.length : Int) = (es.length : Int) := by rw [IntWalk.u64_in]; omega
  by_cases h1 : n < sure
  · have h1' : (n : Int) < sure := by omega
    simp [ac34, rs34, lk_cons, hh, ws, h1, h1']
    exact (q1 (.inl h1))
  have h1' : ¬ (n : Int) < sure := by omega
  by_cases h2 : es.length ≤ n
  · have h2' : (es.length : Int) ≤ n := by omega
    simp [ac34, rs34, lk_cons, hh, ws, h1, h1', ↓l1, wl, h2, h2']
    exact (q1 (.inr (.inl h2)))
  have h2' : ¬ (es.length : Int) ≤ n := by omega
  simp [ac34, rs34, lk_cons, hh, ws, h1, h1', ↓l1, wl, h2, h2']
  refine rset P W A n hq hn _ _ ?_
  have hsl := setP_len P W n
  simp [lk_cons]
  have hc := in_c (setP P W n) false place (by omega)
  rw [hsl] at hc
  refine hc _ _ ?_
  by_cases h3 : ∃ y ∈ setP P W n, (y : Int) = place
  · obtain ⟨p, hp, rfl⟩ := h3
    have hd : decide (∃ y ∈ setP P W n, (y : Int) = (p : Int)) = true := by simpa using ⟨p, hp, rfl⟩
    rw [hd]
    have hpP : p < P := setP_lt (by omega) hp
    obtain ⟨e, he⟩ : ∃ e, es[n]? = some e := ⟨_, List.getElem?_eq_getElem (by omega)⟩
    have gs := h.said e (List.mem_of_getElem? he)
    obtain ⟨db, hb, ds, hs', rfl, rfl, md, mh, gd, gh, _, _, _, _, _, _⟩ := lget n e he
    have hnl : n < es.length := by omega
    have hpl : p + 1 ≤ e.bs.length := by omega
    simp [lk_cons, hh, mh, gh, hnl, hpP, gs.1, hpl, storeL, bv_set]
    have h0 := h.hear he p true
    have hk0 : Keeps fs σ ⟨σ.mem.set e.s (.cells 1 (bv (e.bs.set p true))), σ.next⟩ := ⟨Nat.le_refl _, fun a ha hf => by
      have : ¬ a = e.s := fun ee => hf (ee ▸ gs.2.2.1)
      simp [this]⟩
    replace q2 := fun σ' v k => q2 σ' v p k rfl hp (by omega) (by omega)
    have hlen : (es.modify n (rsay p true)).length = es.length := by simp
    have hlt0 := h.lt
    generalize es.modify n (rsay p true) = es' at h0 q2 hlen
    generalize (⟨σ.mem.set e.s (.cells 1 (bv (e.bs.set p true))), σ.next⟩ : St) = σ1 at h0 hk0
    clear lget md mh gd gh hh l1
    refine wp_loop (RAckJ m fs fd P W A sure es' closed σ) (es'.length - sure) ?_ ?_
    · exact ⟨0, .nilsl, rfl, by omega, h0, hk0, fun i e hi => by omega, rfl, .inl ⟨rfl, rfl⟩⟩
    · rintro mm r σ' ⟨k, ov, rfl, hkl, hr, hke, hen, rfl, ho⟩
      have fin : (∀ e, es'[sure + k]? = some e → enoughR P W A (sure + k) e = false) → (Q ov σ' ∨ ∃ n o len cap t es' vals, ov = .sl n o len cap t ∧ σ'.mem.get n = some (.cells es' vals) ∧ σ.next ≤ n ∧ o + len * es' ≤ vals.length ∧ Q (.isl ((vals.drop o).take (len * es')) len (t && decide (cap = len))) ⟨σ'.mem.del n, σ'.next⟩) := by
        intro hnot
        have hpk := rpopped_at P W A (es'.drop sure) sure k (by simp; omega) (fun i e hi he => hen i e hi (by rw [List.getElem?_drop] at he; exact he)) (fun e he => hnot e (by rw [List.getElem?_drop] at he; exact he))
        rcases ho with ⟨rfl, rfl⟩ | ⟨o, rfl, o1, o2, o3⟩
        · exact .inl (q2 σ' _ 0 hpk.symm hr hke (.inl ⟨rfl, rfl⟩))
        · have hlk : ((es'.drop sure).take k).length = k := by simp; omega
          refine .inr ⟨o, 0, k, k, false, 2, _, rfl, o3, o1, by simp; omega, ?_⟩
          refine q2 _ _ k hpk.symm ?_ ?_ (.inr ⟨false && decide (k = k), ?_⟩)
          · exact hr.frame (fun a ha => by have := hlt0 a ha; simp [show ¬ a = o by omega]) (Nat.le_refl _)
          · exact ⟨hke.1, fun a ha hf => by simp [show ¬ a = o by omega]; exact hke.2 a ha hf⟩
          · rw [List.drop_zero, List.take_of_length_le (by simp; omega)]
      obtain ⟨dv, hv, hh, l1, lget⟩ := hr.dlen
      obtain ⟨c, hc⟩ : ∃ c, sure + k = c := ⟨_, rfl⟩
      have hcast : (sure : Int) + (k : Int) = (c : Int) := by omega
      rw [hc] at hr hkl hh
      by_cases hcl : c < es'.length
      · have hcl' : (c : Int) < es'.length := by omega
        obtain ⟨e, he⟩ : ∃ e, es'[c]? = some e := ⟨_, List.getElem?_eq_getElem hcl⟩
        obtain ⟨db, hb, ds, hs', rfl, rfl, md, mh, gd, gh, fdb, fhb, _, _, _, _⟩ := lget c e he
        have gs := hr.said e (List.mem_of_getElem? he)
        have ge := hr.data e (List.mem_of_getElem? he)
        have wc : IntKind.u64.wrap (c : Int) = (c : Int) := by rw [IntWalk.u64_in]; omega
        simp [lk_cons, hh, hcl, hcl', wc, mh, gh]
        refine renough P W A c e.s e.bs hq gs.2.1 (by omega) _ gs.1 (hr.lt _ (.inl gs.2.2.1)) _ ?_
        by_cases hen1 : A ≤ cnt e.bs (setP P W c)
        · have hdn := ge.one
          obtain ⟨c1, hc1⟩ : ∃ c1, c + 1 = c1 := ⟨_, rfl⟩
          have wc1 : IntKind.i64.wrap ((c : Int) + 1) = (c1 : Int) := by rw [IntWalk.i64_in] <;> omega
          have n1 := hr.lt m (.inl hr.mfs)
          have n2 := hlt0 m (.inl hr.mfs)
          have n4 := hke.1
          have n5 := hr.lt db (.inl fdb)
          have f1 : ¬ m = σ'.next := by omega
          have f2 : ¬ m = σ'.next + 1 := by omega
          have f3 : ¬ db = σ'.next := by omega
          have f5 : ¬ db = σ'.next + 1 := by omega
          have hlk : ((es'.drop sure).take k).length = k := by simp; omega
          have hit : ritems sure ((es'.drop sure).take (k + 1)) = ritems sure ((es'.drop sure).take k) ++ [u64 c, e.d] := by
            have : (es'.drop sure)[k]? = some e := by rw [List.getElem?_drop, hc]; exact he
            rw [List.take_add_one, this, Option.toList_some, ritems_snoc, hlk, hc]
          have hen2 : ∀ (i : Nat) (x : REnt), i < k + 1 → es'[sure + i]? = some x → enoughR P W A (sure + i) x = true := fun i x hi hx => by
            by_cases hik : i < k
            · exact hen i x hik hx
            · have : i = k := by omega
              subst this
              rw [hc, he] at hx; cases hx
              simp [enoughR, hc, hen1]
          have bump : ∀ σ2 : St, σ'.next ≤ σ2.next → σ2.mem.get m = some (.cells 7 [i64 P, i64 W, i64 A, .sl db 0 es'.length es'.length false, .sl hb 0 es'.length es'.length false, i64 c1, .bool closed]) → (∀ a, fs a ∨ fd a → a ≠ m → σ2.mem.get a = σ'.mem.get a) → RRep σ2 m fs fd P W A (sure + (k + 1)) es' closed := fun σ2 g1 g2 g3 => by
            refine hr.head_set (by omega) g1 (fun dv' hv' e => ?_) g3
            rw [hh] at e; cases e
            rw [show sure + (k + 1) = c1 by omega]; exact g2
          rcases ho with ⟨hk0, rfl⟩ | ⟨o, rfl, o1, o2, o3⟩
          · simp [lk_cons, hh, wc, md, gd, hcl, hen1, fillL, storeL, hdn.1, hdn.2, f1, f2, f3, f5, srcL, repL, wc1]
            refine ⟨es'.length - sure - (k + 1), by omega, k + 1, .sl (σ'.next + 1) 0 1 1 false, rfl, by omega, bump _ (by simp; omega) (by simp) (fun a ha hm => ?_), ⟨by simp; omega, fun x hx hf => ?_⟩, hen2, rfl, .inr ⟨σ'.next + 1, by rw [hk0], by omega, by simp, ?_⟩⟩
            · have := hr.lt a ha
              simp [hm, show ¬ a = σ'.next by omega, show ¬ a = σ'.next + 1 by omega]
            · have hxw : ¬ x = m := fun e => hf (e ▸ hr.mfs)
              simp [hxw, show ¬ x = σ'.next by omega, show ¬ x = σ'.next + 1 by omega]
              exact hke.2 x hx hf
            · simp [Ne.symm f2]
              rw [hit, hk0]; rfl
          · have f6 : ¬ m = o := by omega
            have f7 : ¬ db = o := by have := hlt0 db (.inl fdb); omega
            have f8 : ¬ o = σ'.next := by omega
            have f9 : ¬ o = σ'.next + 1 := by omega
            have d1 : ¬ k + 1 ≤ k := by omega
            have d2 : (k + 1) * 32 ≤ 140737488355328 ∧ k ≤ 9223372036854775806 := by omega
            have d3 : k * 2 ≤ (ritems sure ((es'.drop sure).take k)).length := by rw [ritems_len, hlk]; omega
            have d4 : k * 2 ≤ 2 * min k (es'.length - sure) := by omega
            simp [lk_cons, hh, wc, md, gd, hcl, hen1, fillL, storeL, hdn.1, hdn.2, f1, f2, f3, f5, f6, f7, f8, f9, o3, d1, d2, d3, d4, srcL, repL, wc1]
            refine ⟨es'.length - sure - (k + 1), by omega, k + 1, .sl (σ'.next + 1) 0 (k + 1) (k + 1) false, rfl, by omega, bump _ (by simp; omega) (by simp) (fun a ha hm => ?_), ⟨by simp; omega, fun x hx hf => ?_⟩, hen2, rfl, .inr ⟨σ'.next + 1, rfl, by omega, by simp, ?_⟩⟩
            · have := hr.lt a ha
              have := hlt0 a ha
              simp [hm, show ¬ a = σ'.next by omega, show ¬ a = σ'.next + 1 by omega, show ¬ a = o by omega]
            · have hxw : ¬ x = m := fun e => hf (e ▸ hr.mfs)
              simp [hxw, show ¬ x = σ'.next by omega, show ¬ x = σ'.next + 1 by omega, show ¬ x = o by omega]
              exact hke.2 x hx hf
            · simp [Ne.symm f2]
              rw [hit, List.take_of_length_le (by simp; omega)]
        · simp [lk_cons, hen1]
          simpa using fin (fun e' he' => by rw [hc, he] at he'; cases he'; simp [enoughR, hc, hen1])
      · have hcl' : ¬ (c : Int) < es'.length := by omega
        simp [lk_cons, hh, ↓l1, hcl, hcl']
        simpa using fin (fun e' he' => by rw [hc, List.getElem?_eq_none (by omega)] at he'; cases he')
  · have hd : decide (∃ y ∈ setP P W n, (y : Int) = place) = false := by simpa using h3
    rw [hd]
    simp [lk_cons, hh]
    exact (q1 (.inr (.inr h3)))
end Go.Proofs.Ytkfofdeceicfkaa.AM

/- The document's writer: Replace. -/
namespace Go.Proofs.Ytkfofdeceicfkaa.AM
set_option maxRecDepth 100000
set_option linter.unusedVariables false
set_option linter.unusedSimpArgs false

def hasN (P W : Nat) (place : Int) (n : Nat) : Bool := decide (∃ y ∈ setP P W n, (y : Int) = place)
/-- With what a place had of the entries from s up to c gone. -/
def rrepl (P W : Nat) (place : Int) (s c : Nat) (es : List REnt) : List REnt := es.mapIdx fun i e => if s ≤ i ∧ i < c ∧ hasN P W place i = true then rsay place.toNat false e else e
def rnums (P W : Nat) (place : Int) (s k : Nat) : List Nat := (List.range' s k).filter (hasN P W place)
theorem rrepl_start (P W : Nat) (place : Int) (s : Nat) (es : List REnt) : rrepl P W place s s es = es := by
  apply List.ext_getElem?; intro i
  simp only [rrepl, List.getElem?_mapIdx]
  cases es[i]? with
  | none => rfl
  | some e => simp; intro h1 h2; omega
@[simp] theorem rrepl_len (P W : Nat) (place : Int) (s c : Nat) (es : List REnt) : (rrepl P W place s c es).length = es.length := by simp [rrepl]
theorem rrepl_get (P W : Nat) (place : Int) (s c : Nat) (es : List REnt) : (rrepl P W place s c es)[c]? = es[c]? := by
  simp only [rrepl, List.getElem?_mapIdx]
  cases es[c]? with
  | none => rfl
  | some e => simp
theorem rrepl_step (P W : Nat) (place : Int) (s c : Nat) (hs : s ≤ c) (es : List REnt) : rrepl P W place s (c + 1) es = if hasN P W place c then (rrepl P W place s c es).modify c (rsay place.toNat false) else rrepl P W place s c es := by
  apply List.ext_getElem?; intro i
  by_cases hh : hasN P W place c = true
  · rw [if_pos hh]
    simp only [rrepl, List.getElem?_mapIdx, List.getElem?_modify]
    cases es[i]? with
    | none => rfl
    | some e =>
      by_cases hi : c = i
      · subst hi; simp [hh, hs]
      · have : i < c + 1 ↔ i < c := by omega
        simp [hi, this]
  · rw [if_neg hh]
    simp only [rrepl, List.getElem?_mapIdx]
    cases es[i]? with
    | none => rfl
    | some e =>
      by_cases hi : c = i
      · subst hi; simp [hh]
      · have : i < c + 1 ↔ i < c := by omega
        simp [this]
theorem rnums_snoc (P W : Nat) (place : Int) (s k : Nat) : rnums P W place s (k + 1) = rnums P W place s k ++ if hasN P W place (s + k) then [s + k] else [] := by
  rw [rnums, List.range'_concat, List.filter_append]
  simp only [rnums, Nat.one_mul]
  congr 1
  simp only [List.filter_cons, List.filter_nil]
theorem rnums_le (P W : Nat) (place : Int) (s k : Nat) : (rnums P W place s k).length ≤ k := by
  have := List.length_filter_le (hasN P W place) (List.range' s k)
  simpa [rnums] using this

def RReplJ (m : Nat) (fs fd : Nat → Prop) (P W A sure : Nat) (place : Int) (es : List REnt) (closed : Bool) (σ0 : St) (mm : Nat) (r : Regs) (σ' : St) : Prop := ∃ (k c : Nat) (ov : AVal), c = sure + k ∧ mm = es.length - c ∧ c ≤ es.length ∧ RRep σ' m fs fd P W A sure (rrepl P W place sure c es) closed ∧ Keeps fs σ0 σ' ∧
  r = [(0, .ptr m 0), (1, i64 place), (5, ov), (6, i64 c)] ∧
  (rnums P W place sure k = [] ∧ ov = .nilsl ∨ ∃ o n, ov = .sl o 0 n n false ∧ n = (rnums P W place sure k).length ∧ 0 < n ∧ σ0.next ≤ o ∧ o < σ'.next ∧ σ'.mem.get o = some (.cells 1 (uv (rnums P W place sure k))))

theorem rreplace_c {σ : St} {m : Nat} {fs fd : Nat → Prop} {P W A sure : Nat} {es : List REnt} {closed : Bool} (h : RRep σ m fs fd P W A sure es closed) (hq : 1 ≤ A ∧ A ≤ W ∧ W ≤ P ∧ P ≤ 7) (hs : es.length ≤ 1000000) (place : Int) (Q : AVal → St → Prop)
    (q : ∀ (σ' : St) (v : AVal), RRep σ' m fs fd P W A sure (rrepl P W place sure es.length es) closed → Keeps fs σ σ' → (rnums P W place sure (es.length - sure) = [] ∧ v = .nilsl ∨ ∃ t, v = .isl (uv (rnums P W place sure (es.length - sure))) (rnums P W place sure (es.length - sure)).length t) → Q v σ') :
    ACall Try.prog 31 [.ptr m 0, i64 place] σ Q := by
  refine ACall.freeze1 ?_
  refine ACall.of_compF hmx (fun a w => Try.call31 a w) Try.func31 cf31 (n := 2) (by decide) rfl ?_
  obtain ⟨dv, hv, hh, l1, lget⟩ := h.dlen
  have hle := h.le
  have hlt0 := h.lt
  simp [ac31, rs31, lk_cons, hh]
  refine wp_loop (RReplJ m fs fd P W A sure place es closed σ) (es.length - sure) ?_ ?_
  · exact ⟨0, sure, .nilsl, rfl, rfl, hle, by rw [rrepl_start]; exact h, ⟨Nat.le_refl _, fun _ _ _ => rfl⟩, rfl, .inl ⟨rfl, rfl⟩⟩
  · clear lget l1 hh
    rintro mm r σ' ⟨k, c, ov, hck, rfl, hc, hr, hke, rfl, ho⟩
    obtain ⟨dv, hv, hh, l1, lget⟩ := hr.dlen
    simp only [rrepl_len] at l1 lget
    by_cases hcl : c < es.length
    · have hcl' : (c : Int) < es.length := by omega
      obtain ⟨e, he⟩ : ∃ e, es[c]? = some e := ⟨_, List.getElem?_eq_getElem hcl⟩
      have he2 : (rrepl P W place sure c es)[c]? = some e := by rw [rrepl_get]; exact he
      obtain ⟨db, hb, ds, hs', rfl, rfl, md, mh, gd, gh, fdb, fhb, _, hbm, _, hbs⟩ := lget c e he2
      have gs := hr.said e (List.mem_of_getElem? he2)
      have wc : IntKind.u64.wrap (c : Int) = (c : Int) := by rw [IntWalk.u64_in]; omega
      obtain ⟨c1, hc1⟩ : ∃ c1, c + 1 = c1 := ⟨_, rfl⟩
      have wc1 : IntKind.i64.wrap ((c : Int) + 1) = (c1 : Int) := by rw [IntWalk.i64_in] <;> omega
      simp [lk_cons, hh, ↓l1, hcl, hcl', wc]
      refine rset P W A c hq (by omega) _ _ ?_
      have hsl := setP_len P W c
      simp [lk_cons]
      have hin := in_c (setP P W c) false place (by omega)
      rw [hsl] at hin
      refine hin _ _ ?_
      have hst := rrepl_step P W place sure c (by omega) es
      have hnm := rnums_snoc P W place sure k
      rw [hc1] at hst
      rw [← hck] at hnm
      have hnl := rnums_le P W place sure k
      by_cases hhas : hasN P W place c = true
      · rw [if_pos hhas] at hst hnm
        obtain ⟨p, hp, rfl⟩ : ∃ y ∈ setP P W c, (y : Int) = place := by simpa [hasN] using hhas
        have hd : decide (∃ y ∈ setP P W c, (y : Int) = (p : Int)) = true := hhas
        have hpP : p < P := setP_lt (by omega) hp
        rw [hd]
        rw [Int.toNat_natCast] at hst
        have gf := hr.hear he2 p false
        have n4 := hke.1
        have n5 := hr.lt _ (.inl gs.2.2.1)
        have n6 := hr.lt m (.inl hr.mfs)
        have f1 : ¬ m = σ'.next := by omega
        have f2 : ¬ e.s = σ'.next := by omega
        have f3 : ¬ e.s = σ'.next + 1 := by omega
        have hpl : p + 1 ≤ e.bs.length := by omega
        rcases ho with ⟨ho1, rfl⟩ | ⟨o, n, rfl, hn, n0, o1, o2, o3⟩
        · simp [lk_cons, hh, mh, gh, hcl, hpP, gs.1, hpl, storeL, bv_set, fillL, repL, srcL, wc, wc1, f1, f2, f3]
          refine ⟨es.length - c1, by omega, k + 1, c1, .sl (σ'.next + 1) 0 1 1 false, by omega, rfl, by omega, ?_, ⟨by simp; omega, fun x hx hf => ?_⟩, rfl, .inr ⟨σ'.next + 1, 1, rfl, by rw [hnm]; simp [ho1], by omega, by omega, by simp, ?_⟩⟩
          · rw [hst]
            refine gf.frame (fun x hx => ?_) (by simp; omega)
            have := hr.lt x hx
            simp [show ¬ x = σ'.next by omega, show ¬ x = σ'.next + 1 by omega]
          · have : ¬ x = e.s := fun ee => hf (ee ▸ gs.2.2.1)
            simp [show ¬ x = σ'.next by omega, show ¬ x = σ'.next + 1 by omega, this]
            exact hke.2 x hx hf
          · rw [hnm, ho1]; simp [uv]
        · have f6 : ¬ o = σ'.next := by omega
          have f7 : ¬ o = σ'.next + 1 := by omega
          have f8 : ¬ o = e.s := by have := hlt0 _ (.inl gs.2.2.1); omega
          have d1 : ¬ n + 1 ≤ n := by omega
          have d2 : (n + 1) * 8 ≤ 140737488355328 ∧ n ≤ 9223372036854775806 := by omega
          have ul : (uv (rnums P W (p : Int) sure k)).length = n := by simp [uv, hn]
          have tk : (uv (rnums P W (p : Int) sure k)).take n = uv (rnums P W (p : Int) sure k) := List.take_of_length_le (by omega)
          simp [lk_cons, hh, mh, gh, hcl, hpP, gs.1, hpl, storeL, bv_set, fillL, repL, srcL, wc, wc1, f1, f2, f3, f6, f7, f8, o3, d1, d2, ul, tk]
          refine ⟨es.length - c1, by omega, k + 1, c1, .sl (σ'.next + 1) 0 (n + 1) (n + 1) false, by omega, rfl, by omega, ?_, ⟨by simp; omega, fun x hx hf => ?_⟩, rfl, .inr ⟨σ'.next + 1, n + 1, rfl, by rw [hnm]; simp [hn], by omega, by omega, by simp, ?_⟩⟩
          · rw [hst]
            refine gf.frame (fun x hx => ?_) (by simp; omega)
            have := hr.lt x hx
            have := hlt0 x hx
            simp [show ¬ x = σ'.next by omega, show ¬ x = σ'.next + 1 by omega, show ¬ x = o by omega]
          · have : ¬ x = e.s := fun ee => hf (ee ▸ gs.2.2.1)
            simp [show ¬ x = σ'.next by omega, show ¬ x = σ'.next + 1 by omega, this, show ¬ x = o by omega]
            exact hke.2 x hx hf
          · rw [hnm]; simp [uv]
      · have hd : decide (∃ y ∈ setP P W c, (y : Int) = place) = false := by simpa [hasN] using hhas
        rw [if_neg hhas] at hst hnm
        rw [List.append_nil] at hnm
        rw [hd]
        simp [lk_cons, wc1]
        exact ⟨es.length - c1, by omega, k + 1, c1, ov, by omega, rfl, by omega, by rw [hst]; exact hr, hke, rfl, by rw [hnm]; exact ho⟩
    · have hce : c = es.length := by omega
      subst hce
      have hk : k = es.length - sure := by omega
      subst hk
      simp [lk_cons, hh, ↓l1]
      rcases ho with ⟨h1, rfl⟩ | ⟨o, n, rfl, hn, n0, o1, o2, o3⟩
      · left
        exact q σ' _ hr hke (.inl ⟨h1, rfl⟩)
      · right
        have ul : (uv (rnums P W place sure (es.length - sure))).length = n := by simp [uv, hn]
        refine ⟨o, 0, n, n, .inl ⟨rfl, 1, _, o3, o1, by omega, ?_⟩⟩
        refine q _ _ ?_ ?_ (.inr ⟨false, by rw [List.drop_zero, List.take_of_length_le (by omega), hn]⟩)
        · exact hr.frame (fun a ha => by have := hlt0 a ha; simp [show ¬ a = o by omega]) (Nat.le_refl _)
        · exact ⟨hke.1, fun a ha hf => by simp [show ¬ a = o by omega]; exact hke.2 a ha hf⟩
end Go.Proofs.Ytkfofdeceicfkaa.AM

/- The document's writer: Waiting. -/
namespace Go.Proofs.Ytkfofdeceicfkaa.AM
set_option maxRecDepth 100000
set_option linter.unusedVariables false
set_option linter.unusedSimpArgs false

/-- The entries from s on, as a writer's. -/
def wl (s : Nat) : List REnt → List WEnt
  | [] => []
  | e :: es => ⟨s, e.d, e.s, e.bs⟩ :: wl (s + 1) es
theorem wl_len : ∀ (es : List REnt) (s : Nat), (wl s es).length = es.length
  | [], s => rfl
  | e :: es, s => by simp [wl, wl_len es (s + 1)]
theorem wl_get : ∀ {es : List REnt} {s i : Nat} {e : REnt}, es[i]? = some e → (wl s es)[i]? = some ⟨s + i, e.d, e.s, e.bs⟩
  | [], s, i, e, h => by simp at h
  | x :: es, s, 0, e, h => by simp at h; subst h; rfl
  | x :: es, s, i + 1, e, h => by
    have := wl_get (es := es) (s := s + 1) (i := i) (e := e) (by simpa using h)
    rw [show s + 1 + i = s + (i + 1) by omega] at this
    simpa [wl] using this

def RWaitJ2 (σ1 : St) (m : Nat) (ov tv : AVal) (c : Nat) (l : List Nat) (W : Nat) (bs : List Bool) (mm : Nat) (r : Regs) (σ' : St) : Prop := ∃ (j : Nat) (lv : AVal), mm = W - j ∧ j ≤ W ∧
  r = [(0, .ptr m 0), (4, ov), (5, tv), (6, i64 c), (7, lv), (8, .isl (iv l) W false), (9, i64 j)] ∧ σ1.next ≤ σ'.next ∧ (∀ a, a < σ1.next → σ'.mem.get a = σ1.mem.get a) ∧
  ListV σ'.mem σ1.next σ'.next 0 0 ((l.take j).filter fun p => !(bs.getD p false)) lv
def OVp (σ0 σ' : St) (L : List WEnt) (i o : Nat) (ov : AVal) : Prop := i = 0 ∧ ov = .nilsl ∨ ov = .sl o 0 i i false ∧ 0 < i ∧ σ0.next ≤ o ∧ o < σ'.next ∧ σ'.mem.get o = some (.cells 2 (itemsC (L.take i)))
def TVp (σ0 σ' : St) (P W : Nat) (L : List WEnt) (i o : Nat) (tv : AVal) : Prop := i = 0 ∧ tv = .nilsl ∨ ∃ t ts, tv = .sl t 0 i i false ∧ 0 < i ∧ σ0.next ≤ t ∧ t < σ'.next ∧ o ≠ t ∧ σ'.mem.get t = some (.cells 1 ts) ∧ All2 (fun e v => ListV σ'.mem σ0.next σ'.next o t (unsaid P W e) v) (L.take i) ts
def RWaitJ (m : Nat) (P W A sure : Nat) (L : List WEnt) (σ0 : St) (mm : Nat) (r : Regs) (σ' : St) : Prop := ∃ (i c o : Nat) (ov tv : AVal), c = sure + i ∧ mm = L.length - i ∧ i ≤ L.length ∧ σ0.next ≤ σ'.next ∧ (∀ a, a < σ0.next → σ'.mem.get a = σ0.mem.get a) ∧
  r = [(0, .ptr m 0), (4, ov), (5, tv), (6, i64 c)] ∧ OVp σ0 σ' L i o ov ∧ TVp σ0 σ' P W L i o tv

theorem ritems_frz (lo : Nat) (mem : Mem) : ∀ (L : List WEnt), (∀ e ∈ L, ∃ b k c t, e.d = .sl b 0 k c t ∧ b < lo) → ∀ x ∈ itemsC L, frzD lo mem 1 x = some x
  | [], _, x, hx => by simp [itemsC] at hx
  | e :: es, h, x, hx => by
    simp only [itemsC, List.mem_append, List.mem_cons, List.not_mem_nil, or_false] at hx
    rcases hx with (rfl | rfl) | hx
    · rfl
    · obtain ⟨b, k, c, t, h1, h2⟩ := h e (by simp)
      rw [h1]; simp [frzD, h2]
    · exact ritems_frz lo mem es (fun y hy => h y (by simp [hy])) x hx

theorem acall_at {P : Program} {f : FuncId} {args : List AVal} {σ : St} {Q : AVal → St → Prop} (M : St → Prop) (h : M σ) (k : ∀ σ1, M σ1 → ACall P f args σ1 Q) : ACall P f args σ Q := k σ h

set_option maxHeartbeats 1000000 in
theorem rwaiting_c {σ : St} {m : Nat} {fs fd : Nat → Prop} {P W A sure : Nat} {es : List REnt} {closed : Bool} (h : RRep σ m fs fd P W A sure es closed) (hq : 1 ≤ A ∧ A ≤ W ∧ W ≤ P ∧ P ≤ 7) (hs : es.length ≤ 1000000) (L : List WEnt) (hL : L = wl sure (es.drop sure)) (Q : AVal → St → Prop)
    (q1 : L = [] → Q (.tup [.nilsl, .nilsl]) σ) (q2 : L ≠ [] → Q (.tup [.isl (itemsC L) L.length false, .isl (L.map (toA P W)) L.length false]) σ) :
    ACall Try.prog 35 [.ptr m 0] σ Q := by
  refine ACall.freezeD 3 ?_
  refine ACall.of_compF hmx (fun a w => Try.call35 a w) Try.func35 cf35 (n := 1) (by decide) rfl ?_
  obtain ⟨dv, hv, hh, l1, lget⟩ := h.dlen
  have hle := h.le
  have n1 := h.lt m (.inl h.mfs)
  have hLl : L.length = es.length - sure := by rw [hL, wl_len, List.length_drop]
  have hdat : ∀ e ∈ L, ∃ b k c t, e.d = .sl b 0 k c t ∧ b < σ.next := by
    intro e he
    obtain ⟨i, hi⟩ := List.mem_iff_getElem?.1 he
    have hil := (List.getElem?_eq_some_iff.1 hi).1
    obtain ⟨x, hx⟩ : ∃ x, (es.drop sure)[i]? = some x := ⟨_, List.getElem?_eq_getElem (by simp; omega)⟩
    have := wl_get (s := sure) hx
    rw [← hL, hi] at this; cases this
    rw [List.getElem?_drop] at hx
    obtain ⟨b, k, c, t, g1, g2, g3, g4⟩ := h.data x (List.mem_of_getElem? hx)
    exact ⟨b, k, c, t, g1, h.lt b (.inr g4)⟩
  simp [ac35, rs35, lk_cons, hh]
  refine wp_loop (RWaitJ m P W A sure L σ) L.length ?_ ?_
  · exact ⟨0, sure, 0, .nilsl, .nilsl, rfl, rfl, by omega, Nat.le_refl _, fun _ _ => rfl, rfl, .inl ⟨rfl, rfl⟩, .inl ⟨rfl, rfl⟩⟩
  · rintro mm r σ' ⟨i, c, o, ov, tv, hc, rfl, hi, hnx, hkp, rfl, hov, htv⟩
    have hr0 : σ'.mem.get m = _ := (hkp m n1).trans hh
    by_cases hlt : i < L.length
    · have hcl : c < es.length := by omega
      have hcl' : (c : Int) < es.length := by omega
      obtain ⟨x, hx⟩ : ∃ x, es[c]? = some x := ⟨_, List.getElem?_eq_getElem hcl⟩
      have hgx := h.data x (List.mem_of_getElem? hx)
      have gs := h.said x (List.mem_of_getElem? hx)
      have hdn := hgx.one
      have n2 := h.lt _ (.inl gs.2.2.1)
      obtain ⟨e, he0⟩ : ∃ e : WEnt, e = ⟨c, x.d, x.s, x.bs⟩ := ⟨_, rfl⟩
      have he : L[i]? = some e := by
        have : (es.drop sure)[i]? = some x := by rw [List.getElem?_drop, ← hc]; exact hx
        rw [hL, wl_get this, he0, hc]
      obtain ⟨db, hb, ds, hs', rfl, rfl, md, mh, gd, gh, fdb, fhb, _, _, _, _⟩ := lget c x hx
      have n3 := h.lt db (.inl fdb)
      have n4 := h.lt hb (.inl fhb)
      have md' : σ'.mem.get db = _ := (hkp db n3).trans md
      have mh' : σ'.mem.get hb = _ := (hkp hb n4).trans mh
      have ms' : σ'.mem.get x.s = _ := (hkp _ n2).trans gs.1
      have wc : IntKind.u64.wrap (c : Int) = (c : Int) := by rw [IntWalk.u64_in]; omega
      obtain ⟨c1, hc1⟩ : ∃ c1, c + 1 = c1 := ⟨_, rfl⟩
      have wc1 : IntKind.i64.wrap ((c : Int) + 1) = (c1 : Int) := by rw [IntWalk.i64_in] <;> omega
      obtain ⟨k1, hk1⟩ : ∃ k, i + 1 = k := ⟨_, rfl⟩
      have hte : L.take k1 = L.take i ++ [e] := by rw [← hk1, List.take_add_one, he]; rfl
      have hsl := setP_len P W c
      have hslt : ∀ p ∈ setP P W c, p < P := fun p hp => setP_lt (by omega) hp
      have f1 : ¬ db = σ'.next := by omega
      have f2 : ¬ db = σ'.next + 1 := by omega
      have f10 : ¬ m = σ'.next := by omega
      have f11 : ¬ m = σ'.next + 1 := by omega
      obtain ⟨M, hM⟩ : ∃ M : St → Prop, M = fun σ1 => σ1.next = σ'.next + 2 ∧ (∀ a, a < σ'.next → (0 < i → a ≠ o) → σ1.mem.get a = σ'.mem.get a) ∧ σ1.mem.get (σ'.next + 1) = some (.cells 2 (itemsC (L.take k1))) := ⟨_, rfl⟩
      have hkeep : ∀ σ1, M σ1 → ∀ a, a < σ.next → (0 < i → σ.next ≤ o) → σ1.mem.get a = σ.mem.get a := fun σ1 h1 a ha ho => by
        rw [hM] at h1
        rw [h1.2.1 a (by omega) (fun hi => by have := ho hi; omega), hkp a ha]
      have hov2 : (ov = .nilsl ∧ i = 0) ∨ (ov = .sl o 0 i i false ∧ 0 < i ∧ σ.next ≤ o ∧ o < σ'.next ∧ σ'.mem.get o = some (.cells 2 (itemsC (L.take i)))) := by
        rcases hov with ⟨h1, h2⟩ | h
        · exact .inl ⟨h2, h1⟩
        · exact .inr h
      have hoo : 0 < i → σ.next ≤ o ∧ o < σ'.next := fun hi => by
        rcases hov2 with h | h
        · omega
        · exact ⟨h.2.2.1, h.2.2.2.1⟩
      clear hov
      rcases hov2 with ⟨hov, hi0⟩ | ⟨hov, i0, o1, o2, o3⟩
      case' inl =>
        rw [hov]
        simp [lk_cons, hr0, ↓l1, hcl, hcl', wc, md', gd, hdn.1, hdn.2, fillL, storeL, repL, srcL, f1, f2, f10, f11]
        refine acall_at M ?_ ?_
        · rw [hM]
          refine ⟨rfl, fun a ha _ => by simp [show ¬ a = σ'.next by omega, show ¬ a = σ'.next + 1 by omega], ?_⟩
          rw [hte, hi0, he0]; simp [itemsC]
        clear hov
      case' inr =>
        have f6 : ¬ db = o := by omega
        have f7 : ¬ m = o := by omega
        have f8 : ¬ o = σ'.next := by omega
        have f9 : ¬ o = σ'.next + 1 := by omega
        have d1 : ¬ i + 1 ≤ i := by omega
        have d2 : (i + 1) * 32 ≤ 140737488355328 ∧ i ≤ 9223372036854775806 := by omega
        have d4 : i * 2 ≤ 2 * min i L.length := by omega
        have tk : (itemsC (L.take i)).take (i * 2) = itemsC (L.take i) := List.take_of_length_le (by simp; omega)
        rw [hov]
        simp [lk_cons, hr0, ↓l1, hcl, hcl', wc, md', gd, hdn.1, hdn.2, fillL, storeL, repL, srcL, f1, f2, f6, f7, f8, f9, f10, f11, o3, d1, d2, d4, tk]
        refine acall_at M ?_ ?_
        · rw [hM]
          refine ⟨rfl, fun a ha ho => by simp [show ¬ a = σ'.next by omega, show ¬ a = σ'.next + 1 by omega, ho i0], ?_⟩
          rw [hte, itemsC_append, he0]; simp [itemsC]
        clear hov i0 o1 o2 o3 f6 f7 f8 f9 d1 d2 d4 tk
      all_goals
        intro σ1 hσ1
        have hk0 := hkeep σ1 hσ1
        rw [hM] at hσ1
        obtain ⟨x1, x2, x3⟩ := hσ1
        refine rset P W A c hq (by omega) _ _ ?_
        simp [lk_cons]
        obtain ⟨l, hl⟩ : ∃ l, setP P W c = l := ⟨_, rfl⟩
        rw [hl] at hsl hslt
        rw [hl]
        refine wp_loop (RWaitJ2 σ1 m (.sl (σ'.next + 1) 0 k1 k1 false) tv c l W x.bs) W ?_ ?_
        · exact ⟨0, .nilsl, rfl, by omega, by rw [← hk1]; first | rfl | (rw [hi0]; rfl), Nat.le_refl _, fun _ _ => rfl, .inl ⟨rfl, rfl⟩⟩
        · rintro mm r σ2 ⟨j, lv, rfl, hj, rfl, y1, y2, hlv⟩
          have hko : 0 < i → σ.next ≤ o := fun hi => (hoo hi).1
          have z1 : σ2.mem.get m = _ := (y2 _ (by omega)).trans ((hk0 m n1 hko).trans hh)
          have z2 : σ2.mem.get x.s = _ := (y2 _ (by omega)).trans ((hk0 _ n2 hko).trans gs.1)
          have z3 : σ2.mem.get hb = _ := (y2 _ (by omega)).trans ((hk0 _ n4 hko).trans mh)
          by_cases hjw : j < W
          · obtain ⟨p, hp⟩ : ∃ p, l[j]? = some p := ⟨_, List.getElem?_eq_getElem (by omega)⟩
            have hpP := hslt p (List.mem_of_getElem? hp)
            have hpl : (iv l)[j]? = some (i64 p) := by simp [iv, hp]
            have hb' := bv_get x.bs p (by omega)
            obtain ⟨j1, hj1⟩ : ∃ k, j + 1 = k := ⟨_, rfl⟩
            have hwj : IntKind.i64.wrap ((j : Int) + 1) = (j1 : Int) := by rw [IntWalk.i64_in] <;> omega
            have hfl : (l.take j1).filter (fun p => !(x.bs.getD p false)) = (l.take j).filter (fun p => !(x.bs.getD p false)) ++ if x.bs.getD p false then [] else [p] := by
              rw [← hj1, List.take_add_one, hp, List.filter_append]
              congr 1
              rw [show (some p).toList = [p] from rfl, List.filter_cons]
              cases x.bs.getD p false <;> rfl
            obtain ⟨fl, hfl2⟩ : ∃ fl, (l.take j).filter (fun p => !(x.bs.getD p false)) = fl := ⟨_, rfl⟩
            have hlen : fl.length ≤ j := by rw [← hfl2]; exact Nat.le_trans (List.length_filter_le _ _) (by simp; omega)
            rw [hfl2] at hfl hlv
            cases hbp : x.bs.getD p false with
            | true =>
              rw [hbp] at hb' hfl
              simp only [if_true, List.append_nil] at hfl
              simp [lk_cons, hjw, hpl, z1, z2, z3, gh, hcl, hpP, hb', hwj]
              exact ⟨W - j1, by omega, j1, lv, rfl, by omega, rfl, y1, y2, by rw [hfl]; exact hlv⟩
            | false =>
              rw [hbp] at hb' hfl
              simp only [Bool.false_eq_true, if_false] at hfl
              rcases hlv with ⟨h1, rfl⟩ | ⟨o', k, rfl, hk, k0, o1, o2, _, _, o3⟩
              · simp [lk_cons, hjw, hpl, z1, z2, z3, gh, hcl, hpP, hb', hwj, fillL, repL, srcL, storeL]
                refine ⟨W - j1, by omega, j1, _, rfl, by omega, rfl, by simp; omega, fun x hx => ?_, .inr ⟨σ2.next + 1, 1, rfl, by rw [hfl, h1]; rfl, by omega, by omega, by simp, by omega, by omega, ?_⟩⟩
                · simp [show ¬ x = σ2.next by omega, show ¬ x = σ2.next + 1 by omega]
                  exact y2 x hx
                · rw [hfl, h1]; simp [iv]
              · have d1 : ¬ k + 1 ≤ k := by omega
                have d2 : (k + 1) * 8 ≤ 140737488355328 ∧ k ≤ 9223372036854775806 := by omega
                have f5 : ¬ o' = σ2.next := by omega
                have f6 : ¬ o' = σ2.next + 1 := by omega
                have ul : (iv fl).length = k := by simp [iv, hk]
                simp [lk_cons, hjw, hpl, z1, z2, z3, gh, hcl, hpP, hb', hwj, f5, f6, Ne.symm f5, o3, d1, d2, ul, fillL, repL, srcL, storeL]
                refine ⟨W - j1, by omega, j1, _, rfl, by omega, rfl, by simp; omega, fun x hx => ?_, .inr ⟨σ2.next + 1, k + 1, rfl, by rw [hfl]; simp [hk], by omega, by omega, by simp, by omega, by omega, ?_⟩⟩
                · simp [show ¬ x = σ2.next by omega, show ¬ x = σ2.next + 1 by omega, show ¬ x = o' by omega]
                  exact y2 x hx
                · rw [hfl]; simp [iv, List.take_of_length_le (show (fl.map fun (x : Nat) => AVal.int .i64 (x : Int)).length ≤ k by simp; omega)]
          · have hjW : j = W := by omega
            subst hjW
            rw [List.take_of_length_le (by omega)] at hlv
            have hun : l.filter (fun p => !(x.bs.getD p false)) = unsaid P j e := by rw [unsaid, he0, hl]
            rw [hun] at hlv
            have hlo := hlv.one
            have hmono : ∀ a, a < σ'.next → (0 < i → a ≠ o) → σ2.mem.get a = σ'.mem.get a := fun a ha ho => (y2 a (by omega)).trans (x2 a ha ho)
            have zo : σ2.mem.get (σ'.next + 1) = _ := (y2 _ (by omega)).trans x3
            have e5 : ¬ σ'.next + 1 = σ2.next := by omega
            have e6 : ¬ σ'.next = σ2.next := by omega
            rcases htv with ⟨i0, rfl⟩ | ⟨t, ts, rfl, i0, t1, t2, hot, m2, hal⟩
            · simp [lk_cons, hlo.1, hlo.2, fillL, repL, srcL, storeL, wc1]
              refine ⟨L.length - k1, by omega, k1, c1, σ'.next + 1, _, _, by omega, rfl, by omega, by simp; omega, fun y hy => ?_, rfl, .inr ⟨rfl, by omega, by omega, by simp; omega, by simp [e5, e6, zo]⟩, .inr ⟨σ2.next + 1, [lv], by rw [← hk1, i0], by omega, by omega, by simp, by omega, by simp, ?_⟩⟩
              · simp [show ¬ y = σ2.next by omega, show ¬ y = σ2.next + 1 by omega]
                rw [y2 y (by omega), hk0 y hy hko]
              · rw [hte, i0]
                refine ⟨?_, trivial⟩
                refine hlv.move (by omega) (by simp; omega) (fun y hy1 hy2 _ _ => ⟨?_, by omega, by omega⟩)
                simp [show ¬ y = σ2.next by omega, show ¬ y = σ2.next + 1 by omega]
            · have M2 : σ2.mem.get t = _ := (hmono t t2 (fun _ => Ne.symm hot)).trans m2
              have hts := hal.len
              rw [List.length_take] at hts
              have f4 : ¬ t = σ2.next := by omega
              have f5 : ¬ t = σ2.next + 1 := by omega
              have d1 : ¬ i + 1 ≤ i := by omega
              have d3 : (i + 1) * 24 ≤ 140737488355328 ∧ i ≤ 9223372036854775806 := by omega
              have ul2 : i ≤ ts.length := by omega
              have tk : ts.take i = ts := List.take_of_length_le (by omega)
              have e7 : ¬ σ'.next + 1 = t := by omega
              simp [lk_cons, M2, ul2, d1, d3, f4, f5, Ne.symm f4, tk, hlo.1, hlo.2, fillL, repL, srcL, storeL, wc1]
              refine ⟨L.length - k1, by omega, k1, c1, σ'.next + 1, _, _, by omega, rfl, by omega, by simp; omega, fun y hy => ?_, rfl, .inr ⟨rfl, by omega, by omega, by simp; omega, by simp [e5, e6, e7, zo]⟩, .inr ⟨σ2.next + 1, ts ++ [lv], by rw [← hk1], by omega, by omega, by simp, by omega, by simp, ?_⟩⟩
              · simp [show ¬ y = t by omega, show ¬ y = σ2.next by omega, show ¬ y = σ2.next + 1 by omega]
                rw [y2 y (by omega), hk0 y hy hko]
              · rw [hte]
                refine All2.snoc ?_ (All2.imp (fun e v hev => ?_) hal)
                · refine hlv.move (by omega) (by simp; omega) (fun y hy1 hy2 _ _ => ⟨?_, by omega, by omega⟩)
                  simp [show ¬ y = t by omega, show ¬ y = σ2.next by omega, show ¬ y = σ2.next + 1 by omega]
                · refine hev.move (Nat.le_refl _) (by simp; omega) (fun y hy1 hy2 hyo hyt => ⟨?_, by omega, by omega⟩)
                  have := hmono y (by omega) (fun _ => hyo)
                  simp [hyt, show ¬ y = σ2.next by omega, show ¬ y = σ2.next + 1 by omega]
                  exact this
    · have : i = L.length := by omega
      subst this
      have hcl : ¬ c < es.length := by omega
      have hcl' : ¬ (c : Int) < es.length := by omega
      simp [lk_cons, hr0, ↓l1, hcl, hcl']
      rcases hov with ⟨i0, rfl⟩ | ⟨rfl, i0, o1, o2, m1⟩
      · have hen : L = [] := List.eq_nil_of_length_eq_zero i0
        rcases htv with ⟨_, rfl⟩ | ⟨_, _, _, i0', _⟩
        · exact ⟨hkp, _, rfl, q1 hen⟩
        · omega
      · have hen : L ≠ [] := by intro hc; subst hc; simp at i0
        rcases htv with ⟨i0', _⟩ | ⟨t, ts, rfl, _, t1, t2, hot, m2, hal⟩
        · omega
        refine ⟨hkp, _, ?_, q2 hen⟩
        have hts := hal.len
        rw [List.take_length] at hts hal m1
        have g1 : listM (frzD σ.next σ'.mem 1) ts = some (L.map (toA P W)) := All2.listM (fun e v hv => hv.frz) hal
        have g2 : listM (frzD σ.next σ'.mem 1) (itemsC L) = some (itemsC L) := listM_id (ritems_frz _ _ L hdat)
        rw [frzD_tup]
        have s1 := frzD_sl (d := 1) (len := L.length) (cap := L.length) (t := false) (o := 0) o1 m1 (by simp; omega)
        have s2 := frzD_sl (d := 1) (len := L.length) (cap := L.length) (t := false) (o := 0) t1 m2 (by omega)
        rw [List.drop_zero, List.take_of_length_le (by simp; omega), g2] at s1
        rw [List.drop_zero, List.take_of_length_le (by omega), g1] at s2
        rw [listM_cons, s1, listM_cons, s2]
        rfl
end Go.Proofs.Ytkfofdeceicfkaa.AM

/- A writer and the document's: what is alike. -/
namespace Go.Proofs.Ytkfofdeceicfkaa.AM
set_option maxRecDepth 100000
set_option linter.unusedVariables false
set_option linter.unusedSimpArgs false

def Tws (s : Nat) : List WEnt → List REnt → Prop
  | [], [] => True
  | e :: es, x :: xs => (e.n = s ∧ e.bs = x.bs ∧ BytesOf e.d x.l ∧ x.l.length ≤ 256) ∧ Tws (s + 1) es xs
  | _, _ => False
theorem Tws.len : ∀ {s : Nat} {es : List WEnt} {xs : List REnt}, Tws s es xs → es.length = xs.length
  | s, [], [], _ => rfl
  | s, e :: es, x :: xs, h => by simp [h.2.len]
  | _, [], _ :: _, h => h.elim
  | _, _ :: _, [], h => h.elim
theorem Tws.get : ∀ {s : Nat} {es : List WEnt} {xs : List REnt} {i : Nat} {e : WEnt}, Tws s es xs → es[i]? = some e → ∃ x, xs[i]? = some x ∧ e.n = s + i ∧ e.bs = x.bs ∧ BytesOf e.d x.l ∧ x.l.length ≤ 256
  | s, [], [], i, e, _, h => by simp at h
  | s, e0 :: es, x :: xs, 0, e, h, he => by
    simp at he; subst he
    exact ⟨x, rfl, h.1⟩
  | s, e0 :: es, x :: xs, i + 1, e, h, he => by
    obtain ⟨y, h1, h2, h3⟩ := Tws.get (i := i) h.2 (by simpa using he)
    exact ⟨y, by simpa using h1, by omega, h3⟩
  | _, [], _ :: _, _, _, h, _ => h.elim
  | _, _ :: _, [], _, _, h, _ => h.elim
theorem Tws.mk : ∀ {s : Nat} {es : List WEnt} {xs : List REnt}, es.length = xs.length → (∀ (i : Nat) (e : WEnt) (x : REnt), es[i]? = some e → xs[i]? = some x → e.n = s + i ∧ e.bs = x.bs ∧ BytesOf e.d x.l ∧ x.l.length ≤ 256) → Tws s es xs
  | s, [], [], _, _ => trivial
  | s, e :: es, x :: xs, hl, h => ⟨h 0 e x rfl rfl, Tws.mk (by simpa using hl) fun i e' x' he hx => by
      have := h (i + 1) e' x' (by simpa using he) (by simpa using hx)
      exact ⟨by omega, this.2⟩⟩
  | _, [], _ :: _, h, _ => by simp at h
  | _, _ :: _, [], h, _ => by simp at h
theorem Tws.snoc {s : Nat} {es : List WEnt} {xs : List REnt} {e : WEnt} {x : REnt} (h : Tws s es xs) (h1 : e.n = s + es.length) (h2 : e.bs = x.bs) (h3 : BytesOf e.d x.l) (h4 : x.l.length ≤ 256) : Tws s (es ++ [e]) (xs ++ [x]) := by
  have hl := h.len
  refine Tws.mk (by simp [hl]) fun i e' x' he hx => ?_
  by_cases hi : i < es.length
  · rw [List.getElem?_append_left hi] at he
    rw [List.getElem?_append_left (by omega)] at hx
    obtain ⟨y, g1, g2⟩ := h.get he
    rw [hx] at g1; cases g1; exact g2
  · have hie := (List.getElem?_eq_some_iff.1 he).1
    simp at hie
    have : i = es.length := by omega
    subst this
    rw [List.getElem?_append_right (Nat.le_refl _)] at he
    rw [List.getElem?_append_right (by omega), ← hl] at hx
    simp at he hx
    subst he hx
    exact ⟨h1, h2, h3, h4⟩
theorem Tws.modify {s : Nat} {es : List WEnt} {xs : List REnt} (h : Tws s es xs) (j p : Nat) (b : Bool) : Tws s (es.modify j (setSaid p b)) (xs.modify j (rsay p b)) := by
  refine Tws.mk (by simp [h.len]) fun i e' x' he hx => ?_
  rw [List.getElem?_modify] at he hx
  cases hy : es[i]? with
  | none => rw [hy] at he; simp at he
  | some y =>
    obtain ⟨z, g1, g2, g3, g4, g5⟩ := h.get hy
    rw [hy] at he; rw [g1] at hx
    by_cases hij : j = i
    · simp [hij] at he hx; subst he hx
      exact ⟨g2, by simp [setSaid, rsay, g3], g4, g5⟩
    · simp [hij] at he hx; subst he hx
      exact ⟨g2, g3, g4, g5⟩
theorem Tws.drop : ∀ {s : Nat} {es : List WEnt} {xs : List REnt} (k : Nat), Tws s es xs → Tws (s + k) (es.drop k) (xs.drop k)
  | s, es, xs, 0, h => h
  | s, [], [], k + 1, _ => trivial
  | s, e :: es, x :: xs, k + 1, h => by
    have := Tws.drop k h.2
    rw [show s + 1 + k = s + (k + 1) by omega] at this
    exact this
  | _, [], _ :: _, _ + 1, h => h.elim
  | _, _ :: _, [], _ + 1, h => h.elim
theorem Tws.take : ∀ {s : Nat} {es : List WEnt} {xs : List REnt} (k : Nat), Tws s es xs → Tws s (es.take k) (xs.take k)
  | s, es, xs, 0, h => trivial
  | s, [], [], k + 1, _ => trivial
  | s, e :: es, x :: xs, k + 1, h => ⟨h.1, Tws.take k h.2⟩
  | _, [], _ :: _, _ + 1, h => h.elim
  | _, _ :: _, [], _ + 1, h => h.elim
theorem Tws.popped {P W A : Nat} : ∀ {s : Nat} {es : List WEnt} {xs : List REnt}, Tws s es xs → AM.popped P W A es = rpopped P W A s xs
  | s, [], [], _ => rfl
  | s, e :: es, x :: xs, h => by
    have : enoughE P W A e = enoughR P W A s x := by simp [enoughE, enoughR, h.1.1, h.1.2.1]
    simp only [AM.popped, rpopped, this, h.2.popped]
  | _, [], _ :: _, h => h.elim
  | _, _ :: _, [], h => h.elim

/-- What is told of entries. -/
def wit (s : Nat) : List REnt → List (Nat × List UInt8)
  | [] => []
  | e :: es => (s, e.l) :: wit (s + 1) es
theorem wit_len : ∀ (es : List REnt) (s : Nat), (wit s es).length = es.length
  | [], s => rfl
  | e :: es, s => by simp [wit, wit_len es (s + 1)]
theorem Tws.icells : ∀ {s : Nat} {es : List WEnt} {xs : List REnt}, Tws s es xs → ICells (itemsC es) (wit s xs)
  | s, [], [], _ => trivial
  | s, e :: es, x :: xs, h => ⟨by rw [h.1.1], h.1.2.2.1, h.2.icells⟩
  | _, [], _ :: _, h => h.elim
  | _, _ :: _, [], h => h.elim
theorem clone_of {d : AVal} {l : List UInt8} (h : BytesOf d l) : BytesOf (cloneV d) l := by
  rcases h with ⟨rfl, rfl⟩ | ⟨t, rfl⟩
  · exact .inl ⟨rfl, rfl⟩
  · exact .inr ⟨_, rfl⟩
theorem Tws.clones : ∀ {s : Nat} {es : List WEnt} {xs : List REnt}, Tws s es xs → Tws s (es.map cloneE) xs
  | s, [], [], _ => trivial
  | s, e :: es, x :: xs, h => ⟨⟨h.1.1, h.1.2.1, clone_of h.1.2.2.1, h.1.2.2.2⟩, h.2.clones⟩
  | _, [], _ :: _, h => h.elim
  | _, _ :: _, [], h => h.elim
theorem Tws.dv {s : Nat} {es : List WEnt} {xs : List REnt} (h : Tws s es xs) : ∀ e ∈ es, DV e.d := by
  intro e he
  obtain ⟨i, hi⟩ := List.mem_iff_getElem?.1 he
  obtain ⟨x, _, _, _, g1, g2⟩ := h.get hi
  exact g1.dv (by omega)
theorem Tws.toA {P W : Nat} : ∀ {s : Nat} {es : List WEnt} {xs : List REnt}, Tws s es xs → es.map (toA P W) = (wl s xs).map (toA P W)
  | s, [], [], _ => rfl
  | s, e :: es, x :: xs, h => by
    have hu : unsaid P W e = unsaid P W ⟨s, x.d, x.s, x.bs⟩ := by simp only [unsaid, h.1.1, h.1.2.1]
    have : AM.toA P W e = AM.toA P W ⟨s, x.d, x.s, x.bs⟩ := by unfold AM.toA; rw [hu]
    simp only [List.map_cons, wl, this, h.2.toA]
  | _, [], _ :: _, h => h.elim
  | _, _ :: _, [], h => h.elim
theorem mcells_of {σ : St} {fd : Nat → Prop} (hlt : ∀ a, fd a → a < σ.next) : ∀ (xs : List REnt) (s : Nat), (∀ x ∈ xs, DM σ fd x.d x.l) → MCells σ (itemsC (wl s xs)) (wit s xs)
  | [], s, _ => trivial
  | x :: xs, s, h => by
    obtain ⟨b, k, c, t, h1, h2, h3, h4⟩ := h x (by simp)
    exact ⟨rfl, .inr ⟨b, k, c, t, h1, h2, hlt b h4, h3⟩, mcells_of hlt xs (s + 1) fun y hy => h y (by simp [hy])⟩
theorem ritems_wl : ∀ (xs : List REnt) (s : Nat), ritems s xs = itemsC (wl s xs)
  | [], s => rfl
  | x :: xs, s => by simp only [ritems, wl, itemsC, ritems_wl xs (s + 1)]

theorem drop_modify {α : Type} (f : α → α) (l : List α) (s n : Nat) (h : s ≤ n) : (l.modify n f).drop s = (l.drop s).modify (n - s) f := by
  apply List.ext_getElem?; intro i
  simp only [List.getElem?_drop, List.getElem?_modify]
  have hi : (n = s + i) = (n - s = i) := by simp only [eq_iff_iff]; omega
  simp only [hi]
theorem Tws.repl {P W : Nat} {place : Int} {s : Nat} {es : List WEnt} {xs : List REnt} (h : Tws s es (xs.drop s)) (hs : s ≤ xs.length) : Tws s (es.map (replE P W place)) ((rrepl P W place s xs.length xs).drop s) := by
  refine Tws.mk (by simp [h.len]) fun i e' x' he hx => ?_
  rw [List.getElem?_map, Option.map_eq_some_iff] at he
  obtain ⟨e, he, rfl⟩ := he
  obtain ⟨x, g1, g2, g3, g4, g5⟩ := h.get he
  rw [List.getElem?_drop] at g1 hx
  have hlt := (List.getElem?_eq_some_iff.1 g1).1
  have hh : hasE P W place e = hasN P W place (s + i) := by simp only [hasE, hasN, g2]
  have hx2 : (rrepl P W place s xs.length xs)[s + i]? = some (if hasN P W place (s + i) = true then rsay place.toNat false x else x) := by
    have c0 : (s ≤ s + i ∧ s + i < xs.length ∧ hasN P W place (s + i) = true) = (hasN P W place (s + i) = true) := propext ⟨fun h => h.2.2, fun h => ⟨by omega, hlt, h⟩⟩
    simp only [rrepl, List.getElem?_mapIdx, g1, Option.map_some, c0]
  rw [hx2] at hx
  cases hx
  by_cases hn : hasN P W place (s + i) = true
  · simp only [replE, hh, hn, if_true]
    exact ⟨g2, by simp [setSaid, rsay, g3], g4, g5⟩
  · rw [if_neg hn, replE, hh, if_neg hn]
    exact ⟨g2, g3, g4, g5⟩
theorem Tws.replN {P W : Nat} {place : Int} : ∀ {s : Nat} {es : List WEnt} {xs : List REnt}, Tws s es xs → AM.replN P W place es = rnums P W place s xs.length
  | s, [], [], _ => rfl
  | s, e :: es, x :: xs, h => by
    have ih := h.2.replN (P := P) (W := W) (place := place)
    have hh : hasE P W place e = hasN P W place s := by simp only [hasE, hasN, h.1.1]
    simp only [AM.replN, rnums, List.length_cons, List.range'_succ, List.filter_cons, hh] at ih ⊢
    cases hasN P W place s <;> simp [ih, h.1.1]
  | _, [], _ :: _, h => h.elim
  | _, _ :: _, [], h => h.elim

/-- A writer and the document's, alike. -/
def PI (σ : St) (w m P W A sure : Nat) (ents : List WEnt) (es : List REnt) (closed : Bool) : Prop :=
  ∃ fp wv fs fd, WRep σ w fp P W A sure ents closed wv ∧ RRep σ m fs fd P W A sure es closed ∧ (∀ a, fp a → ¬ (fs a ∨ fd a)) ∧ Tws sure ents (es.drop sure)
theorem PI.frame {σ σ' : St} {w m P W A sure : Nat} {ents : List WEnt} {es : List REnt} {closed : Bool} (h : PI σ w m P W A sure ents es closed) (hm : ∀ a, a < σ.next → σ'.mem.get a = σ.mem.get a) (hn : σ.next ≤ σ'.next) : PI σ' w m P W A sure ents es closed := by
  obtain ⟨fp, wv, fs, fd, h1, h2, h3, h4⟩ := h
  exact ⟨fp, wv, fs, fd, h1.frame (fun a ha => hm a (h1.lt a ha)) hn, h2.frame (fun a ha => hm a (h2.lt a ha)) hn, h3, h4⟩
/-- What only one writes. -/
theorem RRep.apart_of {σ σ' : St} {m : Nat} {fp fs fd : Nat → Prop} {P W A sure : Nat} {es : List REnt} {closed : Bool} (h : RRep σ m fs fd P W A sure es closed) (hd : ∀ a, fp a → ¬ (fs a ∨ fd a)) (hk : Keeps fp σ σ') : RRep σ' m fs fd P W A sure es closed :=
  h.frame (fun a ha => hk.2 a (h.lt a ha) fun hf => hd a hf ha) hk.1
theorem WRep.apart_of {σ σ' : St} {w : Nat} {fp fs : Nat → Prop} {P W A sure : Nat} {ents : List WEnt} {closed : Bool} {wv : AVal} (h : WRep σ w fp P W A sure ents closed wv) (hd : ∀ a, fp a → ¬ fs a) (hk : Keeps fs σ σ') : WRep σ' w fp P W A sure ents closed wv :=
  h.frame (fun a ha => hk.2 a (h.lt a ha) (hd a ha)) hk.1
end Go.Proofs.Ytkfofdeceicfkaa.AM

/- A call on both. -/
namespace Go.Proofs.Ytkfofdeceicfkaa.AM
set_option maxRecDepth 100000
set_option linter.unusedVariables false
set_option linter.unusedSimpArgs false

theorem PI.heads {σ : St} {w m P W A sure : Nat} {ents : List WEnt} {es : List REnt} {closed : Bool} (h : PI σ w m P W A sure ents es closed) : m < σ.next ∧ w < σ.next ∧ sure ≤ es.length ∧ ents.length = es.length - sure ∧ ∃ dv hv, σ.mem.get m = some (.cells 7 [i64 P, i64 W, i64 A, dv, hv, i64 sure, .bool closed]) := by
  obtain ⟨fp, wv, fs, fd, h1, h2, h3, h4⟩ := h
  obtain ⟨dv, hv, g1, _⟩ := h2.head
  have := h4.len
  rw [List.length_drop] at this
  exact ⟨h2.lt m (.inl h2.mfs), h1.lt w h1.wfp, h2.le, this, dv, hv, g1⟩

def addE (closed : Bool) (k c : Nat) : Int := if closed then 24 else if 256 < k then 3 else if 64 ≤ c then 14 else 0
def addN (closed : Bool) (k c s : Nat) : Nat := if addE closed k c = 0 then s + c else 0
theorem wadd_c {σ : St} {w : Nat} {fp : Nat → Prop} {P W A sure : Nat} {ents : List WEnt} {closed : Bool} {wv : AVal} (h : WRep σ w fp P W A sure ents closed wv) (hP : P ≤ 7) (hs : sure + ents.length ≤ 1000000) {d : AVal} {k : Nat} {dc : Bool → AVal} (hd : DataOk σ d k dc) (Q : AVal → St → Prop)
    (q : ∀ (σ' : St) (fp' : Nat → Prop) (s : Nat) (t : Bool) (wv' : AVal), WRep σ' w fp' P W A sure (if addE closed k ents.length = 0 then ents ++ [⟨sure + ents.length, dc t, s, List.replicate P false⟩] else ents) closed wv' → Keeps fp σ σ' → (∀ a, fp' a → fp a ∨ σ.next ≤ a) → Q (.tup [u64 (addN closed k ents.length sure), i64 (addE closed k ents.length)]) σ') :
    ACall Try.prog 11 [.ptr w 0, d] σ Q := by
  have same : addE closed k ents.length ≠ 0 → Q (.tup [u64 0, i64 (addE closed k ents.length)]) σ := fun hne => by
    have := q σ fp 0 true wv (by rw [if_neg hne]; exact h) ⟨Nat.le_refl _, fun _ _ _ => rfl⟩ (fun a ha => .inl ha)
    rwa [addN, if_neg hne] at this
  refine add_c h hP hs hd Q (fun hc => ?_) (fun hc hk => ?_) (fun hc hk hl => ?_) fun σ' fp' s t wv' hc hk hl hr hke hf => ?_
  · have e : addE closed k ents.length = 24 := by simp [addE, hc]
    rw [e] at same; exact same (by omega)
  · have e : addE closed k ents.length = 3 := by simp [addE, hc, hk]
    rw [e] at same; exact same (by omega)
  · have e : addE closed k ents.length = 14 := by simp [addE, hc, hl, show ¬ 256 < k by omega]
    rw [e] at same; exact same (by omega)
  · have e : addE closed k ents.length = 0 := by simp [addE, hc, show ¬ 64 ≤ ents.length by omega, show ¬ 256 < k by omega]
    have := q σ' fp' s t wv' (by rw [if_pos e, hc]; exact hr) hke hf
    rwa [addN, if_pos e, e] at this
theorem radd2_c {σ : St} {m : Nat} {fs fd : Nat → Prop} {P W A sure : Nat} {es : List REnt} {closed : Bool} (h : RRep σ m fs fd P W A sure es closed) (hP : P ≤ 7) (hs : es.length ≤ 1000000) {d : AVal} {l : List UInt8} (hd : BytesOf d l) (hl : l.length ≤ 140737488351232) (Q : AVal → St → Prop)
    (q : ∀ (σ' : St) (fs' fd' : Nat → Prop) (d' : AVal) (s : Nat), RRep σ' m fs' fd' P W A sure (if addE closed l.length (es.length - sure) = 0 then es ++ [⟨l, d', s, List.replicate P false⟩] else es) closed → Keeps fs σ σ' → (∀ a, fs' a ∨ fd' a → fs a ∨ fd a ∨ σ.next ≤ a) → Q (.tup [u64 (addN closed l.length (es.length - sure) sure), i64 (addE closed l.length (es.length - sure))]) σ') :
    ACall Try.prog 30 [.ptr m 0, d] σ Q := by
  have hle := h.le
  have same : addE closed l.length (es.length - sure) ≠ 0 → Q (.tup [u64 0, i64 (addE closed l.length (es.length - sure))]) σ := fun hne => by
    have := q σ fs fd .nilsl 0 (by rw [if_neg hne]; exact h) ⟨Nat.le_refl _, fun _ _ _ => rfl⟩ (fun a ha => by rcases ha with h | h <;> simp [h])
    rwa [addN, if_neg hne] at this
  refine radd_c h hP hs hd hl Q (fun hc => ?_) (fun hc hk => ?_) (fun hc hk hl => ?_) fun σ' fs' fd' d' s hc hk hl hr hke hf => ?_
  · have e : addE closed l.length (es.length - sure) = 24 := by simp [addE, hc]
    rw [e] at same; exact same (by omega)
  · have e : addE closed l.length (es.length - sure) = 3 := by simp [addE, hc, hk]
    rw [e] at same; exact same (by omega)
  · have e : addE closed l.length (es.length - sure) = 14 := by simp [addE, hc, show 64 ≤ es.length - sure by omega, show ¬ 256 < l.length by omega]
    rw [e] at same; exact same (by omega)
  · have e : addE closed l.length (es.length - sure) = 0 := by simp [addE, hc, show ¬ 64 ≤ es.length - sure by omega, show ¬ 256 < l.length by omega]
    have := q σ' fs' fd' d' s (by rw [if_pos e, hc]; exact hr) hke hf
    rw [addN, if_pos e, e, show sure + (es.length - sure) = es.length by omega] at this
    exact this

def UV (v : AVal) (ns : List Nat) : Prop := ns = [] ∧ v = .nilsl ∨ ∃ t, v = .isl (uv ns) ns.length t
theorem UV.len {v : AVal} {ns : List Nat} (h : UV v ns) (ρ : St) : evalV ρ (.len 1 v) = some (i64 ns.length, ρ) := by
  rcases h with ⟨rfl, rfl⟩ | ⟨t, rfl⟩ <;> simp
theorem UV.at {v : AVal} {ns : List Nat} (h : UV v ns) {i n : Nat} (hi : ns[i]? = some n) (ρ : St) : ∃ p, evalV ρ (.idxAddr 1 v (i64 i)) = some (p, ρ) ∧ evalV ρ (.ld1 p) = some (u64 n, ρ) := by
  rcases h with ⟨rfl, rfl⟩ | ⟨t, rfl⟩
  · simp at hi
  · have hl := (List.getElem?_eq_some_iff.1 hi).1
    have hu : (uv ns)[i]? = some (u64 (n : Int)) := by simp [uv, hi]
    have hil : i < (uv ns).length := by simpa [uv] using hl
    have e1 : ((uv ns).drop i).take 1 = [u64 (n : Int)] := by
      rw [List.drop_eq_getElem_cons hil, (List.getElem?_eq_some_iff.1 hu).2]; rfl
    exact ⟨.iptr [u64 (n : Int)], by simp [hl, e1], by simp⟩

def XorJ (w m b ib : Nat) (c : Nat) (t : Bool) (len : Nat) (N : Nat) (E : Int) (σ0 : St) (mm : Nat) (r : Regs) (σ' : St) : Prop := ∃ (i : Nat) (X : List AVal), mm = len - i ∧ i ≤ len ∧ X.length = len ∧ (∀ y ∈ X, ∃ x, y = .int .u8 x) ∧ σ'.next = σ0.next ∧ σ'.mem.get ib = some (.cells 1 X) ∧ (∀ a, a ≠ ib → σ'.mem.get a = σ0.mem.get a) ∧
  r = [(1, .ptr m 0), (5, .ptr b 0), (7, .sl ib 0 len c t), (8, u64 N), (9, i64 E), (62, i64 len), (63, i64 i)]
def CmpJ (v1 v2 : AVal) (len : Nat) (σ0 : St) (mm : Nat) (r : Regs) (σ' : St) : Prop := ∃ i : Nat, mm = len - i ∧ i ≤ len ∧ σ' = σ0 ∧ r = [(13, v1), (14, v2), (104, i64 len), (105, i64 i)]

/-- The same, with a block of a caller's beside. -/
def PIb (σ : St) (w m b P W A sure : Nat) (ents : List WEnt) (es : List REnt) (closed : Bool) : Prop :=
  ∃ fp wv fs fd, WRep σ w fp P W A sure ents closed wv ∧ RRep σ m fs fd P W A sure es closed ∧ (∀ a, fp a → ¬ (fs a ∨ fd a)) ∧ Tws sure ents (es.drop sure) ∧ ¬ fp b ∧ ¬ (fs b ∨ fd b)
theorem PI.at {σ σ' : St} {w m P W A sure : Nat} {ents : List WEnt} {es : List REnt} {closed : Bool} (h : PI σ w m P W A sure ents es closed) (hm : ∀ a, a < σ.next → σ'.mem.get a = σ.mem.get a) (hn : σ.next ≤ σ'.next) : PIb σ' w m σ.next P W A sure ents es closed := by
  obtain ⟨fp, wv, fs, fd, h1, h2, h3, h4⟩ := h
  exact ⟨fp, wv, fs, fd, h1.frame (fun a ha => hm a (h1.lt a ha)) hn, h2.frame (fun a ha => hm a (h2.lt a ha)) hn, h3, h4, fun hf => by have := h1.lt _ hf; omega, fun hf => by have := h2.lt _ hf; omega⟩
theorem PIb.pi {σ : St} {w m b P W A sure : Nat} {ents : List WEnt} {es : List REnt} {closed : Bool} (h : PIb σ w m b P W A sure ents es closed) : PI σ w m P W A sure ents es closed := by
  obtain ⟨fp, wv, fs, fd, h1, h2, h3, h4, _⟩ := h
  exact ⟨fp, wv, fs, fd, h1, h2, h3, h4⟩

def DidM (w m b : Nat) (kind : Nat) (d : AVal) (place : Int) (entry : Nat) (raw : Bool) (P W A sure : Nat) (ents : List WEnt) (es : List REnt) (closed : Bool) (σ0 : St) (r : Regs) (σ1 : St) : Prop :=
  r.lookup 0 = some (.ptr w 0) ∧ r.lookup 1 = some (.ptr m 0) ∧ r.lookup 5 = some (.ptr b 0) ∧ PIb σ1 w m b P W A sure ents es closed ∧ σ1.mem.get b = some (.cells 5 [.int .u8 kind, d, i64 place, u64 entry, .bool raw]) ∧ b < σ1.next ∧ b = σ0.next ∧ (∀ a, a < σ0.next → σ1.mem.get a = σ0.mem.get a)

theorem did_c {σ : St} {w m P W A sure : Nat} {ents : List WEnt} {es : List REnt} {closed : Bool} (h : PI σ w m P W A sure ents es closed) (hq : 1 ≤ A ∧ A ≤ W ∧ W ≤ P ∧ P ≤ 7) (hs : es.length ≤ 100000) (kind : Nat) (hk : kind < 256) {d : AVal} {l : List UInt8} (hd : BytesOf d l) (hl : l.length ≤ 400) (place : Int) (entry : Nat) (he : entry < 18446744073709551616) (raw : Bool) (Q : AVal → St → Prop)
    (q : ∀ (σ' : St) (sure' : Nat) (ents' : List WEnt) (es' : List REnt) (closed' : Bool), PI σ' w m P W A sure' ents' es' closed' → es'.length ≤ es.length + 1 → Q (.bool true) σ') :
    ACall Try.prog 22 [.ptr w 0, .ptr m 0, .agg [.int .u8 (kind : Int), d, i64 place, u64 entry, .bool raw]] σ Q := by
  refine ACall.of_compF hmx (fun a w => Try.call22 a w) Try.func22 cf22 (n := 3) (by decide) rfl ?_
  obtain ⟨hm0, hw0, hle, hlen, dv, hv, hh⟩ := h.heads
  have hd1 := hd.one
  simp only [ac22]
  refine wp_cut (DidM w m σ.next kind d place entry raw P W A sure ents es closed σ) ?_ ?_
  · simp [lk_cons, hd1.1, hd1.2]
    exact ⟨rfl, rfl, rfl, h.at (fun a ha => by simp [show ¬ a = σ.next by omega]) (by simp), by simp, by simp, rfl, fun a ha => by simp [show ¬ a = σ.next by omega]⟩
  rintro r σ1 ⟨r0, r1, r5, h1, hb1, hb2, hbe, hk1⟩
  refine wp_cut (fun r σ2 => ∃ (place' : Int) (n : Nat), n < 18446744073709551616 ∧ DidM w m σ.next kind d place' n raw P W A sure ents es closed σ r σ2) ?_ ?_
  · cases raw with
    | true =>
      simp [lk_cons, r0, r1, r5, hb1]
      exact ⟨place, entry, he, rfl, rfl, rfl, h1, hb1, hb2, rfl, hk1⟩
    | false =>
      obtain ⟨n, hn⟩ : ∃ n, sure + entry % 4 = n := ⟨_, rfl⟩
      have w1 : (entry : Int).tmod 4 = ((entry % 4 : Nat) : Int) := by rw [Int.tmod_eq_emod_of_nonneg (by omega)]; omega
      have w2 : IntKind.u64.wrap (sure : Int) = (sure : Int) := by rw [IntWalk.u64_in]; omega
      have w3 : IntKind.u64.wrap (P : Int) = (P : Int) := by rw [IntWalk.u64_in]; omega
      have w4 : IntKind.u64.wrap ((sure : Int) + ((entry % 4 : Nat) : Int)) = (n : Int) := by rw [IntWalk.u64_in] <;> omega
      have hP0 : ¬ (P : Int) = 0 := by omega
      have hP1 : ¬ P = 0 := by omega
      have hm1 : ¬ m = σ.next := by omega
      have hh1 : σ1.mem.get m = _ := (hk1 m hm0).trans hh
      generalize ((entry % 4 : Nat) : Int) = x at w1 w4
      simp [lk_cons, r0, r1, r5, hb1, hh1, w1, w2, w3, w4, hP0, hP1, hm1, storeL]
      refine ⟨_, n, by omega, rfl, rfl, rfl, ?_, by simp; rfl, by simpa using hb2, rfl, fun a ha => by simp [show ¬ a = σ.next by omega]; exact hk1 a ha⟩
      exact h.at (fun a ha => by simp [show ¬ a = σ.next by omega]; exact hk1 a ha) (by simp; omega)
  rintro r σ2 ⟨place', n, hn, s0, s1, s5, h2, hb3, hb4, _, _⟩
  clear h1 hb1 hb2 hk1 hh h r0 r1 r5
  obtain ⟨k7, hk7⟩ : ∃ k7, kind % 7 = k7 := ⟨_, rfl⟩
  have hk77 : k7 < 7 := by omega
  have w7 : (kind : Int).tmod 7 = (k7 : Int) := by rw [← hk7, Int.tmod_eq_emod_of_nonneg (by omega)]; omega
  have hb : σ.next < σ2.next := hb4
  obtain ⟨hm0, hw0, hle, hlen, dv, hv, hh⟩ := h2.pi.heads
  obtain ⟨fp, wv, fs, fd, g1, g2, g3, g4, hbf, hbs⟩ := h2
  generalize σ.next = b at s5 hb3 hb hbf hbs
  have l1 := hd.len
  have bl := bytesV_len l
  have hsrc : ∀ ρ : St, srcL ρ 1 d = some (bytesV l, l.length) := by
    intro ρ
    rcases hd with ⟨rfl, rfl⟩ | ⟨t, rfl⟩
    · rfl
    · simp [srcL, bl]
  rcases (show k7 = 0 ∨ k7 = 1 ∨ k7 = 5 ∨ k7 = 6 ∨ (k7 = 2 ∨ k7 = 3 ∨ k7 = 4) by omega) with rfl | rfl | rfl | rfl | c7
  · simp [-condK_true, lk_cons, s0, s1, s5, hb3, w7]
    rw [condK_true]
    simp [-condK_true, lk_cons, s0, s1, s5, hb3, w7]
    rw [condK_true]
    refine wp_cut (fun r σ3 => ∃ ib c t, r = [(0, .ptr w 0), (1, .ptr m 0), (5, .ptr b 0), (7, .sl ib 0 l.length c t)] ∧ σ3.mem.get ib = some (.cells 1 (bytesV l)) ∧ σ2.next ≤ ib ∧ ib < σ3.next ∧ (∀ a, a < σ2.next → σ3.mem.get a = σ2.mem.get a)) ?_ ?_
    · have rl0 : ∀ z, repL 0 z = [] := fun z => rfl
      have q1 : ¬ b = σ2.next := by omega
      by_cases hl0 : l = []
      · subst hl0
        simp [lk_cons, fillL, rl0, hb3, ↓hsrc, storeL, q1]
        exact ⟨by simp [bytesV, storeL], fun a ha => by simp [show ¬ a = σ2.next by omega]⟩
      · have hl1 : ¬ l.length = 0 := fun e => hl0 (List.length_eq_zero_iff.1 e)
        have hlb : l.length ≤ 140737488355328 ∧ l.length ≤ 9223372036854775807 := by omega
        simp [lk_cons, fillL, rl0, hb3, ↓hsrc, storeL, q1, hl0, hl1, hlb]
        exact fun a ha => by simp [show ¬ a = σ2.next by omega, show ¬ a = σ2.next + 1 by omega]
    · rintro r σ3 ⟨ib, c, t, rfl, m1, m2, m3, m4⟩
      simp [lk_cons]
      have g1' : WRep σ3 w fp P W A sure ents closed wv := g1.frame (fun a ha => m4 a (g1.lt a ha)) (by omega)
      have g2' : RRep σ3 m fs fd P W A sure es closed := g2.frame (fun a ha => m4 a (g2.lt a ha)) (by omega)
      have hib : ¬ fp ib := fun hf => by have := g1.lt _ hf; omega
      have hib2 : ¬ (fs ib ∨ fd ib) := fun hf => by have := g2.lt _ hf; omega
      refine wadd_c g1' (by omega) (by omega) (data_sl σ3 ib c (bytesV l) l.length t bl (by omega) m1 m3 (bytesV_upto 0 l)) _ fun σ4 fp' s t' wv' r4 k4 f4 => ?_
      have k41 := k4.1
      have b4 : σ4.mem.get b = _ := (k4.2 b (by omega) hbf).trans ((m4 b hb).trans hb3)
      have i4 : σ4.mem.get ib = _ := (k4.2 ib m3 hib).trans m1
      simp [lk_cons]
      refine wp_loop (XorJ w m b ib c t l.length (addN closed l.length ents.length sure) (addE closed l.length ents.length) σ4) l.length ?_ ?_
      · exact ⟨0, bytesV l, rfl, by omega, bl, fun y hy => by simp only [bytesV, List.mem_map] at hy; obtain ⟨z, _, rfl⟩ := hy; exact ⟨_, rfl⟩, rfl, i4, fun _ _ => rfl, rfl⟩
      · rintro mm r σ5 ⟨i, X, rfl, hi, hX, hXu, hn5, x5, k5, rfl⟩
        by_cases hlt : i < l.length
        · obtain ⟨y, hy⟩ : ∃ y, X[i]? = some y := ⟨_, List.getElem?_eq_getElem (by omega)⟩
          obtain ⟨x, rfl⟩ := hXu y (List.mem_of_getElem? hy)
          obtain ⟨j, hj⟩ : ∃ j, i + 1 = j := ⟨_, rfl⟩
          have hw : IntKind.i64.wrap ((i : Int) + 1) = (j : Int) := by rw [IntWalk.i64_in] <;> omega
          have hXl : i + 1 ≤ X.length := by omega
          simp [lk_cons, hlt, x5, hy, abits, storeL, hw, hXl]
          refine ⟨l.length - j, by omega, j, X.set i (.int .u8 _), rfl, by omega, by simpa using hX, fun y hy => ?_, hn5, by simp; rfl, fun a ha => by simp [ha]; exact k5 a ha, rfl⟩
          rcases List.mem_or_eq_of_mem_set hy with hy | rfl
          · exact hXu y hy
          · exact ⟨_, rfl⟩
        · have : i = l.length := by omega
          subst this
          have b5 : σ5.mem.get b = _ := (k5 b (by omega)).trans b4
          simp [lk_cons, b5]
          have g2'' : RRep σ5 m fs fd P W A sure es closed := by
            refine g2'.frame (fun a ha => ?_) (by omega)
            rw [k5 a (fun e => hib2 (e ▸ ha))]
            exact k4.2 a (g2'.lt a ha) fun hf => g3 a hf ha
          refine radd2_c g2'' (by omega) (by omega) hd (by omega) _ fun σ6 fs' fd' d' s' r6 k6 f6 => ?_
          have hdisj : ∀ a, fp' a → ¬ (fs' a ∨ fd' a) := fun a h1 h2 => by
            have ha4 := r4.lt a h1
            rcases f6 a h2 with h | h | h
            · rcases f4 a h1 with hp | hp
              · exact g3 a hp (.inl h)
              · have := g2.lt a (.inl h); omega
            · rcases f4 a h1 with hp | hp
              · exact g3 a hp (.inr h)
              · have := g2.lt a (.inr h); omega
            · omega
          have hpib : ∀ a, fp' a → a ≠ ib := fun a h1 e => by
            subst e
            rcases f4 _ h1 with hp | hp
            · exact hib hp
            · omega
          have hpfs : ∀ a, fp' a → ¬ fs a := fun a h1 h2 => by
            rcases f4 a h1 with hp | hp
            · exact g3 a hp (.inl h2)
            · have := g2.lt a (.inl h2); omega
          have r4' := (r4.frame (fun a ha => k5 a (hpib a ha)) (by omega : σ4.next ≤ σ5.next)).apart_of hpfs k6
          rw [hlen] at r4'
          simp [lk_cons, hlen]
          refine q σ6 sure _ _ closed ⟨fp', _, fs', fd', r4', r6, hdisj, ?_⟩ ?_
          · by_cases hz : addE closed l.length (es.length - sure) = 0
            · rw [if_pos hz, if_pos hz, List.drop_append_of_le_length hle]
              refine g4.snoc (by simp [hlen]) rfl (.inr ⟨_, rfl⟩) ?_
              simp only [addE] at hz
              split at hz
              · omega
              · split at hz
                · omega
                · show l.length ≤ 256
                  omega
            · rw [if_neg hz, if_neg hz]; exact g4
          · split <;> simp
  · simp [-condK_true, lk_cons, s0, s1, s5, hb3, w7]
    rw [condK_true]
    refine wp_cut (fun r σ3 => ∃ ib c t, r = [(0, .ptr w 0), (1, .ptr m 0), (5, .ptr b 0), (7, .sl ib 0 l.length c t)] ∧ σ3.mem.get ib = some (.cells 1 (bytesV l)) ∧ σ2.next ≤ ib ∧ ib < σ3.next ∧ (∀ a, a < σ2.next → σ3.mem.get a = σ2.mem.get a)) ?_ ?_
    · have rl0 : ∀ z, repL 0 z = [] := fun z => rfl
      have q1 : ¬ b = σ2.next := by omega
      by_cases hl0 : l = []
      · subst hl0
        simp [lk_cons, fillL, rl0, hb3, ↓hsrc, storeL, q1]
        exact ⟨by simp [bytesV, storeL], fun a ha => by simp [show ¬ a = σ2.next by omega]⟩
      · have hl1 : ¬ l.length = 0 := fun e => hl0 (List.length_eq_zero_iff.1 e)
        have hlb : l.length ≤ 140737488355328 ∧ l.length ≤ 9223372036854775807 := by omega
        simp [lk_cons, fillL, rl0, hb3, ↓hsrc, storeL, q1, hl0, hl1, hlb]
        exact fun a ha => by simp [show ¬ a = σ2.next by omega, show ¬ a = σ2.next + 1 by omega]
    · rintro r σ3 ⟨ib, c, t, rfl, m1, m2, m3, m4⟩
      simp [lk_cons]
      have g1' : WRep σ3 w fp P W A sure ents closed wv := g1.frame (fun a ha => m4 a (g1.lt a ha)) (by omega)
      have g2' : RRep σ3 m fs fd P W A sure es closed := g2.frame (fun a ha => m4 a (g2.lt a ha)) (by omega)
      have hib : ¬ fp ib := fun hf => by have := g1.lt _ hf; omega
      have hib2 : ¬ (fs ib ∨ fd ib) := fun hf => by have := g2.lt _ hf; omega
      refine wadd_c g1' (by omega) (by omega) (data_sl σ3 ib c (bytesV l) l.length t bl (by omega) m1 m3 (bytesV_upto 0 l)) _ fun σ4 fp' s t' wv' r4 k4 f4 => ?_
      have k41 := k4.1
      have b4 : σ4.mem.get b = _ := (k4.2 b (by omega) hbf).trans ((m4 b hb).trans hb3)
      have i4 : σ4.mem.get ib = _ := (k4.2 ib m3 hib).trans m1
      simp [lk_cons]
      refine wp_loop (XorJ w m b ib c t l.length (addN closed l.length ents.length sure) (addE closed l.length ents.length) σ4) l.length ?_ ?_
      · exact ⟨0, bytesV l, rfl, by omega, bl, fun y hy => by simp only [bytesV, List.mem_map] at hy; obtain ⟨z, _, rfl⟩ := hy; exact ⟨_, rfl⟩, rfl, i4, fun _ _ => rfl, rfl⟩
      · rintro mm r σ5 ⟨i, X, rfl, hi, hX, hXu, hn5, x5, k5, rfl⟩
        by_cases hlt : i < l.length
        · obtain ⟨y, hy⟩ : ∃ y, X[i]? = some y := ⟨_, List.getElem?_eq_getElem (by omega)⟩
          obtain ⟨x, rfl⟩ := hXu y (List.mem_of_getElem? hy)
          obtain ⟨j, hj⟩ : ∃ j, i + 1 = j := ⟨_, rfl⟩
          have hw : IntKind.i64.wrap ((i : Int) + 1) = (j : Int) := by rw [IntWalk.i64_in] <;> omega
          have hXl : i + 1 ≤ X.length := by omega
          simp [lk_cons, hlt, x5, hy, abits, storeL, hw, hXl]
          refine ⟨l.length - j, by omega, j, X.set i (.int .u8 _), rfl, by omega, by simpa using hX, fun y hy => ?_, hn5, by simp; rfl, fun a ha => by simp [ha]; exact k5 a ha, rfl⟩
          rcases List.mem_or_eq_of_mem_set hy with hy | rfl
          · exact hXu y hy
          · exact ⟨_, rfl⟩
        · have : i = l.length := by omega
          subst this
          have b5 : σ5.mem.get b = _ := (k5 b (by omega)).trans b4
          simp [lk_cons, b5]
          have g2'' : RRep σ5 m fs fd P W A sure es closed := by
            refine g2'.frame (fun a ha => ?_) (by omega)
            rw [k5 a (fun e => hib2 (e ▸ ha))]
            exact k4.2 a (g2'.lt a ha) fun hf => g3 a hf ha
          refine radd2_c g2'' (by omega) (by omega) hd (by omega) _ fun σ6 fs' fd' d' s' r6 k6 f6 => ?_
          have hdisj : ∀ a, fp' a → ¬ (fs' a ∨ fd' a) := fun a h1 h2 => by
            have ha4 := r4.lt a h1
            rcases f6 a h2 with h | h | h
            · rcases f4 a h1 with hp | hp
              · exact g3 a hp (.inl h)
              · have := g2.lt a (.inl h); omega
            · rcases f4 a h1 with hp | hp
              · exact g3 a hp (.inr h)
              · have := g2.lt a (.inr h); omega
            · omega
          have hpib : ∀ a, fp' a → a ≠ ib := fun a h1 e => by
            subst e
            rcases f4 _ h1 with hp | hp
            · exact hib hp
            · omega
          have hpfs : ∀ a, fp' a → ¬ fs a := fun a h1 h2 => by
            rcases f4 a h1 with hp | hp
            · exact g3 a hp (.inl h2)
            · have := g2.lt a (.inl h2); omega
          have r4' := (r4.frame (fun a ha => k5 a (hpib a ha)) (by omega : σ4.next ≤ σ5.next)).apart_of hpfs k6
          rw [hlen] at r4'
          simp [lk_cons, hlen]
          refine q σ6 sure _ _ closed ⟨fp', _, fs', fd', r4', r6, hdisj, ?_⟩ ?_
          · by_cases hz : addE closed l.length (es.length - sure) = 0
            · rw [if_pos hz, if_pos hz, List.drop_append_of_le_length hle]
              refine g4.snoc (by simp [hlen]) rfl (.inr ⟨_, rfl⟩) ?_
              simp only [addE] at hz
              split at hz
              · omega
              · split at hz
                · omega
                · show l.length ≤ 256
                  omega
            · rw [if_neg hz, if_neg hz]; exact g4
          · split <;> simp
  · simp [lk_cons, s0, s1, s5, hb3, w7]
    refine replace_c g1 hq (by omega) place' _ fun σ3 v1 r3 k3 hv1 => ?_
    have b3 : σ3.mem.get b = _ := (k3.2 b hb hbf).trans hb3
    have g2' := g2.apart_of g3 k3
    simp [lk_cons, b3, hb3]
    refine rreplace_c g2' hq (by omega) place' _ fun σ4 v2 r4 k4 hv2 => ?_
    have r3' := r3.apart_of (fun a h1 h2 => g3 a h1 (.inl h2)) k4
    have hnn := g4.replN (P := P) (W := W) (place := place')
    rw [List.length_drop] at hnn
    rw [hnn] at hv1
    have hnl := rnums_le P W place' sure (es.length - sure)
    replace hv1 : UV v1 _ := hv1
    replace hv2 : UV v2 _ := hv2
    have fin := q σ4 sure _ _ closed ⟨fp, _, fs, fd, r3', r4, g3, g4.repl hle⟩ (by simp)
    clear r4 r3' r3 hnn
    generalize rnums P W place' sure (es.length - sure) = ns at hv1 hv2 hnl
    have l2 := hv1.len
    have l3 := hv2.len
    simp [lk_cons, ↓l2, ↓l3]
    refine wp_loop (CmpJ v1 v2 ns.length σ4) ns.length ⟨0, rfl, by omega, rfl, rfl⟩ ?_
    rintro mm r σ' ⟨i, rfl, hi, rfl, rfl⟩
    by_cases hlt : i < ns.length
    · obtain ⟨x, hx⟩ : ∃ x, ns[i]? = some x := ⟨_, List.getElem?_eq_getElem hlt⟩
      obtain ⟨j, hj⟩ : ∃ j, i + 1 = j := ⟨_, rfl⟩
      have hw : IntKind.i64.wrap ((i : Int) + 1) = (j : Int) := by rw [IntWalk.i64_in] <;> omega
      obtain ⟨p1, e1, e2⟩ := hv1.at hx σ'
      obtain ⟨p2, e3, e4⟩ := hv2.at hx σ'
      simp [lk_cons, hlt, ↓e1, ↓e2, ↓e3, ↓e4, hw]
      exact ⟨ns.length - j, by omega, j, rfl, by omega, rfl, rfl⟩
    · simp [lk_cons, hlt]
      exact fin
  · simp [lk_cons, s0, s1, s5, hb3, w7]
    refine close_c g1 _ (fun hne => ?_) fun σ3 hen r3 k3 => ?_
    · have hp := List.length_pos_iff.2 hne
      simp [lk_cons]
      refine rclose_c g2 (by omega) _ (fun hlt => ?_) fun σ4 heq => by omega
      simp [lk_cons]
      exact q σ2 sure ents es closed ⟨fp, wv, fs, fd, g1, g2, g3, g4⟩ (by omega)
    · rw [hen] at hlen
      simp at hlen
      simp [lk_cons]
      refine rclose_c (g2.apart_of g3 k3) (by omega) _ (fun hlt => by omega) fun σ4 heq r4 k4 => ?_
      simp [lk_cons]
      exact q σ4 sure [] es true ⟨fp, _, fs, fd, r3.apart_of (fun a h1 h2 => g3 a h1 (.inl h2)) k4, r4, g3, by rw [heq, List.drop_length]; trivial⟩ (by omega)
  · have k0 : ¬ (k7 : Int) = 0 := by omega
    have k1 : ¬ (k7 : Int) = 1 := by omega
    have k5 : ¬ (k7 : Int) = 5 := by omega
    have k6 : ¬ (k7 : Int) = 6 := by omega
    have k0' : ¬ k7 = 0 := by omega
    simp [lk_cons, s0, s1, s5, hb3, w7, k0, k1, k5, k6, k0']
    refine ack_c g1 hq (by omega) place' n hn _ (fun hbad => ?_) fun σ3 wv' v1 p k hp1 hp2 hp3 hp4 hk' r3 k3 hv1 => ?_
    · simp [lk_cons, hb3]
      refine rack_c g2 hq (by omega) place' n hn _ (fun _ => ?_) fun σ4 v2 p k hp1 hp2 hp3 hp4 => ?_
      · simp [lk_cons]
        refine same_cm (xs := []) (ys := []) (.inl ⟨rfl, rfl⟩) _ (.inl ⟨rfl, rfl⟩) (by simp) _ ?_
        simp [lk_cons]
        exact q σ2 sure ents es closed ⟨fp, wv, fs, fd, g1, g2, g3, g4⟩ (by omega)
      · rcases hbad with h | h | h
        · omega
        · omega
        · exact absurd ⟨p, hp2, hp1⟩ h
    · have b3 : σ3.mem.get b = _ := (k3.2 b hb hbf).trans hb3
      have g2' := g2.apart_of g3 k3
      simp [lk_cons, b3, hb3]
      refine rack_c g2' hq (by omega) place' n hn _ (fun hbad => ?_) fun σ4 v2 p2 k2 hp1' hp2' hp3' hp4' hk2 r4 k4 hv2 => ?_
      · rcases hbad with h | h | h
        · omega
        · omega
        · exact absurd ⟨p, hp2, hp1⟩ h
      · obtain rfl : p2 = p := by omega
        have tw := g4.modify (n - sure) p2 true
        rw [← drop_modify _ _ _ _ hp3] at tw
        replace hk' : k = rpopped P W A sure ((es.modify n (rsay p2 true)).drop sure) := hk'.trans tw.popped
        obtain rfl : k2 = k := hk2.trans hk'.symm
        have r3' := r3.apart_of (fun a h1 h2 => g3 a h1 (.inl h2)) k4
        have twd := tw.drop k2
        rw [List.drop_drop] at twd
        have twt := tw.take k2
        have hle4 := r4.le
        simp at hle4
        have htl : (((es.modify n (rsay p2 true)).drop sure).take k2).length = k2 := by simp; omega
        have ic := twt.icells
        have mc := mcells_of (fd := fd) (fun a ha => r4.lt a (.inr ha)) (((es.modify n (rsay p2 true)).drop sure).take k2) sure fun x hx => r4.data x (List.mem_of_mem_drop (List.mem_of_mem_take hx))
        rw [← ritems_wl] at mc
        have wl2 := wit_len (((es.modify n (rsay p2 true)).drop sure).take k2) sure
        rw [htl] at wl2
        simp [lk_cons]
        refine same_cm (xs := wit sure (((es.modify n (rsay p2 true)).drop sure).take k2)) (ys := wit sure (((es.modify n (rsay p2 true)).drop sure).take k2)) ?_ _ ?_ (by omega) _ ?_
        · rcases hv1 with ⟨e0, e1⟩ | ⟨t, e1⟩
          · exact .inl ⟨e1, List.length_eq_zero_iff.1 (by omega)⟩
          · exact .inr ⟨_, _, t, e1, wl2.symm, ic⟩
        · rcases hv2 with ⟨e0, e1⟩ | ⟨t, e1⟩
          · exact .inl ⟨e1, List.length_eq_zero_iff.1 (by omega)⟩
          · exact .inr ⟨_, _, t, e1, wl2.symm, mc⟩
        · simp [lk_cons]
          exact q σ4 (sure + k2) _ _ closed ⟨fp, wv', fs, fd, r3', r4, g3, twd⟩ (by simp)
end Go.Proofs.Ytkfofdeceicfkaa.AM

/- What both show. -/
namespace Go.Proofs.Ytkfofdeceicfkaa.AM
set_option maxRecDepth 100000
set_option linter.unusedVariables false
set_option linter.unusedSimpArgs false

/-- Lists of places, told. -/
def TL (P W : Nat) (tv : AVal) (L : List WEnt) : Prop := L = [] ∧ tv = .nilsl ∨ tv = .isl (L.map (toA P W)) L.length false
theorem TL.len {P W : Nat} {tv : AVal} {L : List WEnt} (h : TL P W tv L) (ρ : St) : evalV ρ (.len 1 tv) = some (i64 L.length, ρ) := by
  rcases h with ⟨rfl, rfl⟩ | rfl <;> simp
def LP (v : AVal) (l : List Nat) : Prop := l = [] ∧ v = .nilsl ∨ v = .isl (iv l) l.length false
theorem LP.len {v : AVal} {l : List Nat} (h : LP v l) (ρ : St) : evalV ρ (.len 1 v) = some (i64 l.length, ρ) := by
  rcases h with ⟨rfl, rfl⟩ | rfl <;> simp
theorem LP.at {v : AVal} {l : List Nat} (h : LP v l) {i n : Nat} (hi : l[i]? = some n) (ρ : St) : ∃ p, evalV ρ (.idxAddr 1 v (i64 i)) = some (p, ρ) ∧ evalV ρ (.ld1 p) = some (i64 n, ρ) := by
  rcases h with ⟨rfl, rfl⟩ | rfl
  · simp at hi
  · have hl := (List.getElem?_eq_some_iff.1 hi).1
    have hu : (iv l)[i]? = some (i64 (n : Int)) := by simp [iv, hi]
    have hil : i < (iv l).length := by simpa [iv] using hl
    have e1 : ((iv l).drop i).take 1 = [i64 (n : Int)] := by
      rw [List.drop_eq_getElem_cons hil, (List.getElem?_eq_some_iff.1 hu).2]; rfl
    exact ⟨.iptr [i64 (n : Int)], by simp [hl, e1], by simp⟩
theorem toA_lp (P W : Nat) (e : WEnt) : LP (toA P W e) (unsaid P W e) := by
  unfold toA
  by_cases h : unsaid P W e = []
  · rw [if_pos h]; exact .inl ⟨h, rfl⟩
  · rw [if_neg h]; exact .inr rfl
theorem TL.at {P W : Nat} {tv : AVal} {L : List WEnt} (h : TL P W tv L) {i : Nat} {e : WEnt} (hi : L[i]? = some e) (ρ : St) : ∃ p, evalV ρ (.idxAddr 1 tv (i64 i)) = some (p, ρ) ∧ evalV ρ (.ld1 p) = some (toA P W e, ρ) := by
  rcases h with ⟨rfl, rfl⟩ | rfl
  · simp at hi
  · have hl := (List.getElem?_eq_some_iff.1 hi).1
    have hu : (L.map (toA P W))[i]? = some (toA P W e) := by simp [hi]
    have hil : i < (L.map (toA P W)).length := by simpa using hl
    have e1 : ((L.map (toA P W)).drop i).take 1 = [toA P W e] := by
      rw [List.drop_eq_getElem_cons hil, (List.getElem?_eq_some_iff.1 hu).2]; rfl
    exact ⟨.iptr [toA P W e], by simp only [evalV]; simp [hl, ← List.map_drop, ← List.map_take] at e1 ⊢; simpa using e1, by simp⟩

def ShJ1 (w m : Nat) (tv tv2 : AVal) (L : List WEnt) (σ0 : St) (mm : Nat) (r : Regs) (σ' : St) : Prop := ∃ i : Nat, mm = L.length - i ∧ i ≤ L.length ∧ σ' = σ0 ∧ r = [(0, .ptr w 0), (1, .ptr m 0), (6, tv), (8, tv2), (33, i64 L.length), (34, i64 i)]
def ShJ2 (w m : Nat) (tv tv2 : AVal) (L : List WEnt) (i : Nat) (l : List Nat) (σ0 : St) (mm : Nat) (r : Regs) (σ' : St) : Prop := ∃ j : Nat, mm = l.length - j ∧ j ≤ l.length ∧ σ' = σ0 ∧ r = [(0, .ptr w 0), (1, .ptr m 0), (6, tv), (8, tv2), (9, i64 i), (33, i64 L.length), (34, i64 i), (52, i64 l.length), (53, i64 j)]

theorem shows_c {σ : St} {w m P W A sure : Nat} {ents : List WEnt} {es : List REnt} {closed : Bool} (h : PI σ w m P W A sure ents es closed) (hq : 1 ≤ A ∧ A ≤ W ∧ W ≤ P ∧ P ≤ 7) (hs : es.length ≤ 100000) (Q : AVal → St → Prop) (q : Q (.bool true) σ) : ACall Try.prog 23 [.ptr w 0, .ptr m 0] σ Q := by
  refine ACall.of_compF hmx (fun a w => Try.call23 a w) Try.func23 cf23 (n := 2) (by decide) rfl ?_
  obtain ⟨hm0, hw0, hle, hlen, dv, hv, hh⟩ := h.heads
  obtain ⟨fp, wv, fs, fd, g1, g2, g3, g4⟩ := h
  obtain ⟨L, hL⟩ : ∃ L, L = wl sure (es.drop sure) := ⟨_, rfl⟩
  have htA := g4.toA (P := P) (W := W)
  rw [← hL] at htA
  have hLl : L.length = es.length - sure := by rw [hL, wl_len, List.length_drop]
  have ic := g4.clones.icells
  have mc := mcells_of (fd := fd) (fun a ha => g2.lt a (.inr ha)) (es.drop sure) sure fun x hx => g2.data x (List.mem_of_mem_drop hx)
  rw [← hL] at mc
  have wl2 := wit_len (es.drop sure) sure
  rw [List.length_drop] at wl2
  have A1 : ACall Try.prog 19 [.ptr w 0] σ fun v σ' => σ' = σ ∧ ∃ v1 tv, v = .tup [v1, tv] ∧ ItemsOf v1 (wit sure (es.drop sure)) ∧ TL P W tv L := by
    refine waiting_c g1 hq (by omega) g4.dv _ (fun hen => ?_) (fun hen => ?_)
    · rw [hen] at hlen; simp at hlen
      have z1 : L = [] := List.length_eq_zero_iff.1 (by omega)
      have z2 : wit sure (es.drop sure) = [] := List.length_eq_zero_iff.1 (by omega)
      exact ⟨rfl, _, _, rfl, .inl ⟨rfl, z2⟩, .inl ⟨z1, rfl⟩⟩
    · exact ⟨rfl, _, _, rfl, .inr ⟨itemsC (ents.map cloneE), ents.length, false, rfl, by omega, ic⟩, .inr (by rw [htA, hlen, hLl])⟩
  have A2 : ACall Try.prog 35 [.ptr m 0] σ fun v σ' => σ' = σ ∧ ∃ v1 tv, v = .tup [v1, tv] ∧ ItemsM σ v1 (wit sure (es.drop sure)) ∧ TL P W tv L := by
    refine rwaiting_c g2 hq (by omega) L hL _ (fun hen => ?_) (fun hen => ?_)
    · have : L.length = 0 := by rw [hen]; rfl
      have z2 : wit sure (es.drop sure) = [] := List.length_eq_zero_iff.1 (by omega)
      exact ⟨rfl, _, _, rfl, .inl ⟨rfl, z2⟩, .inl ⟨hen, rfl⟩⟩
    · exact ⟨rfl, _, _, rfl, .inr ⟨itemsC L, L.length, false, rfl, by omega, mc⟩, .inr rfl⟩
  simp [ac23, rs23, lk_cons]
  refine A1.mono ?_
  rintro _ σ' ⟨rfl, v1, tv, rfl, i1, t1⟩
  simp [lk_cons]
  refine A2.mono ?_
  rintro _ σ' ⟨rfl, v2, tv2, rfl, i2, t2⟩
  simp [lk_cons]
  refine same_cm i1 _ i2 (by omega) _ ?_
  have l1 := t1.len
  have l2 := t2.len
  simp [lk_cons, ↓l1, ↓l2]
  refine wp_loop (ShJ1 w m tv tv2 L σ') L.length ⟨0, rfl, by omega, rfl, rfl⟩ ?_
  rintro mm r σ2 ⟨i, rfl, hi, rfl, rfl⟩
  by_cases hlt : i < L.length
  · obtain ⟨e, he⟩ : ∃ e, L[i]? = some e := ⟨_, List.getElem?_eq_getElem hlt⟩
    obtain ⟨k, hk⟩ : ∃ k, i + 1 = k := ⟨_, rfl⟩
    have hw : IntKind.i64.wrap ((i : Int) + 1) = (k : Int) := by rw [IntWalk.i64_in] <;> omega
    obtain ⟨p1, e1, e2⟩ := t1.at he σ2
    obtain ⟨p2, e3, e4⟩ := t2.at he σ2
    have lp := toA_lp P W e
    have ul : (unsaid P W e).length ≤ W := by
      unfold unsaid
      exact Nat.le_trans (List.length_filter_le _ _) (by rw [setP_len]; exact Nat.le_refl _)
    generalize toA P W e = u at lp e2 e4
    generalize unsaid P W e = l at lp ul
    have l3 := lp.len
    simp [lk_cons, hlt, ↓e1, ↓e2, ↓e3, ↓e4, ↓l3]
    refine wp_loop (ShJ2 w m tv tv2 L i l σ2) l.length ⟨0, rfl, by omega, rfl, rfl⟩ ?_
    rintro mm r σ3 ⟨j, rfl, hj, rfl, rfl⟩
    by_cases hjl : j < l.length
    · obtain ⟨x, hx⟩ : ∃ x, l[j]? = some x := ⟨_, List.getElem?_eq_getElem hjl⟩
      obtain ⟨k2, hk2⟩ : ∃ k, j + 1 = k := ⟨_, rfl⟩
      have hw2 : IntKind.i64.wrap ((j : Int) + 1) = (k2 : Int) := by rw [IntWalk.i64_in] <;> omega
      obtain ⟨p3, e5, e6⟩ := lp.at hx σ3
      simp [lk_cons, hjl, ↓e1, ↓e2, ↓e3, ↓e4, ↓e5, ↓e6, hw2]
      exact ⟨l.length - k2, by omega, k2, rfl, by omega, rfl, rfl⟩
    · simp [lk_cons, hjl, hw]
      exact ⟨L.length - k, by omega, k, rfl, by omega, rfl, rfl⟩
  · have hil : i = L.length := by omega
    obtain ⟨dv, hv, hh, l3, _⟩ := g2.dlen
    have w1 : IntKind.u64.wrap (es.length : Int) = (es.length : Int) := by rw [IntWalk.u64_in]; omega
    have w2 : IntKind.u64.wrap (sure : Int) = (sure : Int) := by rw [IntWalk.u64_in]; omega
    simp [lk_cons, hlt, hh, ↓l3, w1]
    refine count_c g1 (by omega) _ ?_
    rw [show sure + ents.length = es.length by omega]
    simp [lk_cons, hh, ↓l3, w1, w2]
    refine sure_c g1 _ ?_
    simp [lk_cons, hh, w2]
    exact q
end Go.Proofs.Ytkfofdeceicfkaa.AM
