/- What the functions of this chapter give: their contracts over the machine. -/
import Derived.Test.YtkfofdeceicfkaaC11
import Derived.Test.YtkfofdeceicfkaaAm2
import Derived.IntWalk
/- Quorums, and what the document says of them: what their functions give. -/
namespace Go.Proofs.Ytkfofdeceicfkaa.AM
set_option maxRecDepth 100000
set_option linter.unusedVariables false
set_option linter.unusedSimpArgs false

theorem frz_sl {lo n o len cap es : Nat} {t : Bool} {m : Mem} {vals : List AVal} (hn : lo ≤ n) (hm : m.get n = some (.cells es vals)) (hl : o + len * es ≤ vals.length) (hu : uptoL lo vals = true) : frz lo m (.sl n o len cap t) = some (.isl ((vals.drop o).take (len * es)) len (t && decide (cap = len))) := by
  simp only [frz, frz1]
  rw [if_neg (by omega), hm]
  simp only
  rw [if_pos ⟨hl, hu⟩]
@[simp] theorem frz_int (lo : Nat) (m : Mem) (k : IntKind) (n : Int) : frz lo m (.int k n) = some (.int k n) := rfl
@[simp] theorem frz_bool (lo : Nat) (m : Mem) (b : Bool) : frz lo m (.bool b) = some (.bool b) := rfl
@[simp] theorem frz_nilsl (lo : Nat) (m : Mem) : frz lo m .nilsl = some .nilsl := rfl
@[simp] theorem frz_str (lo : Nat) (m : Mem) (s : ByteArray) : frz lo m (.str s) = some (.str s) := rfl
attribute [simp] AVal.upto uptoL
theorem uptoL_ints (lo : Nat) (k : IntKind) (l : List Nat) : uptoL lo (l.map fun (x : Nat) => .int k (x : Int)) = true := by
  induction l with
  | nil => rfl
  | cons x l ih => simp only [List.map_cons, uptoL, AVal.upto, ih, Bool.and_true]

abbrev i64 (n : Int) : AVal := .int .i64 n
abbrev u64 (n : Int) : AVal := .int .u64 n
abbrev qv (P W A : Int) : AVal := .agg [i64 P, i64 W, i64 A]

attribute [simp] i64 u64 qv

theorem qcheck (P W A : Int) (σ : St) (Q : AVal → St → Prop) (h : Q (.bool (decide (1 ≤ A ∧ A ≤ W ∧ W ≤ P ∧ P ≤ 7))) σ) : ACall Try.prog 24 [qv P W A] σ Q := by
  refine ACall.pure rfl ?_
  refine ACall.of_compF hmx (fun a w => Try.call24 a w) Try.func24 cf24 (n := 1) (by decide) rfl ?_
  by_cases h1 : 1 ≤ A <;> by_cases h2 : A ≤ W <;> by_cases h3 : W ≤ P <;> by_cases h4 : P ≤ 7 <;> simp [h1, h2, h3, h4] at h <;> simp [ac24, rs24, lk_cons, h1, h2, h3, h4, h]

theorem rcheck (P W A : Int) (σ : St) (Q : AVal → St → Prop) (h : Q (.bool (decide (1 ≤ A ∧ A ≤ W ∧ W ≤ P ∧ P ≤ 7))) σ) : ACall Try.prog 21 [qv P W A] σ Q := by
  refine ACall.pure rfl ?_
  refine ACall.of_compF hmx (fun a w => Try.call21 a w) Try.func21 cf21 (n := 1) (by decide) rfl ?_
  by_cases h1 : 1 ≤ A <;> by_cases h2 : A ≤ W <;> by_cases h3 : W ≤ P <;> by_cases h4 : P ≤ 7 <;> simp [h1, h2, h3, h4] at h <;> simp [ac21, rs21, lk_cons, h1, h2, h3, h4, h]
end Go.Proofs.Ytkfofdeceicfkaa.AM

namespace Go.Proofs.Ytkfofdeceicfkaa.AM
set_option maxRecDepth 100000
set_option linter.unusedVariables false
set_option linter.unusedSimpArgs false

/-- An entry's places. -/
def setP (P W n : Nat) : List Nat := (List.range W).map fun i => (n % P + i) % P
def iv (l : List Nat) : List AVal := l.map fun (x : Nat) => .int .i64 (x : Int)

theorem setP_snoc (P i n : Nat) : setP P (i + 1) n = setP P i n ++ [(n % P + i) % P] := by simp [setP, List.range_succ]
theorem setP_len (P W n : Nat) : (setP P W n).length = W := by simp [setP]

theorem qset (P W A n : Nat) (hq : 1 ≤ A ∧ A ≤ W ∧ W ≤ P ∧ P ≤ 7) (hn : n < 18446744073709551616) (σ : St) (Q : AVal → St → Prop) (h : Q (.isl (iv (setP P W n)) W false) σ) : ACall Try.prog 27 [qv P W A, u64 n] σ Q := by
  refine ACall.pure rfl ?_
  refine ACall.of_compF hmx (fun a w => Try.call27 a w) Try.func27 cf27 (n := 2) (by decide) rfl ?_
  simp [ac27, rs27, lk_cons]
  refine qcheck _ _ _ _ _ ?_
  have hd : decide ((1:Int) ≤ A ∧ (A:Int) ≤ W ∧ (W:Int) ≤ P ∧ (P:Int) ≤ 7) = true := by simp; omega
  rw [hd]
  simp [lk_cons]
  refine wp_loop (fun m r σ' => ∃ (i : Nat) (v : AVal), m = W - i ∧ i ≤ W ∧ r = [(1, u64 n), (2, .ptr 0 0), (5, v), (11, i64 W), (12, i64 i)] ∧ σ'.mem.get 0 = some (.cells 3 [i64 P, i64 W, i64 A]) ∧ 0 < σ'.next ∧
    (i = 0 ∧ v = .nilsl ∨ ∃ id, 0 < id ∧ id < σ'.next ∧ v = .sl id 0 i i false ∧ σ'.mem.get id = some (.cells 1 (iv (setP P i n))))) W ?_ ?_
  · exact ⟨0, .nilsl, by simp, by simp, rfl, by simp, by simp, .inl ⟨rfl, rfl⟩⟩
  · rintro m r σ' ⟨i, v, rfl, hi, rfl, hm, hx, hv⟩
    by_cases hlt : i < W
    · have hwP : IntKind.u64.wrap (P : Int) = P := by rw [IntWalk.u64_in]; omega
      have hwi : IntKind.u64.wrap (i : Int) = i := by rw [IntWalk.u64_in]; omega
      have hP0 : ¬ (P : Int) = 0 := by omega
      have hP1 : ¬ P = 0 := by omega
      obtain ⟨x, hx0⟩ : ∃ x, n % P = x := ⟨_, rfl⟩
      obtain ⟨z, hz⟩ : ∃ z, x + i = z := ⟨_, rfl⟩
      obtain ⟨y, hy⟩ : ∃ y, z % P = y := ⟨_, rfl⟩
      obtain ⟨k, hk⟩ : ∃ k, i + 1 = k := ⟨_, rfl⟩
      have hx7 : x < 7 := hx0 ▸ Nat.lt_of_lt_of_le (Nat.mod_lt _ (by omega)) (by omega)
      have hy7 : y < 7 := hy ▸ Nat.lt_of_lt_of_le (Nat.mod_lt _ (by omega)) (by omega)
      have hmod : (n : Int).tmod (P : Int) = (x : Int) := by rw [← hx0]; exact (Int.ofNat_tmod n P).symm
      have hw2 : IntKind.u64.wrap ((x : Int) + (i : Int)) = (z : Int) := by rw [IntWalk.u64_in] <;> omega
      have hmod2 : (z : Int).tmod (P : Int) = (y : Int) := by rw [← hy]; exact (Int.ofNat_tmod z P).symm
      have hw3 : IntKind.i64.wrap (y : Int) = (y : Int) := by rw [IntWalk.i64_in]; omega
      have hw4 : IntKind.i64.wrap ((i : Int) + 1) = (k : Int) := by rw [IntWalk.i64_in] <;> omega
      have hs : iv (setP P k n) = iv (setP P i n) ++ [.int .i64 (y : Int)] := by rw [← hk, setP_snoc, hx0, hz, hy]; simp [iv]
      have hl : (iv (setP P i n)).length = i := by simp [iv, setP]
      have e3 : ¬ 0 = σ'.next := by omega
      have g1 : ¬ i + 1 ≤ i := by omega
      have g2 : (i + 1) * 8 ≤ 140737488355328 ∧ i ≤ 9223372036854775806 := by omega
      rcases hv with ⟨h0, rfl⟩ | ⟨id, h1, h2, rfl, h3⟩
      · simp [lk_cons, hlt, hm, e3, hwP, hwi, hP0, hP1, hmod, hw2, hmod2, hw3, hw4, fillL, repL, storeL, srcL]
        refine ⟨W - k, by omega, k, rfl, by omega, .sl (σ'.next + 1) 0 1 1 false, ⟨rfl, rfl⟩, ?_⟩
        refine .inr ⟨σ'.next + 1, by omega, by omega, by rw [← hk, h0], ?_⟩
        rw [if_pos rfl, hs]; subst h0; rfl
      · have e1 : ¬ id = σ'.next := by omega
        have e2 : ¬ id = σ'.next + 1 := by omega
        simp [lk_cons, hlt, hm, hwP, hwi, hP0, hP1, hmod, hw2, hmod2, hw3, hw4, fillL, repL, storeL, srcL, h3, e1, e2, e3, hl, g1, g2]
        refine ⟨W - k, by omega, k, rfl, by omega, _, ⟨rfl, rfl⟩, ?_⟩
        refine ⟨by omega, .inr ⟨σ'.next + 1, by omega, by omega, by rw [hk], ?_⟩⟩
        rw [if_pos rfl, hs, List.take_of_length_le (by omega)]
    · have : i = W := by omega
      subst this
      simp [lk_cons]
      rcases hv with ⟨h0, rfl⟩ | ⟨id, h1, h2, rfl, h3⟩
      · omega
      · have hl : (iv (setP P i n)).length = i := by simp [iv, setP]
        refine ⟨_, frz_sl (Nat.zero_le _) h3 (by omega) (uptoL_ints _ _ _), ?_, ?_⟩
        · rw [List.drop_zero, List.take_of_length_le (by omega)]
          simp only [AVal.upto]; exact uptoL_ints _ _ _
        · rw [List.drop_zero, List.take_of_length_le (by omega)]; exact h
end Go.Proofs.Ytkfofdeceicfkaa.AM

namespace Go.Proofs.Ytkfofdeceicfkaa.AM
set_option maxRecDepth 100000
set_option linter.unusedVariables false
set_option linter.unusedSimpArgs false

theorem iv_get (l : List Nat) (i : Nat) (h : i < l.length) : (iv l)[i]? = some (i64 (l[i] : Nat)) := by simp [iv, List.getElem?_eq_getElem h]

theorem isl_one (l : List Nat) (i : Nat) (h : i < l.length) : ((iv l).drop i).take 1 = [i64 (l[i] : Nat)] := by
  rw [List.drop_eq_getElem_cons (by simpa [iv] using h)]; simp [iv]

theorem index_c (l : List Nat) (t : Bool) (x : Int) (hl : l.length ≤ 1000000) (σ : St) (Q : AVal → St → Prop) (h : ∀ k : Int, (0 ≤ k ↔ ∃ y ∈ l, (y : Int) = x) → Q (.int .i64 k) σ) : ACall Try.prog 36 [.isl (iv l) l.length t, i64 x] σ Q := by
  refine ACall.of_compF hmx (fun a w => Try.call36 a w) Try.func36 cf36 (n := 2) (by decide) rfl ?_
  simp [ac36, rs36, lk_cons]
  refine wp_loop (fun m r σ' => ∃ i : Nat, m = l.length - i ∧ i ≤ l.length ∧ σ' = σ ∧ r = [(0, .isl (iv l) l.length t), (1, i64 x), (7, i64 l.length), (8, i64 i)] ∧ ∀ (j : Nat) (hj : j < i), ∀ hj' : j < l.length, (l[j] : Int) ≠ x) l.length ?_ ?_
  · exact ⟨0, rfl, by omega, rfl, rfl, fun j hj => by omega⟩
  · rintro m r σ' ⟨i, rfl, hi, rfl, rfl, hn⟩
    by_cases hlt : i < l.length
    · obtain ⟨k, hk⟩ : ∃ k, i + 1 = k := ⟨_, rfl⟩
      have hw : IntKind.i64.wrap ((i : Int) + 1) = (k : Int) := by rw [IntWalk.i64_in] <;> omega
      have h1 := isl_one l i hlt
      by_cases hx : x = (l[i] : Int)
      · simp [lk_cons, hlt, h1, hx]
        exact h i ⟨fun _ => ⟨l[i], List.getElem_mem hlt, hx.symm⟩, fun _ => by omega⟩
      · simp [lk_cons, hlt, h1, hx, hw]
        refine ⟨l.length - k, by omega, k, rfl, by omega, rfl, fun j hj hj' => ?_⟩
        by_cases hji : j < i
        · exact hn j hji hj'
        · have : j = i := by omega
          subst this; exact fun e => hx e.symm
    · have : i = l.length := by omega
      subst this
      simp [lk_cons]
      refine h _ ⟨fun hh => by omega, fun ⟨y, hy, hyx⟩ => ?_⟩
      obtain ⟨j, hj, rfl⟩ := List.getElem_of_mem hy
      exact absurd hyx (hn j hj hj)

theorem contains_c (l : List Nat) (t : Bool) (x : Int) (hl : l.length ≤ 1000000) (σ : St) (Q : AVal → St → Prop) (h : Q (.bool (decide (∃ y ∈ l, (y : Int) = x))) σ) : ACall Try.prog 26 [.isl (iv l) l.length t, i64 x] σ Q := by
  refine ACall.of_compF hmx (fun a w => Try.call26 a w) Try.func26 cf26 (n := 2) (by decide) rfl ?_
  simp [ac26, rs26, lk_cons]
  refine index_c l t x hl _ _ fun k hk => ?_
  simp [lk_cons]
  have : decide (0 ≤ k) = decide (∃ y ∈ l, (y : Int) = x) := by simp only [decide_eq_decide]; exact hk
  rw [this]; exact h
end Go.Proofs.Ytkfofdeceicfkaa.AM

namespace Go.Proofs.Ytkfofdeceicfkaa.AM
set_option maxRecDepth 100000
set_option linter.unusedVariables false
set_option linter.unusedSimpArgs false

theorem in_c (l : List Nat) (t : Bool) (x : Int) (hl : l.length ≤ 1000000) (σ : St) (Q : AVal → St → Prop) (h : Q (.bool (decide (∃ y ∈ l, (y : Int) = x))) σ) : ACall Try.prog 13 [.isl (iv l) l.length t, i64 x] σ Q := by
  refine ACall.of_compF hmx (fun a w => Try.call13 a w) Try.func13 cf13 (n := 2) (by decide) rfl ?_
  simp [ac13, rs13, lk_cons]
  refine wp_loop (fun m r σ' => ∃ i : Nat, m = l.length - i ∧ i ≤ l.length ∧ σ' = σ ∧ r = [(0, .isl (iv l) l.length t), (1, i64 x), (5, i64 i)] ∧ ∀ (j : Nat) (hj : j < i), ∀ hj' : j < l.length, (l[j] : Int) ≠ x) l.length ?_ ?_
  · exact ⟨0, rfl, by omega, rfl, rfl, fun j hj => by omega⟩
  · rintro m r σ' ⟨i, rfl, hi, rfl, rfl, hn⟩
    by_cases hlt : i < l.length
    · obtain ⟨k, hk⟩ : ∃ k, i + 1 = k := ⟨_, rfl⟩
      have hw : IntKind.i64.wrap ((i : Int) + 1) = (k : Int) := by rw [IntWalk.i64_in] <;> omega
      have h1 := isl_one l i hlt
      by_cases hx : (l[i] : Int) = x
      · have hd : decide (∃ y ∈ l, (y : Int) = x) = true := by simpa using ⟨l[i], List.getElem_mem hlt, hx⟩
        rw [hd] at h
        simp [lk_cons, hlt, h1, hx, h]
      · simp [lk_cons, hlt, h1, hx, hw]
        refine ⟨l.length - k, by omega, k, rfl, by omega, rfl, fun j hj hj' => ?_⟩
        by_cases hji : j < i
        · exact hn j hji hj'
        · have : j = i := by omega
          subst this; exact hx
    · have : i = l.length := by omega
      subst this
      have hd : decide (∃ y ∈ l, (y : Int) = x) = false := by
        simp only [decide_eq_false_iff_not]
        rintro ⟨y, hy, hyx⟩
        obtain ⟨j, hj, rfl⟩ := List.getElem_of_mem hy
        exact absurd hyx (hn j hj hj)
      rw [hd] at h
      simp [lk_cons, h]

def RSetJ (P W A n x0 : Nat) (m : Nat) (r : Regs) (σ' : St) : Prop := ∃ (i : Nat) (v : AVal) (p : Nat), m = W - i ∧ i ≤ W ∧ p = (x0 + i) % P ∧ r = [(2, .ptr 0 0), (5, v), (6, i64 p), (7, i64 i)] ∧ σ'.mem.get 0 = some (.cells 3 [i64 P, i64 W, i64 A]) ∧ 0 < σ'.next ∧
    (i = 0 ∧ v = .nilsl ∨ ∃ id, 0 < id ∧ id < σ'.next ∧ v = .sl id 0 i i false ∧ σ'.mem.get id = some (.cells 1 (iv (setP P i n))))

theorem rset (P W A n : Nat) (hq : 1 ≤ A ∧ A ≤ W ∧ W ≤ P ∧ P ≤ 7) (hn : n < 18446744073709551616) (σ : St) (Q : AVal → St → Prop) (h : Q (.isl (iv (setP P W n)) W false) σ) : ACall Try.prog 14 [qv P W A, u64 n] σ Q := by
  refine ACall.pure rfl ?_
  refine ACall.of_compF hmx (fun a w => Try.call14 a w) Try.func14 cf14 (n := 2) (by decide) rfl ?_
  simp [ac14, rs14, lk_cons]
  refine rcheck _ _ _ _ _ ?_
  have hd : decide ((1:Int) ≤ A ∧ (A:Int) ≤ W ∧ (W:Int) ≤ P ∧ (P:Int) ≤ 7) = true := by simp; omega
  rw [hd]
  have hwP : IntKind.u64.wrap (P : Int) = P := by rw [IntWalk.u64_in]; omega
  have hP0 : ¬ (P : Int) = 0 := by omega
  have hP1 : ¬ P = 0 := by omega
  obtain ⟨x0, hx0⟩ : ∃ x, n % P = x := ⟨_, rfl⟩
  have hx7 : x0 < P := hx0 ▸ Nat.mod_lt _ (by omega)
  have hmod : (n : Int).tmod (P : Int) = (x0 : Int) := by rw [← hx0]; exact (Int.ofNat_tmod n P).symm
  have hw3 : IntKind.i64.wrap (x0 : Int) = (x0 : Int) := by rw [IntWalk.i64_in]; omega
  simp [lk_cons, hwP, hP0, hP1, hmod, hw3]
  refine wp_loop (RSetJ P W A n x0) W ?_ ?_
  · exact ⟨0, .nilsl, x0, by simp, by simp, by rw [Nat.add_zero, Nat.mod_eq_of_lt hx7], rfl, by simp, by simp, .inl ⟨rfl, rfl⟩⟩
  · rintro m r σ' ⟨i, v, p, rfl, hi, hp, rfl, hm, hx, hv⟩
    by_cases hlt : i < W
    · obtain ⟨k, hk⟩ : ∃ k, i + 1 = k := ⟨_, rfl⟩
      have hp7 : p < P := hp ▸ Nat.mod_lt _ (by omega)
      obtain ⟨p', hp'⟩ : ∃ k, p + 1 = k := ⟨_, rfl⟩
      have hw4 : IntKind.i64.wrap ((i : Int) + 1) = (k : Int) := by rw [IntWalk.i64_in] <;> omega
      have hw5 : IntKind.i64.wrap ((p : Int) + 1) = (p' : Int) := by rw [IntWalk.i64_in] <;> omega
      have hs : iv (setP P k n) = iv (setP P i n) ++ [.int .i64 (p : Int)] := by rw [← hk, setP_snoc, hx0, ← hp]; simp [iv]
      have hl : (iv (setP P i n)).length = i := by simp [iv, setP]
      have e3 : ¬ 0 = σ'.next := by omega
      have e4 : ¬ 0 = σ'.next + 1 := by omega
      have g1 : ¬ i + 1 ≤ i := by omega
      have g2 : (i + 1) * 8 ≤ 140737488355328 ∧ i ≤ 9223372036854775806 := by omega
      have hnext : (if p' = P then 0 else p') = (x0 + k) % P := by
        rw [← hp', ← hk, ← Nat.add_assoc, Nat.add_mod, ← hp]
        by_cases hpp : p + 1 = P
        · rw [if_pos hpp]
          rcases Nat.lt_or_ge 1 P with h1 | h1
          · rw [Nat.mod_eq_of_lt h1, hpp, Nat.mod_self]
          · have : P = 1 := by omega
            subst this; omega
        · rw [if_neg hpp, Nat.mod_eq_of_lt (show 1 < P by omega), Nat.mod_eq_of_lt (by omega)]
      rcases hv with ⟨h0, rfl⟩ | ⟨id, h1, h2, rfl, h3⟩
      · by_cases hpp : p' = P
        · rw [if_pos hpp] at hnext
          have hpi : (p' : Int) = (P : Int) := by omega
          simp [lk_cons, hlt, hm, e3, e4, hw4, hw5, fillL, repL, storeL, srcL, hpp, hpi]
          refine ⟨W - k, by omega, k, .sl (σ'.next + 1) 0 1 1 false, 0, rfl, by omega, hnext, rfl, by simpa [e3, e4] using hm, by simp, .inr ⟨σ'.next + 1, by omega, by simp, by rw [← hk, h0], ?_⟩⟩
          subst h0; simp; exact hs.symm
        · rw [if_neg hpp] at hnext
          have hpi : ¬ (p' : Int) = (P : Int) := by omega
          simp [lk_cons, hlt, hm, e3, e4, hw4, hw5, fillL, repL, storeL, srcL, hpp, hpi]
          refine ⟨W - k, by omega, k, .sl (σ'.next + 1) 0 1 1 false, p', rfl, by omega, hnext, rfl, by simpa [e3, e4] using hm, by simp, .inr ⟨σ'.next + 1, by omega, by simp, by rw [← hk, h0], ?_⟩⟩
          subst h0; simp; exact hs.symm
      · have e1 : ¬ id = σ'.next := by omega
        have e2 : ¬ id = σ'.next + 1 := by omega
        have e5 : ¬ 0 = id := by omega
        by_cases hpp : p' = P
        · rw [if_pos hpp] at hnext
          have hpi : (p' : Int) = (P : Int) := by omega
          simp [lk_cons, hlt, hm, e3, e4, hw4, hw5, fillL, repL, storeL, srcL, hpp, hpi, h3, e1, e2, e5, hl, g1, g2]
          refine ⟨W - k, by omega, k, _, 0, rfl, by omega, hnext, rfl, by simpa [e3, e4, e5] using hm, by simp, .inr ⟨σ'.next + 1, by omega, by simp, by rw [← hk], ?_⟩⟩
          simp; rw [hs, List.take_of_length_le (by omega)]
        · rw [if_neg hpp] at hnext
          have hpi : ¬ (p' : Int) = (P : Int) := by omega
          simp [lk_cons, hlt, hm, e3, e4, hw4, hw5, fillL, repL, storeL, srcL, hpp, hpi, h3, e1, e2, e5, hl, g1, g2]
          refine ⟨W - k, by omega, k, _, p', rfl, by omega, hnext, rfl, by simpa [e3, e4, e5] using hm, by simp, .inr ⟨σ'.next + 1, by omega, by simp, by rw [← hk], ?_⟩⟩
          simp; rw [hs, List.take_of_length_le (by omega)]
    · have : i = W := by omega
      subst this
      simp [lk_cons, hm]
      rcases hv with ⟨h0, rfl⟩ | ⟨id, h1, h2, rfl, h3⟩
      · omega
      · have hl : (iv (setP P i n)).length = i := by simp [iv, setP]
        refine ⟨_, frz_sl (Nat.zero_le _) h3 (by omega) (uptoL_ints _ _ _), ?_, ?_⟩
        · rw [List.drop_zero, List.take_of_length_le (by omega)]
          simp only [AVal.upto]; exact uptoL_ints _ _ _
        · rw [List.drop_zero, List.take_of_length_le (by omega)]; exact h
end Go.Proofs.Ytkfofdeceicfkaa.AM

namespace Go.Proofs.Ytkfofdeceicfkaa.AM
set_option maxRecDepth 100000
set_option linter.unusedVariables false
set_option linter.unusedSimpArgs false

def bv (l : List Bool) : List AVal := l.map AVal.bool
@[simp] theorem bv_len (l : List Bool) : (bv l).length = l.length := by simp [bv]
theorem bv_get (l : List Bool) (i : Nat) (h : i < l.length) : (bv l)[i]? = some (.bool (l.getD i false)) := by
  simp [bv, List.getElem?_eq_getElem h, List.getD_eq_getElem?_getD]
def cnt (bs : List Bool) (l : List Nat) : Nat := l.countP fun p => bs.getD p false
theorem cnt_le (bs : List Bool) (l : List Nat) : cnt bs l ≤ l.length := List.countP_le_length
theorem setP_lt {P W n p : Nat} (hP : 0 < P) (h : p ∈ setP P W n) : p < P := by
  simp only [setP, List.mem_map] at h
  obtain ⟨i, _, rfl⟩ := h
  exact Nat.mod_lt _ hP

def CountJ (bs : List Bool) (l : List Nat) (said : AVal) (s : Nat) (n0 : Nat) (mem : Mem) (m : Nat) (r : Regs) (σ' : St) : Prop := ∃ (i c : Nat), m = l.length - i ∧ i ≤ l.length ∧ c = cnt bs (l.take i) ∧
  r = [(2, said), (7, i64 c), (12, .isl (iv l) l.length false), (13, i64 l.length), (14, i64 i)] ∧ σ'.mem.get s = some (.cells 1 (bv bs)) ∧ ∀ a, a < n0 → σ'.mem.get a = mem.get a

theorem qcount (P W A n s : Nat) (bs : List Bool) (hq : 1 ≤ A ∧ A ≤ W ∧ W ≤ P ∧ P ≤ 7) (hb : bs.length = P) (hn : n < 18446744073709551616) (σ : St) (hs : σ.mem.get s = some (.cells 1 (bv bs))) (hlt : s < σ.next) (Q : AVal → St → Prop) (h : Q (i64 (cnt bs (setP P W n))) σ) :
    ACall Try.prog 37 [qv P W A, u64 n, .sl s 0 P P true] σ Q := by
  refine ACall.scrub ?_
  refine ACall.of_compF hmx (fun a w => Try.call37 a w) Try.func37 cf37 (n := 3) (by decide) rfl ?_
  have e1 : ¬ s = σ.next := by omega
  simp [ac37, rs37, lk_cons]
  refine qset P W A n hq hn _ _ ?_
  simp [lk_cons]
  have hsl : (setP P W n).length = W := setP_len P W n
  have hin : ∀ p ∈ setP P W n, p < P := fun p hp => setP_lt (by omega) hp
  generalize setP P W n = l at hsl hin h ⊢
  subst hsl
  refine wp_loop (CountJ bs l (.sl s 0 P P true) s σ.next σ.mem) l.length ?_ ?_
  · exact ⟨0, 0, rfl, by omega, rfl, rfl, by simp [e1, hs], fun a ha => by simp [show ¬ a = σ.next by omega]⟩
  · rintro m r σ' ⟨i, c, rfl, hi, hc, rfl, hm, ho⟩
    by_cases hlt2 : i < l.length
    · obtain ⟨k, hk⟩ : ∃ k, i + 1 = k := ⟨_, rfl⟩
      obtain ⟨c', hc'⟩ : ∃ k, c + 1 = k := ⟨_, rfl⟩
      have hcl : c ≤ i := by rw [hc]; exact Nat.le_trans (cnt_le _ _) (by simp; omega)
      have hw : IntKind.i64.wrap ((i : Int) + 1) = (k : Int) := by rw [IntWalk.i64_in] <;> omega
      have hw2 : IntKind.i64.wrap ((c : Int) + 1) = (c' : Int) := by rw [IntWalk.i64_in] <;> omega
      have h1 := isl_one l i hlt2
      obtain ⟨p, hp⟩ : ∃ p, l[i] = p := ⟨_, rfl⟩
      have hpP : p < P := by rw [← hp]; exact hin _ (List.getElem_mem hlt2)
      have h2 := bv_get bs p (by omega)
      have ht : cnt bs (l.take k) = cnt bs (l.take i) + if bs.getD p false then 1 else 0 := by
        rw [← hk, List.take_succ_eq_append_getElem hlt2, hp]
        simp only [cnt, List.countP_append, List.countP_cons, List.countP_nil, Nat.zero_add]
      rw [hp] at h1
      cases hbp : bs.getD p false with
      | true =>
        rw [hbp] at h2 ht
        simp [lk_cons, hlt2, h1, hpP, hm, h2, hw, hw2]
        exact ⟨l.length - k, by omega, k, c', rfl, by omega, by rw [ht, ← hc, ← hc']; rfl, rfl, hm, ho⟩
      | false =>
        rw [hbp] at h2 ht
        simp [lk_cons, hlt2, h1, hpP, hm, h2, hw, hw2]
        exact ⟨l.length - k, by omega, k, c, rfl, by omega, by rw [ht, ← hc]; rfl, rfl, hm, ho⟩
    · have : i = l.length := by omega
      subst this
      rw [List.take_length] at hc
      subst hc
      simp [lk_cons]
      exact ⟨ho, h⟩

theorem qenough (P W A n s : Nat) (bs : List Bool) (hq : 1 ≤ A ∧ A ≤ W ∧ W ≤ P ∧ P ≤ 7) (hb : bs.length = P) (hn : n < 18446744073709551616) (σ : St) (hs : σ.mem.get s = some (.cells 1 (bv bs))) (hlt : s < σ.next) (Q : AVal → St → Prop) (h : Q (.bool (decide (A ≤ cnt bs (setP P W n)))) σ) :
    ACall Try.prog 28 [qv P W A, u64 n, .sl s 0 P P true] σ Q := by
  refine ACall.scrub ?_
  refine ACall.of_compF hmx (fun a w => Try.call28 a w) Try.func28 cf28 (n := 3) (by decide) rfl ?_
  have e1 : ¬ s = σ.next := by omega
  simp [ac28, rs28, lk_cons]
  refine qcheck _ _ _ _ _ ?_
  have hd : decide ((1:Int) ≤ A ∧ (A:Int) ≤ W ∧ (W:Int) ≤ P ∧ (P:Int) ≤ 7) = true := by simp; omega
  rw [hd]
  simp [lk_cons]
  refine qcount P W A n s bs hq hb hn _ (by simp [e1, hs]) (by simp; omega) _ ?_
  simp [lk_cons]
  exact ⟨fun a ha => by simp [show ¬ a = σ.next by omega], h⟩
end Go.Proofs.Ytkfofdeceicfkaa.AM

namespace Go.Proofs.Ytkfofdeceicfkaa.AM
set_option maxRecDepth 100000
set_option linter.unusedVariables false
set_option linter.unusedSimpArgs false

def cntR (bs : List Bool) (l : List Nat) (i : Nat) : Nat := (List.range i).countP fun p => bs.getD p false && decide (p ∈ l)

theorem setP_nodup {P W n : Nat} (hW : W ≤ P) : (setP P W n).Nodup := by
  rw [setP, List.nodup_iff_pairwise_ne, List.pairwise_map]
  refine List.Pairwise.imp_of_mem ?_ (List.pairwise_lt_range (n := W))
  intro a b ha hb hab he
  have ha' := List.mem_range.1 ha
  have hb' := List.mem_range.1 hb
  have hm : n % P < P := Nat.mod_lt _ (by omega)
  generalize n % P = x at he hm
  have h1 := Nat.div_add_mod (x + a) P
  have h2 := Nat.div_add_mod (x + b) P
  rw [he] at h1
  have h3 : P * ((x + b) / P) - P * ((x + a) / P) = b - a := by omega
  rw [← Nat.mul_sub] at h3
  rcases Nat.eq_zero_or_pos ((x + b) / P - (x + a) / P) with h0 | h0
  · rw [h0] at h3; omega
  · have := Nat.le_mul_of_pos_right P h0
    omega

theorem cntR_eq {bs : List Bool} {l : List Nat} {P : Nat} (hn : l.Nodup) (hl : ∀ p ∈ l, p < P) : cntR bs l P = cnt bs l := by
  have hp : (List.range P).filter (fun p => decide (p ∈ l)) |>.Perm l := by
    rw [List.perm_ext_iff_of_nodup (List.nodup_range.filter _) hn]
    intro a
    simp only [List.mem_filter, List.mem_range, decide_eq_true_eq]
    exact ⟨fun h => h.2, fun h => ⟨hl a h, h⟩⟩
  rw [cntR, cnt, ← hp.countP_eq, List.countP_filter]

def RCountJ (P W A n : Nat) (bs : List Bool) (l : List Nat) (said : AVal) (s : Nat) (n0 : Nat) (mem : Mem) (m : Nat) (r : Regs) (σ' : St) : Prop := ∃ (i c : Nat), m = P - i ∧ i ≤ P ∧ c = cntR bs l i ∧
  r = [(1, u64 n), (2, said), (3, .ptr n0 0), (7, i64 c), (8, i64 i)] ∧ σ'.mem.get s = some (.cells 1 (bv bs)) ∧ σ'.mem.get n0 = some (.cells 3 [i64 P, i64 W, i64 A]) ∧ ∀ a, a < n0 → σ'.mem.get a = mem.get a

theorem rcount (P W A n s : Nat) (bs : List Bool) (hq : 1 ≤ A ∧ A ≤ W ∧ W ≤ P ∧ P ≤ 7) (hb : bs.length = P) (hn : n < 18446744073709551616) (σ : St) (hs : σ.mem.get s = some (.cells 1 (bv bs))) (hlt : s < σ.next) (Q : AVal → St → Prop) (h : Q (i64 (cnt bs (setP P W n))) σ) :
    ACall Try.prog 29 [qv P W A, u64 n, .sl s 0 P P true] σ Q := by
  refine ACall.scrub ?_
  refine ACall.of_compF hmx (fun a w => Try.call29 a w) Try.func29 cf29 (n := 3) (by decide) rfl ?_
  have e1 : ¬ s = σ.next := by omega
  rw [← cntR_eq (setP_nodup hq.2.2.1) (fun p hp => setP_lt (by omega) hp)] at h
  have hsl : (setP P W n).length = W := setP_len P W n
  have hset := rset P W A n hq hn
  generalize setP P W n = l at hsl h hset
  simp [ac29, rs29, lk_cons]
  refine wp_loop (RCountJ P W A n bs l (.sl s 0 P P true) s σ.next σ.mem) P ?_ ?_
  · exact ⟨0, 0, rfl, by omega, rfl, rfl, by simp [e1, hs], by simp, fun a ha => by simp [show ¬ a = σ.next by omega]⟩
  · rintro m r σ' ⟨i, c, rfl, hi, hc, rfl, hm, hm2, ho⟩
    by_cases hlt2 : i < P
    · obtain ⟨k, hk⟩ : ∃ k, i + 1 = k := ⟨_, rfl⟩
      obtain ⟨c', hc'⟩ : ∃ k, c + 1 = k := ⟨_, rfl⟩
      have hcl : c ≤ i := by rw [hc]; exact Nat.le_trans List.countP_le_length (by simp)
      have hw : IntKind.i64.wrap ((i : Int) + 1) = (k : Int) := by rw [IntWalk.i64_in] <;> omega
      have hw2 : IntKind.i64.wrap ((c : Int) + 1) = (c' : Int) := by rw [IntWalk.i64_in] <;> omega
      have h2 := bv_get bs i (by omega)
      have ht : cntR bs l k = cntR bs l i + if bs.getD i false && decide (i ∈ l) then 1 else 0 := by
        rw [← hk]
        simp only [cntR, List.range_succ, List.countP_append, List.countP_cons, List.countP_nil, Nat.zero_add]
      have hmem : decide (∃ y ∈ l, (y : Int) = (i : Int)) = decide (i ∈ l) := by
        simp only [decide_eq_decide]
        exact ⟨fun ⟨y, hy, e⟩ => by have : y = i := by omega
                                    subst this; exact hy, fun h => ⟨i, h, rfl⟩⟩
      cases hbp : bs.getD i false with
      | true =>
        rw [hbp] at h2 ht
        simp [lk_cons, hlt2, hm, hm2, h2]
        refine hset _ _ ?_
        simp [lk_cons]
        rw [← hsl]
        refine in_c l false i (by omega) _ _ ?_
        rw [hmem]
        by_cases hil : i ∈ l
        · simp [hil] at ht
          simp [lk_cons, hil, hw, hw2]
          exact ⟨P - k, by omega, k, c', rfl, by omega, by rw [ht, ← hc, ← hc'], rfl, hm, by rw [hsl]; exact hm2, ho⟩
        · simp [hil] at ht
          simp [lk_cons, hil, hw, hw2]
          exact ⟨P - k, by omega, k, c, rfl, by omega, by rw [ht, ← hc], rfl, hm, by rw [hsl]; exact hm2, ho⟩
      | false =>
        rw [hbp] at h2 ht
        simp at ht
        simp [lk_cons, hlt2, hm, hm2, h2, hw, hw2]
        exact ⟨P - k, by omega, k, c, rfl, by omega, by rw [ht, ← hc], rfl, hm, hm2, ho⟩
    · have : i = P := by omega
      subst this
      subst hc
      simp [lk_cons, hm2]
      exact ⟨ho, h⟩

theorem renough (P W A n s : Nat) (bs : List Bool) (hq : 1 ≤ A ∧ A ≤ W ∧ W ≤ P ∧ P ≤ 7) (hb : bs.length = P) (hn : n < 18446744073709551616) (σ : St) (hs : σ.mem.get s = some (.cells 1 (bv bs))) (hlt : s < σ.next) (Q : AVal → St → Prop) (h : Q (.bool (decide (A ≤ cnt bs (setP P W n)))) σ) :
    ACall Try.prog 15 [qv P W A, u64 n, .sl s 0 P P true] σ Q := by
  refine ACall.scrub ?_
  refine ACall.of_compF hmx (fun a w => Try.call15 a w) Try.func15 cf15 (n := 3) (by decide) rfl ?_
  have e1 : ¬ s = σ.next := by omega
  simp [ac15, rs15, lk_cons]
  refine rcheck _ _ _ _ _ ?_
  have hd : decide ((1:Int) ≤ A ∧ (A:Int) ≤ W ∧ (W:Int) ≤ P ∧ (P:Int) ≤ 7) = true := by simp; omega
  rw [hd]
  simp [lk_cons]
  refine rcount P W A n s bs hq hb hn _ (by simp [e1, hs]) (by simp; omega) _ ?_
  simp [lk_cons]
  exact ⟨fun a ha => by simp [show ¬ a = σ.next by omega], h⟩
end Go.Proofs.Ytkfofdeceicfkaa.AM

namespace Go.Proofs.Ytkfofdeceicfkaa.AM
set_option maxRecDepth 100000
set_option linter.unusedVariables false
set_option linter.unusedSimpArgs false

theorem clone_nil (σ : St) (Q : AVal → St → Prop) (h : Q .nilsl σ) : ACall Try.prog 25 [.nilsl] σ Q := by
  refine ACall.of_compF hmx (fun a w => Try.call25 a w) Try.func25 cf25 (n := 1) (by decide) rfl ?_
  simp [ac25, rs25, lk_cons, h]

theorem clone_isl (cs : List AVal) (k : Nat) (t : Bool) (hl : cs.length = k) (hk : k ≤ 140737488355328) (σ : St) (hu : uptoL σ.next cs = true) (Q : AVal → St → Prop) (h : ∀ t, Q (.isl cs k t) σ) : ACall Try.prog 25 [.isl cs k t] σ Q := by
  refine ACall.freeze ?_
  refine ACall.of_compF hmx (fun a w => Try.call25 a w) Try.func25 cf25 (n := 1) (by decide) rfl ?_
  by_cases h0 : k = 0
  · subst h0
    have : cs = [] := List.eq_nil_of_length_eq_zero hl
    subst this
    simp [ac25, rs25, lk_cons, fillL, repL, srcL, storeL]
    exact ⟨fun a ha => by simp [show ¬ a = σ.next by omega], _, frz_sl (es := 1) (vals := []) (Nat.le_refl _) (by simp) (by simp) rfl, by simpa using h true⟩
  · have g1 : k ≤ 9223372036854775807 := by omega
    simp [ac25, rs25, lk_cons, fillL, repL, srcL, hl, h0, hk, g1]
    exact ⟨fun a ha => by simp [show ¬ a = σ.next by omega, show ¬ a = σ.next + 1 by omega], _, frz_sl (es := 1) (vals := cs) (by omega) (by simp) (by omega) hu, by
      rw [List.drop_zero, List.take_of_length_le (by omega)]; exact h _⟩

theorem clone_sl (a k c : Nat) (t : Bool) (cs : List AVal) (hl : cs.length = k) (hk : k ≤ 140737488355328) (σ : St) (hm : σ.mem.get a = some (.cells 1 cs)) (ha : a < σ.next) (hu : uptoL σ.next cs = true) (Q : AVal → St → Prop) (h : ∀ t, Q (.isl cs k t) σ) : ACall Try.prog 25 [.sl a 0 k c t] σ Q := by
  refine ACall.freeze ?_
  refine ACall.of_compF hmx (fun a w => Try.call25 a w) Try.func25 cf25 (n := 1) (by decide) rfl ?_
  have e1 : ¬ a = σ.next := by omega
  by_cases h0 : k = 0
  · subst h0
    have : cs = [] := List.eq_nil_of_length_eq_zero hl
    subst this
    simp [ac25, rs25, lk_cons, fillL, repL, srcL, storeL, hm, e1]
    exact ⟨fun a ha => by simp [show ¬ a = σ.next by omega], _, frz_sl (es := 1) (vals := []) (Nat.le_refl _) (by simp) (by simp) rfl, by simpa using h true⟩
  · have g1 : k ≤ 9223372036854775807 := by omega
    have g2 : cs.take k = cs := List.take_of_length_le (by omega)
    simp [ac25, rs25, lk_cons, fillL, repL, srcL, hl, h0, hk, g1, hm, e1, g2]
    exact ⟨fun a ha => by simp [show ¬ a = σ.next by omega, show ¬ a = σ.next + 1 by omega], _, frz_sl (es := 1) (vals := cs) (by omega) (by simp) (by omega) hu, by
      rw [List.drop_zero, List.take_of_length_le (by omega)]; exact h _⟩

/-- The quorum of a number. -/
def qP (n : Nat) : Nat := 1 + n % 7
def qW (n : Nat) : Nat := 1 + (n / 7) % qP n
def qA (n : Nat) : Nat := 1 + (n / 49) % qW n
theorem q_ok (n : Nat) : 1 ≤ qA n ∧ qA n ≤ qW n ∧ qW n ≤ qP n ∧ qP n ≤ 7 := by
  have h1 : n / 7 % qP n < qP n := Nat.mod_lt _ (by simp [qP]; omega)
  have h2 : n / 49 % qW n < qW n := Nat.mod_lt _ (by simp [qW]; omega)
  refine ⟨by simp only [qA]; omega, by simp only [qA]; omega, by simp only [qW]; omega, by simp only [qP]; omega⟩

theorem quorum_c (n : Nat) (hn : n < 65536) (σ : St) (Q : AVal → St → Prop) (h : Q (qv (qP n) (qW n) (qA n)) σ) : ACall Try.prog 9 [.int .u16 n] σ Q := by
  refine ACall.pure rfl ?_
  refine ACall.of_compF hmx (fun a w => Try.call9 a w) Try.func9 cf9 (n := 1) (by decide) rfl ?_
  have hq := q_ok n
  have t1 : (n : Int).tmod 7 = ((n % 7 : Nat) : Int) := (Int.ofNat_tmod n 7).symm
  have t2 : (n : Int).tdiv 7 = ((n / 7 : Nat) : Int) := (Int.ofNat_tdiv n 7).symm
  have t3 : (n : Int).tdiv 49 = ((n / 49 : Nat) : Int) := (Int.ofNat_tdiv n 49).symm
  have t4 : ((n / 7 : Nat) : Int).tmod (qP n : Int) = ((n / 7 % qP n : Nat) : Int) := (Int.ofNat_tmod _ _).symm
  have t5 : ((n / 49 : Nat) : Int).tmod (qW n : Int) = ((n / 49 % qW n : Nat) : Int) := (Int.ofNat_tmod _ _).symm
  have m1 : n % 7 < 7 := Nat.mod_lt _ (by omega)
  have m2 : n / 7 < 65536 := by omega
  have m3 : n / 49 < 65536 := by omega
  have m4 : n / 7 % qP n < 7 := Nat.lt_of_lt_of_le (Nat.mod_lt _ (by omega)) (by omega)
  have m5 : n / 49 % qW n < 7 := Nat.lt_of_lt_of_le (Nat.mod_lt _ (by omega)) (by omega)
  have e1 : 1 + n % 7 = qP n := rfl
  have e2 : 1 + n / 7 % qP n = qW n := rfl
  have e3 : 1 + n / 49 % qW n = qA n := rfl
  generalize n % 7 = x1 at *
  generalize n / 7 % qP n = x4 at *
  generalize n / 49 % qW n = x5 at *
  generalize n / 7 = x2 at *
  generalize n / 49 = x3 at *
  generalize qP n = p at *
  generalize qW n = w at *
  generalize qA n = a at *
  have w1 : IntKind.i64.wrap (x1 : Int) = x1 := by rw [IntWalk.i64_in]; omega
  have w2 : IntKind.i64.wrap (1 + (x1 : Int)) = p := by rw [IntWalk.i64_in] <;> omega
  have w3 : IntKind.i64.wrap (x2 : Int) = x2 := by rw [IntWalk.i64_in]; omega
  have w4 : IntKind.i64.wrap (1 + (x4 : Int)) = w := by rw [IntWalk.i64_in] <;> omega
  have w5 : IntKind.i64.wrap (x3 : Int) = x3 := by rw [IntWalk.i64_in]; omega
  have w6 : IntKind.i64.wrap (1 + (x5 : Int)) = a := by rw [IntWalk.i64_in] <;> omega
  have w7 : IntKind.u16.wrap (x2 : Int) = x2 := by rw [IntWalk.u16_in]; omega
  have w8 : IntKind.u16.wrap (x3 : Int) = x3 := by rw [IntWalk.u16_in]; omega
  have z1 : ¬ p = 0 := by omega
  have z2 : ¬ w = 0 := by omega
  simp [ac9, rs9, lk_cons, t1, t2, t3, t4, t5, w1, w2, w3, w4, w5, w6, w7, w8, z1, z2, fillL, storeL]
  exact ⟨_, rfl, rfl, h⟩
end Go.Proofs.Ytkfofdeceicfkaa.AM

namespace Go.Proofs.Ytkfofdeceicfkaa.AM
set_option maxRecDepth 100000
set_option linter.unusedVariables false
set_option linter.unusedSimpArgs false

/-- An entry that waits: its number, its data, the block of what was said of it, that. -/
structure WEnt where
  n : Nat
  d : AVal
  s : Nat
  bs : List Bool

def cellsE (P : Nat) (e : WEnt) : List AVal := [u64 e.n, e.d, .sl e.s 0 P P true]
def cellsEs (P : Nat) : List WEnt → List AVal
  | [] => []
  | e :: es => cellsE P e ++ cellsEs P es
@[simp] theorem cellsEs_len (P : Nat) (es : List WEnt) : (cellsEs P es).length = 3 * es.length := by
  induction es with
  | nil => rfl
  | cons e es ih => simp only [cellsEs, cellsE, List.length_append, List.length_cons, List.length_nil, ih]; omega
theorem cellsEs_append (P : Nat) (a b : List WEnt) : cellsEs P (a ++ b) = cellsEs P a ++ cellsEs P b := by
  induction a with
  | nil => rfl
  | cons e es ih => simp only [List.cons_append, cellsEs, ih, List.append_assoc]

/-- What waits, as the slice wv. -/
def WaitV (σ : St) (P : Nat) (fp : Nat → Prop) (ents : List WEnt) (wv : AVal) : Prop :=
  (ents = [] ∧ wv = .nilsl) ∨ ∃ (a : Nat) (pre : List AVal), wv = .sl a pre.length ents.length ents.length false ∧ σ.mem.get a = some (.cells 3 (pre ++ cellsEs P ents)) ∧ fp a ∧ ∀ e ∈ ents, e.s ≠ a

structure WRep (σ : St) (w : Nat) (fp : Nat → Prop) (P W A sure : Nat) (ents : List WEnt) (closed : Bool) (wv : AVal) : Prop where
  head : σ.mem.get w = some (.cells 6 [i64 P, i64 W, i64 A, u64 sure, wv, .bool closed])
  wfp : fp w
  wait : WaitV σ P (fun a => fp a ∧ a ≠ w) ents wv
  said : ∀ e ∈ ents, σ.mem.get e.s = some (.cells 1 (bv e.bs)) ∧ e.bs.length = P ∧ fp e.s ∧ e.s ≠ w
  apart : (ents.map (·.s)).Nodup
  num : ∀ (i : Nat) (e : WEnt), ents[i]? = some e → e.n = sure + i
  lt : ∀ a, fp a → a < σ.next
  done : ∀ e ∈ ents, e.d.one = true ∧ cellsOf e.d = [e.d]

/-- Outside of fp, what was there is as it was. -/
def Keeps (fp : Nat → Prop) (σ σ' : St) : Prop := σ.next ≤ σ'.next ∧ ∀ a, a < σ.next → ¬ fp a → σ'.mem.get a = σ.mem.get a

theorem wv_len {σ : St} {P : Nat} {fp : Nat → Prop} {ents : List WEnt} {wv : AVal} (h : WaitV σ P fp ents wv) (ρ : St) : evalV ρ (.len 1 wv) = some (i64 ents.length, ρ) := by
  rcases h with ⟨rfl, rfl⟩ | ⟨a, pre, rfl, _⟩ <;> simp

theorem count_c {σ : St} {w : Nat} {fp : Nat → Prop} {P W A sure : Nat} {ents : List WEnt} {closed : Bool} {wv : AVal} (h : WRep σ w fp P W A sure ents closed wv) (hs : sure + ents.length ≤ 2000000) (Q : AVal → St → Prop) (hq : Q (u64 (sure + ents.length : Nat)) σ) : ACall Try.prog 17 [.ptr w 0] σ Q := by
  refine ACall.of_compF hmx (fun a w => Try.call17 a w) Try.func17 cf17 (n := 1) (by decide) rfl ?_
  have h1 := h.head
  have w1 : IntKind.u64.wrap (ents.length : Int) = ents.length := by rw [IntWalk.u64_in]; omega
  obtain ⟨z, hz⟩ : ∃ z, sure + ents.length = z := ⟨_, rfl⟩
  have w2 : IntKind.u64.wrap ((sure : Int) + (ents.length : Int)) = (z : Int) := by rw [IntWalk.u64_in] <;> omega
  rw [hz] at hq
  rcases h.wait with ⟨rfl, rfl⟩ | ⟨a, pre, rfl, _⟩
  · simp at w1 w2
    simp [ac17, rs17, lk_cons, h1, w1, w2, hq]
  · simp [ac17, rs17, lk_cons, h1, w1, w2, hq]

theorem sure_c {σ : St} {w : Nat} {fp : Nat → Prop} {P W A sure : Nat} {ents : List WEnt} {closed : Bool} {wv : AVal} (h : WRep σ w fp P W A sure ents closed wv) (Q : AVal → St → Prop) (hq : Q (u64 sure) σ) : ACall Try.prog 16 [.ptr w 0] σ Q := by
  refine ACall.of_compF hmx (fun a w => Try.call16 a w) Try.func16 cf16 (n := 1) (by decide) rfl ?_
  have h1 := h.head
  simp [ac16, rs16, lk_cons, h1, hq]

theorem new_c (P W A : Nat) (hq : 1 ≤ A ∧ A ≤ W ∧ W ≤ P ∧ P ≤ 7) (σ : St) (Q : AVal → St → Prop) (h : ∀ w fp σ', WRep σ' w fp P W A 0 [] false .nilsl → Keeps (fun _ => False) σ σ' → (∀ a, fp a → σ.next ≤ a) → Q (.tup [.ptr w 0, i64 0]) σ') : ACall Try.prog 10 [qv P W A] σ Q := by
  refine ACall.of_compF hmx (fun a w => Try.call10 a w) Try.func10 cf10 (n := 1) (by decide) rfl ?_
  simp [ac10, rs10, lk_cons]
  refine qcheck _ _ _ _ _ ?_
  have hd : decide ((1:Int) ≤ A ∧ (A:Int) ≤ W ∧ (W:Int) ≤ P ∧ (P:Int) ≤ 7) = true := by simp; omega
  rw [hd]
  simp [lk_cons, fillL, storeL]
  refine h (σ.next + 1) (fun a => a = σ.next + 1) _ ⟨by simp, rfl, .inl ⟨rfl, rfl⟩, fun e he => by simp at he, by simp, fun i e he => by simp at he, fun a ha => by subst ha; simp, fun e he => by simp at he⟩ ⟨by simp; omega, fun a ha _ => ?_⟩ (fun a ha => by omega)
  simp [show ¬ a = σ.next by omega, show ¬ a = σ.next + 1 by omega]

theorem close_c {σ : St} {w : Nat} {fp : Nat → Prop} {P W A sure : Nat} {ents : List WEnt} {closed : Bool} {wv : AVal} (h : WRep σ w fp P W A sure ents closed wv) (Q : AVal → St → Prop)
    (h1 : ents ≠ [] → Q (.tup [u64 0, i64 23]) σ) (h2 : ∀ σ', ents = [] → WRep σ' w fp P W A sure [] true wv → Keeps fp σ σ' → Q (.tup [u64 sure, i64 0]) σ') : ACall Try.prog 18 [.ptr w 0] σ Q := by
  refine ACall.of_compF hmx (fun a w => Try.call18 a w) Try.func18 cf18 (n := 1) (by decide) rfl ?_
  have hh := h.head
  have hlt := h.lt w h.wfp
  by_cases he : ents = []
  · subst he
    have key : ∀ σ', (σ' = ⟨σ.mem.set w (.cells 6 [i64 P, i64 W, i64 A, u64 sure, wv, .bool true]), σ.next⟩) → Q (.tup [u64 sure, i64 0]) σ' := fun σ' e => by
      subst e
      refine h2 _ rfl ⟨by simp, h.wfp, ?_, fun e he => by simp at he, by simp, fun i e he => by simp at he, h.lt, fun e he => by simp at he⟩ ⟨Nat.le_refl _, fun a ha hf => ?_⟩
      · rcases h.wait with hw | ⟨a, pre, g1, g2, g3, g4⟩
        · exact .inl hw
        · exact .inr ⟨a, pre, g1, by simp [g3.2]; simpa using g2, g3, g4⟩
      · have : ¬ a = w := fun e => hf (e ▸ h.wfp)
        simp [this]
    rcases h.wait with ⟨_, rfl⟩ | ⟨a, pre, rfl, _⟩
    · simp [ac18, rs18, lk_cons, hh, storeL]
      exact key _ rfl
    · simp [ac18, rs18, lk_cons, hh, storeL]
      exact key _ rfl
  · rcases h.wait with ⟨e, _⟩ | ⟨a, pre, rfl, _⟩
    · exact absurd e he
    · have hp : 0 < ents.length := List.length_pos_iff.2 he
      simp [ac18, rs18, lk_cons, hh, hp]
      exact h1 he
end Go.Proofs.Ytkfofdeceicfkaa.AM

namespace Go.Proofs.Ytkfofdeceicfkaa.AM
set_option maxRecDepth 100000
set_option linter.unusedVariables false
set_option linter.unusedSimpArgs false

structure DataOk (σ : St) (d : AVal) (k : Nat) (dc : Bool → AVal) : Prop where
  len : (d = .nilsl ∧ k = 0) ∨ (∃ cs t, d = .isl cs k t) ∨ ∃ a c t, d = .sl a 0 k c t
  clone : ∀ (σ2 : St) (Q : AVal → St → Prop), σ.next ≤ σ2.next → (∀ a, a < σ.next → σ2.mem.get a = σ.mem.get a) → (∀ t, Q (dc t) σ2) → ACall Try.prog 25 [d] σ2 Q
  one : ∀ t, dc t = .nilsl ∨ ∃ cs n t', dc t = .isl cs n t'

theorem dlen {σ : St} {d : AVal} {k : Nat} {dc : Bool → AVal} (h : DataOk σ d k dc) (ρ : St) : evalV ρ (.len 1 d) = some (i64 k, ρ) := by
  rcases h.len with ⟨rfl, rfl⟩ | ⟨cs, t, rfl⟩ | ⟨a, c, t, rfl⟩ <;> simp

theorem bv_rep (n : Nat) : bv (List.replicate n false) = List.replicate n (AVal.bool false) := by simp [bv]

theorem WRep.add {σ σ' : St} {w : Nat} {fp : Nat → Prop} {P W A sure : Nat} {ents : List WEnt} {closed : Bool} {wv : AVal} (h : WRep σ w fp P W A sure ents closed wv) {s a' : Nat} {dd : AVal} (hs : σ.next ≤ s) (ha : σ.next ≤ a') (hsa : s ≠ a') (hs2 : s < σ'.next) (ha2 : a' < σ'.next) (hnx : σ.next ≤ σ'.next)
    (m1 : σ'.mem.get w = some (.cells 6 [i64 P, i64 W, i64 A, u64 sure, .sl a' 0 (ents.length + 1) (ents.length + 1) false, .bool closed])) (m2 : σ'.mem.get s = some (.cells 1 (bv (List.replicate P false))))
    (m3 : σ'.mem.get a' = some (.cells 3 (cellsEs P ents ++ [u64 (sure + ents.length : Nat), dd, .sl s 0 P P true]))) (m4 : ∀ e ∈ ents, σ'.mem.get e.s = σ.mem.get e.s) (m5 : dd.one = true ∧ cellsOf dd = [dd]) :
    WRep σ' w (fun x => fp x ∨ x = s ∨ x = a') P W A sure (ents ++ [⟨sure + ents.length, dd, s, List.replicate P false⟩]) closed (.sl a' 0 (ents.length + 1) (ents.length + 1) false) := by
  have hw := h.lt w h.wfp
  refine ⟨m1, .inl h.wfp, .inr ⟨a', [], ?_, ?_, ⟨.inr (.inr rfl), by omega⟩, ?_⟩, ?_, ?_, ?_, ?_, ?_⟩
  · simp
  · rw [m3, cellsEs_append]; simp [cellsEs, cellsE]
  · intro e he
    rcases List.mem_append.1 he with he | he
    · have := h.lt _ (h.said e he).2.2.1; omega
    · simp at he; subst he; exact hsa
  · intro e he
    rcases List.mem_append.1 he with he | he
    · have g := h.said e he
      exact ⟨by rw [m4 e he]; exact g.1, g.2.1, .inl g.2.2.1, g.2.2.2⟩
    · simp at he; subst he
      exact ⟨m2, by simp, .inr (.inl rfl), by show s ≠ w; omega⟩
  · rw [List.map_append, List.nodup_append]
    refine ⟨h.apart, by simp, fun x hx y hy => ?_⟩
    obtain ⟨e, he, rfl⟩ := List.mem_map.1 hx
    simp at hy; subst hy
    have := h.lt _ (h.said e he).2.2.1
    omega
  · intro i e he
    by_cases hi : i < ents.length
    · rw [List.getElem?_append_left hi] at he; exact h.num i e he
    · rw [List.getElem?_append_right (by omega)] at he
      have h0 : i - ents.length = 0 := by
        rcases Nat.eq_zero_or_pos (i - ents.length) with h0 | h0
        · exact h0
        · rw [List.getElem?_eq_none (by simp; omega)] at he; cases he
      rw [h0] at he
      simp at he; subst he
      show sure + ents.length = sure + i
      omega
  · intro x hx
    rcases hx with hx | rfl | rfl
    · exact Nat.lt_of_lt_of_le (h.lt x hx) hnx
    · exact hs2
    · exact ha2
  · intro e he
    rcases List.mem_append.1 he with he | he
    · exact h.done e he
    · simp at he; subst he; exact m5

theorem add_c {σ : St} {w : Nat} {fp : Nat → Prop} {P W A sure : Nat} {ents : List WEnt} {closed : Bool} {wv : AVal} (h : WRep σ w fp P W A sure ents closed wv) (hP : P ≤ 7) (hs : sure + ents.length ≤ 1000000) {d : AVal} {k : Nat} {dc : Bool → AVal} (hd : DataOk σ d k dc) (Q : AVal → St → Prop)
    (q1 : closed = true → Q (.tup [u64 0, i64 24]) σ) (q2 : closed = false → 256 < k → Q (.tup [u64 0, i64 3]) σ) (q3 : closed = false → k ≤ 256 → 64 ≤ ents.length → Q (.tup [u64 0, i64 14]) σ)
    (q4 : ∀ (σ' : St) (fp' : Nat → Prop) (s : Nat) (t : Bool) (wv' : AVal), closed = false → k ≤ 256 → ents.length < 64 → WRep σ' w fp' P W A sure (ents ++ [⟨sure + ents.length, dc t, s, List.replicate P false⟩]) false wv' → Keeps fp σ σ' → (∀ a, fp' a → fp a ∨ σ.next ≤ a) → Q (.tup [u64 (sure + ents.length : Nat), i64 0]) σ') :
    ACall Try.prog 11 [.ptr w 0, d] σ Q := by
  refine ACall.of_compF hmx (fun a w => Try.call11 a w) Try.func11 cf11 (n := 2) (by decide) rfl ?_
  have hh := h.head
  have hlt := h.lt w h.wfp
  have hdl := dlen hd
  have hwl : ∀ ρ, evalV ρ (.len 1 wv) = some (i64 ents.length, ρ) := wv_len h.wait
  obtain ⟨z, hz⟩ : ∃ z, sure + ents.length = z := ⟨_, rfl⟩
  cases closed with
  | true =>
    simp [ac11, rs11, lk_cons, hh]
    exact q1 rfl
  | false =>
    by_cases hk : 256 < k
    · have hk' : (256 : Int) < k := by omega
      simp [ac11, rs11, lk_cons, hh, ↓hdl, hk']
      exact q2 rfl hk
    · have hk' : k ≤ 256 := by omega
      have hk2 : ¬ (256 : Int) < k := by omega
      by_cases hw : 64 ≤ ents.length
      · have hw' : (64 : Int) ≤ ents.length := by omega
        simp [ac11, rs11, lk_cons, hh, ↓hdl, ↓hwl, hk2, hw']
        exact q3 rfl hk' hw
      · have hw' : ¬ (64 : Int) ≤ ents.length := by omega
        have hz' : ¬ (1048576 : Int) ≤ z := by omega
        simp [ac11, rs11, lk_cons, hh, ↓hdl, ↓hwl, hk2, hw']
        refine count_c h (by omega) _ ?_
        rw [hz]
        simp [lk_cons, hz']
        refine count_c h (by omega) _ ?_
        rw [hz]
        have hPb : (P : Int) ≤ 9223372036854775807 ∧ (P : Int) ≤ 140737488355328 := by omega
        have e1 : ¬ w = σ.next := by omega
        have e2 : ¬ w = σ.next + 1 := by omega
        have e3 : ¬ w = σ.next + 1 + 1 := by omega
        simp [lk_cons, hh, hPb]
        refine hd.clone _ _ (by simp) (fun a ha => by simp [show ¬ a = σ.next by omega]) fun t => ?_
        have q5 := fun σ' fp' s wv' => q4 σ' fp' s t wv'
        have hone : ∃ dd, dc t = dd ∧ cellsOf dd = [dd] ∧ dd.one = true := by
          rcases hd.one t with e | ⟨cs, n, t', e⟩ <;> exact ⟨_, e, rfl, rfl⟩
        obtain ⟨dd, hdd, one1, one2⟩ := hone
        rw [hdd]
        simp only [hdd] at q5
        rcases h.wait with ⟨rfl, rfl⟩ | ⟨a, pre, rfl, g2, g3, g4⟩
        · simp [lk_cons, hh, e1, e2, e3, one1, one2, fillL, storeL, srcL, repL]
          rw [← hz, ← bv_rep]
          refine q5 _ _ σ.next _ trivial hk' (by simp) (h.add (Nat.le_refl _) (a' := σ.next + 1 + 1) (by omega) (by omega) (by simp; omega) (by simp) (by simp; omega) (by simp) (by simp [Ne.symm e1, show ¬ σ.next = σ.next + 1 + 1 by omega]) ?_ (fun e he => by simp at he) ⟨one2, one1⟩) ⟨by simp; omega, fun a ha hf => ?_⟩ (fun a ha => ?_)
          · simp [Ne.symm e3, cellsEs]
          · have : ¬ a = w := fun e => hf (e ▸ h.wfp)
            simp [this, show ¬ a = σ.next by omega, show ¬ a = σ.next + 1 by omega, show ¬ a = σ.next + 1 + 1 by omega]
          · rcases ha with ha | rfl | rfl
            · exact .inl ha
            · exact .inr (Nat.le_refl _)
            · exact .inr (by omega)
        · have e4 : ¬ a = σ.next := by have := h.lt a g3.1; omega
          have e5 : ¬ a = σ.next + 1 := by have := h.lt a g3.1; omega
          have e6 : ¬ w = a := fun e => g3.2 e.symm
          have gl : ¬ ents.length + 1 ≤ ents.length := by omega
          have gm : ents.length * 3 ≤ 3 * ents.length := by omega
          have gb : (ents.length + 1) * 56 ≤ 140737488355328 ∧ ents.length ≤ 9223372036854775806 := by omega
          simp [lk_cons, hh, e1, e2, e3, e4, e5, e6, g2, gl, gb, gm, one1, one2, fillL, storeL, srcL, repL]
          rw [← hz, ← bv_rep]
          refine q5 _ _ σ.next _ trivial hk' (by omega) (h.add (Nat.le_refl _) (a' := σ.next + 1 + 1) (by omega) (by omega) (by simp; omega) (by simp) (by simp; omega) (by simp) (by simp [Ne.symm e1, Ne.symm e4, show ¬ σ.next = σ.next + 1 + 1 by omega]) ?_ (fun e he => ?_) ⟨one2, one1⟩) ⟨by simp; omega, fun b hb hf => ?_⟩ (fun b hb => ?_)
          · simp [Ne.symm e3]
            exact List.take_of_length_le (by simp; omega)
          · have g := h.said e he
            have g5 := h.lt _ g.2.2.1
            have g6 := g4 e he
            simp [g.2.2.2, g6, show ¬ e.s = σ.next by omega, show ¬ e.s = σ.next + 1 by omega, show ¬ e.s = σ.next + 1 + 1 by omega]
          · have g5 : ¬ b = w := fun e => hf (e ▸ h.wfp)
            have g6 : ¬ b = a := fun e => hf (e ▸ g3.1)
            simp [g5, g6, show ¬ b = σ.next by omega, show ¬ b = σ.next + 1 by omega, show ¬ b = σ.next + 1 + 1 by omega]
          · rcases hb with hb | rfl | rfl
            · exact .inl hb
            · exact .inr (Nat.le_refl _)
            · exact .inr (by omega)
end Go.Proofs.Ytkfofdeceicfkaa.AM

namespace Go.Proofs.Ytkfofdeceicfkaa.AM
set_option maxRecDepth 100000
set_option linter.unusedVariables false
set_option linter.unusedSimpArgs false

def itemsC : List WEnt → List AVal
  | [] => []
  | e :: es => [u64 e.n, e.d] ++ itemsC es
theorem itemsC_append (a b : List WEnt) : itemsC (a ++ b) = itemsC a ++ itemsC b := by
  induction a with
  | nil => rfl
  | cons e es ih => simp only [List.cons_append, itemsC, ih, List.append_assoc]
@[simp] theorem itemsC_len (es : List WEnt) : (itemsC es).length = 2 * es.length := by
  induction es with
  | nil => rfl
  | cons e es ih => simp only [itemsC, List.length_append, List.length_cons, List.length_nil, ih]; omega

def enoughE (P W A : Nat) (e : WEnt) : Bool := decide (A ≤ cnt e.bs (setP P W e.n))
def setSaid (p : Nat) (b : Bool) (e : WEnt) : WEnt := { e with bs := e.bs.set p b }
/-- The entry at j hears p. -/
def heard (ents : List WEnt) (j p : Nat) : List WEnt := ents.modify j (setSaid p true)

theorem WRep.pop {σ σ' : St} {w : Nat} {fp : Nat → Prop} {P W A sure : Nat} {e : WEnt} {ents : List WEnt} {closed : Bool} {a : Nat} {pre : List AVal} (h : WRep σ w fp P W A sure (e :: ents) closed (.sl a pre.length (ents.length + 1) (ents.length + 1) false))
    (hm : σ.mem.get a = some (.cells 3 (pre ++ cellsEs P (e :: ents)))) (ha : fp a ∧ a ≠ w) (hae : ∀ x ∈ e :: ents, x.s ≠ a)
    (m1 : σ'.mem.get w = some (.cells 6 [i64 P, i64 W, i64 A, u64 (sure + 1 : Nat), .sl a (pre.length + 3) ents.length ents.length false, .bool closed])) (m2 : ∀ x, fp x → x ≠ w → σ'.mem.get x = σ.mem.get x) (hn : σ.next ≤ σ'.next) :
    WRep σ' w fp P W A (sure + 1) ents closed (.sl a (pre.length + 3) ents.length ents.length false) := by
  refine ⟨m1, h.wfp, .inr ⟨a, pre ++ cellsE P e, by simp [cellsE], ?_, ha, fun x hx => hae x (List.mem_cons_of_mem _ hx)⟩, ?_, ?_, ?_, ?_, fun x hx => h.done x (List.mem_cons_of_mem _ hx)⟩
  · rw [m2 a ha.1 ha.2, hm]; simp [cellsEs, List.append_assoc]
  · intro x hx
    have g := h.said x (List.mem_cons_of_mem _ hx)
    exact ⟨by rw [m2 _ g.2.2.1 g.2.2.2]; exact g.1, g.2⟩
  · have := h.apart
    simp only [List.map_cons, List.nodup_cons] at this
    exact this.2
  · intro i x hx
    have := h.num (i + 1) x (by simpa using hx)
    omega
  · intro x hx
    exact Nat.lt_of_lt_of_le (h.lt x hx) hn

def AckJ (w : Nat) (fp : Nat → Prop) (P W A sure : Nat) (ents : List WEnt) (closed : Bool) (σ0 : St) (m : Nat) (r : Regs) (σ' : St) : Prop := ∃ (k : Nat) (wv ov : AVal), m = ents.length - k ∧ k ≤ ents.length ∧ WRep σ' w fp P W A (sure + k) (ents.drop k) closed wv ∧ Keeps fp σ0 σ' ∧
  (∀ (i : Nat) (e : WEnt), i < k → ents[i]? = some e → enoughE P W A e = true) ∧ r = [(0, .ptr w 0), (7, ov)] ∧
  (k = 0 ∧ ov = .nilsl ∨ ∃ o, ov = .sl o 0 k k false ∧ σ0.next ≤ o ∧ o < σ'.next ∧ σ'.mem.get o = some (.cells 2 (itemsC (ents.take k))))
end Go.Proofs.Ytkfofdeceicfkaa.AM

namespace Go.Proofs.Ytkfofdeceicfkaa.AM
set_option maxRecDepth 100000
set_option linter.unusedVariables false
set_option linter.unusedSimpArgs false

theorem cellsEs_modify (P p : Nat) (b : Bool) : ∀ (ents : List WEnt) (j : Nat), cellsEs P (ents.modify j (setSaid p b)) = cellsEs P ents
  | [], j => by cases j <;> rfl
  | e :: es, 0 => rfl
  | e :: es, j + 1 => by simp only [List.modify_succ_cons, cellsEs, cellsEs_modify P p b es j]

theorem map_s_modify (p : Nat) (b : Bool) : ∀ (ents : List WEnt) (j : Nat), (ents.modify j (setSaid p b)).map (·.s) = ents.map (·.s)
  | [], j => by cases j <;> rfl
  | e :: es, 0 => rfl
  | e :: es, j + 1 => by simp only [List.modify_succ_cons, List.map_cons, map_s_modify p b es j]

theorem WRep.frame {σ σ' : St} {w : Nat} {fp : Nat → Prop} {P W A sure : Nat} {ents : List WEnt} {closed : Bool} {wv : AVal} (h : WRep σ w fp P W A sure ents closed wv) (hm : ∀ a, fp a → σ'.mem.get a = σ.mem.get a) (hn : σ.next ≤ σ'.next) : WRep σ' w fp P W A sure ents closed wv := by
  refine ⟨by rw [hm w h.wfp]; exact h.head, h.wfp, ?_, fun e he => ?_, h.apart, h.num, fun a ha => Nat.lt_of_lt_of_le (h.lt a ha) hn, h.done⟩
  · rcases h.wait with hw | ⟨a, pre, g1, g2, g3, g4⟩
    · exact .inl hw
    · exact .inr ⟨a, pre, g1, by rw [hm a g3.1]; exact g2, g3, g4⟩
  · have g := h.said e he
    exact ⟨by rw [hm _ g.2.2.1]; exact g.1, g.2⟩

theorem WRep.hear {σ : St} {w : Nat} {fp : Nat → Prop} {P W A sure : Nat} {ents : List WEnt} {closed : Bool} {wv : AVal} (h : WRep σ w fp P W A sure ents closed wv) {j : Nat} {e : WEnt} (hj : ents[j]? = some e) (p : Nat) (b : Bool) :
    WRep ⟨σ.mem.set e.s (.cells 1 (bv (e.bs.set p b))), σ.next⟩ w fp P W A sure (ents.modify j (setSaid p b)) closed wv := by
  have hm := List.mem_of_getElem? hj
  have hs := h.said e hm
  have get : ∀ (i : Nat) (x : WEnt), (ents.modify j (setSaid p b))[i]? = some x → ∃ y, ents[i]? = some y ∧ x.n = y.n ∧ x.s = y.s ∧ x.d = y.d ∧ (i = j → x.bs = y.bs.set p b) ∧ (i ≠ j → x = y) := by
    intro i x hx
    rw [List.getElem?_modify] at hx
    cases hy : ents[i]? with
    | none => rw [hy] at hx; simp at hx
    | some y =>
      rw [hy] at hx
      simp only [Option.map_eq_map, Option.map_some, Option.some.injEq] at hx
      by_cases hij : j = i
      · rw [if_pos hij] at hx; subst hx
        exact ⟨y, rfl, rfl, rfl, rfl, fun _ => rfl, fun hne => absurd hij.symm hne⟩
      · rw [if_neg hij] at hx; subst hx
        exact ⟨y, rfl, rfl, rfl, rfl, fun e => absurd e.symm hij, fun _ => rfl⟩
  have inj : ∀ (i : Nat) (y : WEnt), ents[i]? = some y → y.s = e.s → i = j := by
    intro i y hy he
    have h1 : (ents.map (·.s))[i]? = some e.s := by rw [List.getElem?_map, hy]; simp [he]
    have h2 : (ents.map (·.s))[j]? = some e.s := by rw [List.getElem?_map, hj]; rfl
    have hi := (List.getElem?_eq_some_iff.1 h1).1
    exact (List.getElem?_inj hi h.apart).1 (h1.trans h2.symm)
  refine ⟨by simp [Ne.symm hs.2.2.2, h.head], h.wfp, ?_, ?_, by rw [map_s_modify]; exact h.apart, ?_, h.lt, fun x hx => ?_⟩
  · rcases h.wait with ⟨rfl, rfl⟩ | ⟨a, pre, g1, g2, g3, g4⟩
    · simp at hj
    · refine .inr ⟨a, pre, by rw [List.length_modify]; exact g1, ?_, g3, ?_⟩
      · rw [cellsEs_modify]; simp [Ne.symm (g4 e hm), g2]
      · intro x hx
        obtain ⟨i, hi⟩ := List.mem_iff_getElem?.1 hx
        obtain ⟨y, hy, _, e2, _⟩ := get i x hi
        rw [e2]; exact g4 y (List.mem_of_getElem? hy)
  · intro x hx
    obtain ⟨i, hi⟩ := List.mem_iff_getElem?.1 hx
    obtain ⟨y, hy, _, e2, _, e4, e5⟩ := get i x hi
    have gy := h.said y (List.mem_of_getElem? hy)
    by_cases hij : i = j
    · subst hij
      rw [hj] at hy; cases hy
      rw [e2, e4 rfl]
      exact ⟨by simp, by simp [hs.2.1], hs.2.2⟩
    · have hne : ¬ y.s = e.s := fun he => hij (inj i y hy he)
      rw [e5 hij]
      exact ⟨by simp [hne, gy.1], gy.2⟩
  · intro i x hx
    obtain ⟨y, hy, e1, _⟩ := get i x hx
    rw [e1]; exact h.num i y hy
  · obtain ⟨i, hi⟩ := List.mem_iff_getElem?.1 hx
    obtain ⟨y, hy, _, _, e3, _⟩ := get i x hi
    rw [e3]; exact h.done y (List.mem_of_getElem? hy)
end Go.Proofs.Ytkfofdeceicfkaa.AM

namespace Go.Proofs.Ytkfofdeceicfkaa.AM
set_option maxRecDepth 100000
set_option linter.unusedVariables false
set_option linter.unusedSimpArgs false

def popped (P W A : Nat) : List WEnt → Nat
  | [] => 0
  | e :: es => if enoughE P W A e then 1 + popped P W A es else 0

theorem popped_at (P W A : Nat) : ∀ (es : List WEnt) (k : Nat), k ≤ es.length → (∀ (i : Nat) (e : WEnt), i < k → es[i]? = some e → enoughE P W A e = true) → (∀ e, es[k]? = some e → enoughE P W A e = false) → popped P W A es = k
  | [], k, hk, _, _ => by simp at hk; subst hk; rfl
  | e :: es, 0, _, _, h2 => by simp [popped, h2 e rfl]
  | e :: es, k + 1, hk, h1, h2 => by
    have := popped_at P W A es k (by simpa using hk) (fun i x hi hx => h1 (i + 1) x (by omega) (by simpa using hx)) (fun x hx => h2 x (by simpa using hx))
    simp [popped, h1 0 e (by omega) rfl, this]; omega

theorem bv_set (l : List Bool) (p : Nat) (b : Bool) : (bv l).set p (.bool b) = bv (l.set p b) := by simp [bv, List.map_set]

theorem cellsEs_get {P : Nat} : ∀ {ents : List WEnt} {j : Nat} {e : WEnt}, ents[j]? = some e → (cellsEs P ents)[j * 3]? = some (u64 e.n) ∧ (cellsEs P ents)[j * 3 + 1]? = some e.d ∧ (cellsEs P ents)[j * 3 + 2]? = some (.sl e.s 0 P P true)
  | [], j, e, h => by simp at h
  | x :: es, 0, e, h => by simp at h; subst h; simp [cellsEs, cellsE]
  | x :: es, j + 1, e, h => by
    have := cellsEs_get (P := P) (ents := es) (j := j) (e := e) (by simpa using h)
    have e1 : (j + 1) * 3 = j * 3 + 1 + 1 + 1 := by omega
    simpa [cellsEs, cellsE, e1] using this

theorem pre_get (pre l : List AVal) (i : Nat) : (pre ++ l)[pre.length + i]? = l[i]? := by
  rw [List.getElem?_append_right (by omega)]; congr 1; omega

theorem ack_c {σ : St} {w : Nat} {fp : Nat → Prop} {P W A sure : Nat} {ents : List WEnt} {closed : Bool} {wv : AVal} (h : WRep σ w fp P W A sure ents closed wv) (hq : 1 ≤ A ∧ A ≤ W ∧ W ≤ P ∧ P ≤ 7) (hs : sure + ents.length ≤ 1000000) (place : Int) (n : Nat) (hn : n < 18446744073709551616) (Q : AVal → St → Prop)
    (q1 : (n < sure ∨ sure + ents.length ≤ n ∨ ¬ ∃ y ∈ setP P W n, (y : Int) = place) → Q .nilsl σ)
    (q2 : ∀ (σ' : St) (wv' v : AVal) (p k : Nat), (p : Int) = place → p ∈ setP P W n → sure ≤ n → n < sure + ents.length → k = popped P W A (heard ents (n - sure) p) → WRep σ' w fp P W A (sure + k) ((heard ents (n - sure) p).drop k) closed wv' → Keeps fp σ σ' →
      (k = 0 ∧ v = .nilsl ∨ ∃ t, v = .isl (itemsC ((heard ents (n - sure) p).take k)) k t) → Q v σ') :
    ACall Try.prog 12 [.ptr w 0, i64 place, u64 n] σ Q := by
  refine ACall.freeze1 ?_
  refine ACall.of_compF hmx (fun a w => Try.call12 a w) Try.func12 cf12 (n := 3) (by decide) rfl ?_
  have hh := h.head
  by_cases h1 : n < sure
  · have h1' : (n : Int) < sure := by omega
    simp [ac12, rs12, lk_cons, hh, h1, h1']
    exact (q1 (.inl h1))
  · have h1' : ¬ (n : Int) < sure := by omega
    simp [ac12, rs12, lk_cons, hh, h1, h1']
    refine count_c h (by omega) _ ?_
    obtain ⟨z, hz⟩ : ∃ z, sure + ents.length = z := ⟨_, rfl⟩
    rw [hz]
    by_cases h2 : z ≤ n
    · have h2' : (z : Int) ≤ n := by omega
      simp [lk_cons, hh, h2, h2']
      exact (q1 (.inr (.inl (by omega))))
    · have h2' : ¬ (z : Int) ≤ n := by omega
      simp [lk_cons, hh, h2, h2']
      refine qset P W A n hq hn _ _ ?_
      have hsl := setP_len P W n
      simp [lk_cons]
      have hc := contains_c (setP P W n) false place (by omega)
      rw [hsl] at hc
      refine hc _ _ ?_
      by_cases h3 : ∃ y ∈ setP P W n, (y : Int) = place
      · obtain ⟨p, hp, rfl⟩ := h3
        have hd : decide (∃ y ∈ setP P W n, (y : Int) = (p : Int)) = true := by simpa using ⟨p, hp, rfl⟩
        rw [hd]
        obtain ⟨j, hj⟩ : ∃ j, n - sure = j := ⟨_, rfl⟩
        have hjl : j < ents.length := by omega
        have hwj : IntKind.u64.wrap ((n : Int) - (sure : Int)) = (j : Int) := by rw [IntWalk.u64_in] <;> omega
        obtain ⟨e, he⟩ : ∃ e, ents[j]? = some e := ⟨_, List.getElem?_eq_getElem hjl⟩
        have hpP : p < P := setP_lt (by omega) hp
        have gs := h.said e (List.mem_of_getElem? he)
        rcases h.wait with ⟨rfl, rfl⟩ | ⟨a, pre, rfl, g2, g3, g4⟩
        · simp at he
        · have gc := (cellsEs_get (P := P) he).2.2
          have gp := pre_get pre (cellsEs P ents) (j * 3 + 2)
          rw [← Nat.add_assoc, gc] at gp
          have hpl : p + 1 ≤ e.bs.length := by omega
          simp [lk_cons, hh, hwj, hjl, g2, gp, gs.1, hpP, hpl, storeL, bv_set]
          have h0 : WRep _ w fp P W A sure (heard ents j p) closed _ := h.hear he p true
          have hk0 : Keeps fp σ ⟨σ.mem.set e.s (.cells 1 (bv (e.bs.set p true))), σ.next⟩ := ⟨Nat.le_refl _, fun a ha hf => by
            have : ¬ a = e.s := fun ee => hf (ee ▸ gs.2.2.1)
            simp [this]⟩
          rw [hj] at q2
          replace q2 := fun σ' wv' v k => q2 σ' wv' v p k rfl hp
          have hlen : (heard ents j p).length = ents.length := by simp [heard]
          generalize heard ents j p = es at h0 q2 hlen
          generalize (⟨σ.mem.set e.s (.cells 1 (bv (e.bs.set p true))), σ.next⟩ : St) = σ1 at h0 hk0
          refine wp_loop (AckJ w fp P W A sure es closed σ) es.length ?_ ?_
          · exact ⟨0, _, .nilsl, rfl, by omega, h0, hk0, fun i e hi => by omega, rfl, .inl ⟨rfl, rfl⟩⟩
          · rintro m r σ' ⟨k, wv, ov, rfl, hkl, hr, hke, hen, rfl, ho⟩
            have hr0 := hr.head
            have fin : (∀ e, es[k]? = some e → enoughE P W A e = false) → (Q ov σ' ∨ ∃ n o len cap t es' vals, ov = .sl n o len cap t ∧ σ'.mem.get n = some (.cells es' vals) ∧ σ.next ≤ n ∧ o + len * es' ≤ vals.length ∧ Q (.isl ((vals.drop o).take (len * es')) len (t && decide (cap = len))) ⟨σ'.mem.del n, σ'.next⟩) := by
              intro hnot
              have hpk := popped_at P W A es k hkl hen hnot
              rcases ho with ⟨rfl, rfl⟩ | ⟨o, rfl, o1, o2, o3⟩
              · exact .inl (q2 σ' wv _ 0 (by omega) (by omega) hpk.symm hr hke (.inl ⟨rfl, rfl⟩))
              · refine .inr ⟨o, 0, k, k, false, 2, _, rfl, o3, o1, by simp; omega, ?_⟩
                refine q2 _ wv _ k (by omega) (by omega) hpk.symm ?_ ?_ (.inr ⟨false && decide (k = k), ?_⟩)
                · exact hr.frame (fun a ha => by have := h.lt a ha; simp [show ¬ a = o by omega]) (Nat.le_refl _)
                · exact ⟨hke.1, fun a ha hf => by simp [show ¬ a = o by omega]; exact hke.2 a ha hf⟩
                · rw [List.drop_zero, List.take_of_length_le (by simp; omega)]
            cases hdr : es.drop k with
            | nil =>
              have hk : es.length ≤ k := by
                have := congrArg List.length hdr
                simp at this; omega
              rw [hdr] at hr
              have hf := fin (fun e he => by rw [List.getElem?_eq_none hk] at he; cases he)
              rcases hr.wait with ⟨_, rfl⟩ | ⟨a2, pre2, rfl, g5, g6, g7⟩
              · simp [lk_cons, hr0]
                simpa using hf
              · simp [lk_cons, hr0]
                simpa using hf
            | cons e1 rest =>
              rw [hdr] at hr
              rcases hr.wait with ⟨hc, _⟩ | ⟨a2, pre2, rfl, g5, g6, g7⟩
              · cases hc
              · have gc1 := (cellsEs_get (P := P) (ents := e1 :: rest) (j := 0) (e := e1) rfl).2.2
                have gp1 := pre_get pre2 (cellsEs P (e1 :: rest)) 2
                rw [show 0 * 3 + 2 = 2 from rfl] at gc1
                rw [gc1] at gp1
                have hn1 := hr.num 0 e1 rfl
                have gs1 := hr.said e1 (by simp)
                obtain ⟨c, hc⟩ : ∃ c, sure + k = c := ⟨_, rfl⟩
                have hcast : (sure : Int) + (k : Int) = (c : Int) := by omega
                rw [hc] at hr hn1
                simp only [Nat.add_zero] at hn1
                have hklt : k < es.length := by
                  have := congrArg List.length hdr
                  simp at this; omega
                have hek : es[k]? = some e1 := by
                  have := congrArg (fun l => l[0]?) hdr
                  simpa using this
                simp [lk_cons, hr0, hcast, g5, gp1]
                refine qenough P W A c e1.s e1.bs hq gs1.2.1 (by omega) _ gs1.1 (hr.lt _ gs1.2.2.1) _ ?_
                by_cases hen1 : A ≤ cnt e1.bs (setP P W c)
                · have hdn := hr.done e1 (by simp)
                  have ld : (cellsEs P (e1 :: rest)).take 2 = [u64 c, e1.d] := by
                    simp [cellsEs, cellsE, hn1]
                  obtain ⟨c1, hc1⟩ : ∃ c1, c + 1 = c1 := ⟨_, rfl⟩
                  have wc : IntKind.u64.wrap ((c : Int) + 1) = (c1 : Int) := by rw [IntWalk.u64_in] <;> omega
                  have lb : 2 ≤ 3 * (rest.length + 1) := by omega
                  have n1 := hr.lt w hr.wfp
                  have n2 := h.lt w h.wfp
                  have n3 := h.lt a2 g6.1
                  have n4 := hke.1
                  have f1 : ¬ w = σ'.next := by omega
                  have f2 : ¬ w = σ'.next + 1 := by omega
                  have f3 : ¬ a2 = σ'.next := by omega
                  have f4 : ¬ a2 = σ'.next + 1 := by omega
                  have f5 : ¬ w = a2 := fun e => g6.2 e.symm
                  have b1 : (1 : Int) ≤ (rest.length : Int) + 1 := by omega
                  have hdr1 : es.drop (k + 1) = rest := by rw [← List.drop_drop, hdr]; rfl
                  have hen2 : ∀ (i : Nat) (x : WEnt), i < k + 1 → es[i]? = some x → enoughE P W A x = true := fun i x hi hx => by
                    by_cases hik : i < k
                    · exact hen i x hik hx
                    · have : i = k := by omega
                      subst this
                      rw [hek] at hx; cases hx
                      simp [enoughE, hn1, hen1]
                  have hit : itemsC (es.take (k + 1)) = itemsC (es.take k) ++ [u64 c, e1.d] := by
                    rw [List.take_add_one, hek, itemsC_append]; simp [itemsC, hn1]
                  have hcc : sure + (k + 1) = c + 1 := by omega
                  rcases ho with ⟨hk0, rfl⟩ | ⟨o, rfl, o1, o2, o3⟩
                  · simp [lk_cons, f1, f2, f3, f4, f5, g6.2, b1, asliceSl, bnd, optM, hen1, hr0, g5, ld, lb, hdn.1, hdn.2, hcast, wc, fillL, storeL, repL, srcL]
                    refine ⟨es.length - (k + 1), by omega, k + 1, .sl a2 (pre2.length + 3) rest.length rest.length false, .sl (σ'.next + 1) 0 1 1 false, rfl, by omega, ?_, ⟨by simp; omega, fun x hx hf => ?_⟩, hen2, rfl, .inr ⟨σ'.next + 1, by rw [hk0], by omega, by simp, ?_⟩⟩
                    · rw [hdr1, hcc]
                      refine hr.pop g5 g6 g7 (by simp [hc1]) (fun x hx hxw => ?_) (by simp; omega)
                      have := hr.lt x hx
                      simp [hxw, show ¬ x = σ'.next by omega, show ¬ x = σ'.next + 1 by omega]
                    · have hxw : ¬ x = w := fun e => hf (e ▸ h.wfp)
                      simp [hxw, show ¬ x = σ'.next by omega, show ¬ x = σ'.next + 1 by omega]
                      exact hke.2 x hx hf
                    · simp [Ne.symm f2]
                      rw [hit, hk0]; rfl
                  · have f6 : ¬ w = o := by omega
                    have f7 : ¬ a2 = o := by omega
                    have f8 : ¬ o = σ'.next := by omega
                    have f9 : ¬ o = σ'.next + 1 := by omega
                    have d1 : ¬ k + 1 ≤ k := by omega
                    have d2 : (k + 1) * 32 ≤ 140737488355328 ∧ k ≤ 9223372036854775806 := by omega
                    have d3 : k * 2 ≤ 2 * min k es.length := by omega
                    simp [lk_cons, f1, f2, f3, f4, f5, f6, f7, f8, f9, o3, d1, d2, d3, g6.2, b1, asliceSl, bnd, optM, hen1, hr0, g5, ld, lb, hdn.1, hdn.2, hcast, wc, fillL, storeL, repL, srcL]
                    refine ⟨es.length - (k + 1), by omega, k + 1, .sl a2 (pre2.length + 3) rest.length rest.length false, .sl (σ'.next + 1) 0 (k + 1) (k + 1) false, rfl, by omega, ?_, ⟨by simp; omega, fun x hx hf => ?_⟩, hen2, rfl, .inr ⟨σ'.next + 1, rfl, by omega, by simp, ?_⟩⟩
                    · rw [hdr1, hcc]
                      refine hr.pop g5 g6 g7 (by simp [hc1]) (fun x hx hxw => ?_) (by simp; omega)
                      have := hr.lt x hx
                      have := h.lt x hx
                      simp [hxw, show ¬ x = σ'.next by omega, show ¬ x = σ'.next + 1 by omega, show ¬ x = o by omega]
                    · have hxw : ¬ x = w := fun e => hf (e ▸ h.wfp)
                      simp [hxw, show ¬ x = σ'.next by omega, show ¬ x = σ'.next + 1 by omega, show ¬ x = o by omega]
                      exact hke.2 x hx hf
                    · simp [Ne.symm f2]
                      rw [hit, List.take_of_length_le (by simp; omega)]
                · simp [lk_cons, hen1]
                  simpa using fin (fun e he => by rw [hek] at he; cases he; simp [enoughE, hn1, hen1])
      · have hd : decide (∃ y ∈ setP P W n, (y : Int) = place) = false := by simpa using h3
        rw [hd]
        simp [lk_cons, hh]
        exact (q1 (.inr (.inr h3)))
end Go.Proofs.Ytkfofdeceicfkaa.AM

namespace Go.Proofs.Ytkfofdeceicfkaa.AM
set_option maxRecDepth 100000
set_option linter.unusedVariables false
set_option linter.unusedSimpArgs false

def hasE (P W : Nat) (place : Int) (e : WEnt) : Bool := decide (∃ y ∈ setP P W e.n, (y : Int) = place)
def replE (P W : Nat) (place : Int) (e : WEnt) : WEnt := if hasE P W place e then setSaid place.toNat false e else e
def replL (P W : Nat) (place : Int) (i : Nat) (ents : List WEnt) : List WEnt := (ents.take i).map (replE P W place) ++ ents.drop i
def uv (l : List Nat) : List AVal := l.map fun (x : Nat) => u64 (x : Int)
def replN (P W : Nat) (place : Int) (ents : List WEnt) : List Nat := (ents.filter (hasE P W place)).map (·.n)

theorem modify_append {α : Type} (f : α → α) (b : List α) : ∀ (a : List α), (a ++ b).modify a.length f = a ++ b.modify 0 f
  | [] => rfl
  | x :: a => by simp only [List.cons_append, List.length_cons, List.modify_succ_cons, modify_append f b a]

theorem replL_step (P W : Nat) (place : Int) (ents : List WEnt) (i : Nat) (e : WEnt) (h : ents[i]? = some e) : replL P W place (i + 1) ents = if hasE P W place e then (replL P W place i ents).modify i (setSaid place.toNat false) else replL P W place i ents := by
  have hi := (List.getElem?_eq_some_iff.1 h).1
  have he : ents.drop i = e :: ents.drop (i + 1) := by
    rw [List.drop_eq_getElem_cons hi]; congr 1; exact (List.getElem?_eq_some_iff.1 h).2
  have hl : ((ents.take i).map (replE P W place)).length = i := by simp; omega
  unfold replL
  rw [List.take_add_one, h, List.map_append, he]
  by_cases hh : hasE P W place e = true
  · have hm := modify_append (setSaid place.toNat false) (e :: ents.drop (i + 1)) ((ents.take i).map (replE P W place))
    rw [hl] at hm
    rw [if_pos hh, hm]
    simp [replE, hh]
  · rw [if_neg hh]
    simp [replE, hh]

theorem replL_get (P W : Nat) (place : Int) (ents : List WEnt) (i : Nat) : (replL P W place i ents)[i]? = ents[i]? := by
  by_cases hi : i ≤ ents.length
  · have hl : ((ents.take i).map (replE P W place)).length = i := by simp; omega
    unfold replL
    rw [List.getElem?_append_right (by omega), hl, Nat.sub_self, List.getElem?_drop]; simp
  · rw [List.getElem?_eq_none (by simp [replL]; omega), List.getElem?_eq_none (by omega)]

theorem replL_len (P W : Nat) (place : Int) (i : Nat) (ents : List WEnt) : (replL P W place i ents).length = ents.length := by
  simp [replL]; omega
theorem replL_end (P W : Nat) (place : Int) (ents : List WEnt) : replL P W place ents.length ents = ents.map (replE P W place) := by simp [replL]
theorem replN_snoc (P W : Nat) (place : Int) (ents : List WEnt) (i : Nat) (e : WEnt) (h : ents[i]? = some e) : replN P W place (ents.take (i + 1)) = replN P W place (ents.take i) ++ if hasE P W place e then [e.n] else [] := by
  rw [List.take_add_one, h]
  simp only [replN, List.filter_append, List.map_append]
  congr 1
  cases hh : hasE P W place e <;> simp [hh]
theorem replN_le (P W : Nat) (place : Int) (ents : List WEnt) : (replN P W place ents).length ≤ ents.length := by
  simp only [replN, List.length_map]; exact List.length_filter_le _ _

def ReplJ (w : Nat) (fp : Nat → Prop) (P W A sure : Nat) (place : Int) (ents : List WEnt) (closed : Bool) (wv : AVal) (σ0 : St) (m : Nat) (r : Regs) (σ' : St) : Prop := ∃ (i : Nat) (ov : AVal), m = ents.length - i ∧ i ≤ ents.length ∧ WRep σ' w fp P W A sure (replL P W place i ents) closed wv ∧ Keeps fp σ0 σ' ∧
  r = [(0, .ptr w 0), (1, i64 place), (5, ov), (13, wv), (14, i64 ents.length), (15, i64 i)] ∧
  (replN P W place (ents.take i) = [] ∧ ov = .nilsl ∨ ∃ o k, ov = .sl o 0 k k false ∧ k = (replN P W place (ents.take i)).length ∧ 0 < k ∧ σ0.next ≤ o ∧ o < σ'.next ∧ σ'.mem.get o = some (.cells 1 (uv (replN P W place (ents.take i)))))
end Go.Proofs.Ytkfofdeceicfkaa.AM

namespace Go.Proofs.Ytkfofdeceicfkaa.AM
set_option maxRecDepth 100000
set_option linter.unusedVariables false
set_option linter.unusedSimpArgs false

theorem cellsEs_take {P : Nat} : ∀ {ents : List WEnt} {j : Nat} {e : WEnt}, ents[j]? = some e → ((cellsEs P ents).drop (j * 3)).take 3 = [u64 e.n, e.d, .sl e.s 0 P P true]
  | [], j, e, h => by simp at h
  | x :: es, 0, e, h => by simp at h; subst h; simp [cellsEs, cellsE]
  | x :: es, j + 1, e, h => by
    have := cellsEs_take (P := P) (ents := es) (j := j) (e := e) (by simpa using h)
    have e1 : (j + 1) * 3 = j * 3 + 1 + 1 + 1 := by omega
    simpa [cellsEs, cellsE, e1] using this

theorem replace_c {σ : St} {w : Nat} {fp : Nat → Prop} {P W A sure : Nat} {ents : List WEnt} {closed : Bool} {wv : AVal} (h : WRep σ w fp P W A sure ents closed wv) (hq : 1 ≤ A ∧ A ≤ W ∧ W ≤ P ∧ P ≤ 7) (hs : sure + ents.length ≤ 1000000) (place : Int) (Q : AVal → St → Prop)
    (q : ∀ (σ' : St) (v : AVal), WRep σ' w fp P W A sure (ents.map (replE P W place)) closed wv → Keeps fp σ σ' → (replN P W place ents = [] ∧ v = .nilsl ∨ ∃ t, v = .isl (uv (replN P W place ents)) (replN P W place ents).length t) → Q v σ') :
    ACall Try.prog 20 [.ptr w 0, i64 place] σ Q := by
  refine ACall.freeze1 ?_
  refine ACall.of_compF hmx (fun a w => Try.call20 a w) Try.func20 cf20 (n := 2) (by decide) rfl ?_
  have hh := h.head
  have hwl : ∀ ρ, evalV ρ (.len 1 wv) = some (i64 ents.length, ρ) := wv_len h.wait
  simp [ac20, rs20, lk_cons, hh, ↓hwl]
  refine wp_loop (ReplJ w fp P W A sure place ents closed wv σ) ents.length ?_ ?_
  · exact ⟨0, .nilsl, rfl, by omega, by simpa [replL] using h, ⟨Nat.le_refl _, fun _ _ _ => rfl⟩, rfl, .inl ⟨rfl, rfl⟩⟩
  · rintro m r σ' ⟨i, ov, rfl, hi, hr, hke, rfl, ho⟩
    by_cases hlt : i < ents.length
    · obtain ⟨e, he⟩ : ∃ e, ents[i]? = some e := ⟨_, List.getElem?_eq_getElem hlt⟩
      have he2 : (replL P W place i ents)[i]? = some e := by rw [replL_get]; exact he
      have hlen := replL_len P W place i ents
      have gs := hr.said e (List.mem_of_getElem? he2)
      have hdn := hr.done e (List.mem_of_getElem? he2)
      have hn := hr.num i e he2
      have hr0 := hr.head
      have n1 := hr.lt w hr.wfp
      have n2 := hr.lt _ gs.2.2.1
      obtain ⟨k1, hk1⟩ : ∃ k, i + 1 = k := ⟨_, rfl⟩
      have hw : IntKind.i64.wrap ((i : Int) + 1) = (k1 : Int) := by rw [IntWalk.i64_in] <;> omega
      rcases hr.wait with ⟨hc, _⟩ | ⟨a, pre, rfl, g5, g6, g7⟩
      · rw [hc] at hlen; simp at hlen; omega
      · rw [hlen] at hr
        have gc := cellsEs_get (P := P) he2
        have f1 : ¬ w = σ'.next := by omega
        have f2 : ¬ e.s = σ'.next := by omega
        have ld := cellsEs_take (P := P) he2
        have lb : pre.length + i * 3 + 3 ≤ pre.length + 3 * ents.length := by omega
        simp [lk_cons, hlt, hlen, g5, ld, lb, hdn.1, hdn.2, storeL, hr0, f1]
        refine qset P W A e.n hq (by omega) _ _ ?_
        simp [lk_cons]
        have hc := contains_c (setP P W e.n) false place (by rw [setP_len]; omega)
        rw [setP_len] at hc
        refine hc _ _ ?_
        have hrl := replL_step P W place ents i e he
        have hrn := replN_snoc P W place ents i e he
        rw [hk1] at hrl hrn
        have hnl := replN_le P W place (ents.take i)
        simp only [List.length_take] at hnl
        by_cases hhas : hasE P W place e = true
        · rw [if_pos hhas] at hrl hrn
          obtain ⟨p, hp, rfl⟩ : ∃ y ∈ setP P W e.n, (y : Int) = place := by simpa [hasE] using hhas
          have hd : decide (∃ y ∈ setP P W e.n, (y : Int) = (p : Int)) = true := hhas
          have hpP : p < P := setP_lt (by omega) hp
          rw [hd]
          rw [Int.toNat_natCast] at hrl
          have gf := hr.hear he2 p false
          have n4 := hke.1
          have f3 : ¬ e.s = σ'.next + 1 := by omega
          have f4 : ¬ e.s = σ'.next + 2 := by omega
          have hpl : p + 1 ≤ e.bs.length := by omega
          have f2' := Ne.symm f2
          have f3' := Ne.symm f3
          have z1 : ¬ σ'.next = σ'.next + 1 := by omega
          rcases ho with ⟨ho1, rfl⟩ | ⟨o, k, rfl, hk, k0, o1, o2, o3⟩
          · simp [lk_cons, hw, f2, f3, f2', f3', z1, hpP, gs.1, hpl, storeL, bv_set, fillL, repL, srcL]
            refine ⟨ents.length - k1, by omega, k1, .sl (σ'.next + 1 + 1) 0 1 1 false, rfl, by omega, ?_, ⟨by simp; omega, fun x hx hf => ?_⟩, rfl, .inr ⟨σ'.next + 1 + 1, 1, rfl, by rw [hrn]; simp [ho1], by omega, by omega, by simp, ?_⟩⟩
            · rw [hrl]
              refine gf.frame ?_ ?_
              rotate_left
              · show σ'.next ≤ σ'.next + 1 + 1 + 1
                omega
              intro x hx
              have := hr.lt x hx
              simp [show ¬ x = σ'.next by omega, show ¬ x = σ'.next + 1 by omega, show ¬ x = σ'.next + 1 + 1 by omega, show ¬ x = σ'.next + 2 by omega]
            · have hxe : ¬ x = e.s := fun ee => hf (ee ▸ gs.2.2.1)
              simp [hxe, show ¬ x = σ'.next by omega, show ¬ x = σ'.next + 1 by omega, show ¬ x = σ'.next + 1 + 1 by omega, show ¬ x = σ'.next + 2 by omega]
              exact hke.2 x hx hf
            · simp
              rw [hrn, ho1]; rfl
          · have d1 : ¬ k + 1 ≤ k := by omega
            have d2 : (k + 1) * 8 ≤ 140737488355328 ∧ k ≤ 9223372036854775806 := by omega
            have f5 : ¬ o = σ'.next := by omega
            have f6 : ¬ o = σ'.next + 1 := by omega
            have f7 : ¬ o = e.s := by have := h.lt _ gs.2.2.1; omega
            have ul : (uv (replN P W p (ents.take i))).length = k := by simp [uv, hk]
            simp [lk_cons, hw, f2, f3, f2', f3', z1, Ne.symm f5, f5, f6, f7, o3, d1, d2, ul, hpP, gs.1, hpl, storeL, bv_set, fillL, repL, srcL]
            refine ⟨ents.length - k1, by omega, k1, .sl (σ'.next + 1 + 1) 0 (k + 1) (k + 1) false, rfl, by omega, ?_, ⟨by simp; omega, fun x hx hf => ?_⟩, rfl, .inr ⟨σ'.next + 1 + 1, k + 1, rfl, by rw [hrn]; simp [hk], by omega, by omega, by simp, ?_⟩⟩
            · rw [hrl]
              refine gf.frame ?_ ?_
              rotate_left
              · show σ'.next ≤ σ'.next + 1 + 1 + 1
                omega
              intro x hx
              have := hr.lt x hx
              have := h.lt x hx
              simp [show ¬ x = o by omega, show ¬ x = σ'.next by omega, show ¬ x = σ'.next + 1 by omega, show ¬ x = σ'.next + 1 + 1 by omega, show ¬ x = σ'.next + 2 by omega]
            · have hxe : ¬ x = e.s := fun ee => hf (ee ▸ gs.2.2.1)
              simp [hxe, show ¬ x = o by omega, show ¬ x = σ'.next by omega, show ¬ x = σ'.next + 1 by omega, show ¬ x = σ'.next + 1 + 1 by omega, show ¬ x = σ'.next + 2 by omega]
              exact hke.2 x hx hf
            · simp
              rw [hrn, List.take_of_length_le (by omega)]
              simp [uv]
        · rw [if_neg hhas] at hrl hrn
          have hd : decide (∃ y ∈ setP P W e.n, (y : Int) = place) = false := by simpa [hasE] using hhas
          rw [hd]
          simp [lk_cons, hw]
          rw [List.append_nil] at hrn
          refine ⟨ents.length - k1, by omega, k1, ov, rfl, by omega, ?_, ⟨by have := hke.1; show σ.next ≤ σ'.next + 1; omega, fun x hx hf => ?_⟩, rfl, ?_⟩
          · rw [hrl]
            refine hr.frame ?_ ?_
            rotate_left
            · show σ'.next ≤ σ'.next + 1
              omega
            intro x hx
            have := hr.lt x hx
            simp [show ¬ x = σ'.next by omega]
          · have := hke.1
            simp [show ¬ x = σ'.next by omega]
            exact hke.2 x hx hf
          · rw [hrn]
            rcases ho with ho | ⟨o, k, rfl, hk, k0, o1, o2, o3⟩
            · exact .inl ho
            · exact .inr ⟨o, k, rfl, hk, k0, o1, by simp; omega, by simp [show ¬ o = σ'.next by omega, o3]⟩
    · have : i = ents.length := by omega
      subst this
      rw [replL_end] at hr
      rw [List.take_length] at ho
      simp [lk_cons]
      rcases ho with ⟨h1, rfl⟩ | ⟨o, k, rfl, hk, k0, o1, o2, o3⟩
      · exact .inl (q σ' _ hr hke (.inl ⟨h1, rfl⟩))
      · right
        have ul : (uv (replN P W place ents)).length = k := by simp [uv, hk]
        have hq' := q ⟨σ'.mem.del o, σ'.next⟩ (.isl (uv (replN P W place ents)) k false) (hr.frame (fun a ha => by have := h.lt a ha; simp [show ¬ a = o by omega]) (Nat.le_refl _)) ⟨hke.1, fun a ha hf => by simp [show ¬ a = o by omega]; exact hke.2 a ha hf⟩ (.inr ⟨false, by rw [hk]⟩)
        exact ⟨o, 0, k, k, .inl ⟨rfl, 1, _, o3, o1, by omega, by rw [List.drop_zero, List.take_of_length_le (by omega)]; exact hq'⟩⟩
end Go.Proofs.Ytkfofdeceicfkaa.AM

namespace Go.Proofs.Ytkfofdeceicfkaa.AM
set_option maxRecDepth 100000
set_option linter.unusedVariables false
set_option linter.unusedSimpArgs false

/-- Data la a writer keeps them. -/
def DV (d : AVal) : Prop := d = .nilsl ∨ ∃ cs k t, d = .isl cs k t ∧ cs.length = k ∧ k ≤ 140737488355328 ∧ uptoL 0 cs = true
def cloneV : AVal → AVal
  | .isl cs k _ => .isl cs k (decide (k = 0))
  | v => v
@[simp] theorem cloneV_nil : cloneV .nilsl = .nilsl := Eq.trans rfl rfl
@[simp] theorem cloneV_isl (cs : List AVal) (k : Nat) (t : Bool) : cloneV (.isl cs k t) = .isl cs k (decide (k = 0)) := Eq.trans rfl rfl

mutual
theorem AVal.upto_mono {n m : Nat} (h : n ≤ m) : (v : AVal) → v.upto n = true → v.upto m = true
  | .ptr a _, hv => by simp only [AVal.upto, decide_eq_true_eq] at *; omega
  | .iptr cs, hv => by simp only [AVal.upto] at *; exact AVal.uptoL_mono h cs hv
  | .sl a _ _ _ _, hv => by simp only [AVal.upto, decide_eq_true_eq] at *; omega
  | .isl cs _ _, hv => by simp only [AVal.upto] at *; exact AVal.uptoL_mono h cs hv
  | .map a, hv => by simp only [AVal.upto, decide_eq_true_eq] at *; omega
  | .fn _ xs ys, hv => by
    simp only [AVal.upto, Bool.and_eq_true] at *
    exact ⟨AVal.uptoL_mono h xs hv.1, AVal.uptoL_mono h ys hv.2⟩
  | .iface _ v, hv => by simp only [AVal.upto] at *; exact AVal.upto_mono h v hv
  | .agg cs, hv => by simp only [AVal.upto] at *; exact AVal.uptoL_mono h cs hv
  | .tup vs, hv => by simp only [AVal.upto] at *; exact AVal.uptoL_mono h vs hv
  | .int _ _, _ => rfl
  | .bool _, _ => rfl
  | .str _, _ => rfl
  | .nilp, _ => rfl
  | .nilsl, _ => rfl
  | .nilmap, _ => rfl
  | .nilfn, _ => rfl
  | .niliface, _ => rfl
theorem AVal.uptoL_mono {n m : Nat} (h : n ≤ m) : (vs : List AVal) → uptoL n vs = true → uptoL m vs = true
  | [], _ => rfl
  | v :: vs, hv => by
    simp only [uptoL, Bool.and_eq_true] at *
    exact ⟨AVal.upto_mono h v hv.1, AVal.uptoL_mono h vs hv.2⟩
end

theorem clone_dv (d : AVal) (hd : DV d) (σ : St) (Q : AVal → St → Prop) (h : Q (cloneV d) σ) : ACall Try.prog 25 [d] σ Q := by
  rcases hd with rfl | ⟨cs, k, t, rfl, hl, hk, hu0⟩
  · exact clone_nil σ Q h
  · simp at h
    have hu := AVal.uptoL_mono (Nat.zero_le σ.next) cs hu0
    refine ACall.freeze ?_
    refine ACall.of_compF hmx (fun a w => Try.call25 a w) Try.func25 cf25 (n := 1) (by decide) rfl ?_
    by_cases h0 : k = 0
    · subst h0
      have : cs = [] := List.eq_nil_of_length_eq_zero hl
      subst this
      simp [ac25, rs25, lk_cons, fillL, repL, srcL, storeL]
      exact ⟨fun a ha => by simp [show ¬ a = σ.next by omega], _, frz_sl (es := 1) (vals := []) (Nat.le_refl _) (by simp) (by simp) rfl, by simpa using h⟩
    · have g1 : k ≤ 9223372036854775807 := by omega
      simp [h0] at h
      simp [ac25, rs25, lk_cons, fillL, repL, srcL, hl, h0, hk, g1]
      exact ⟨fun a ha => by simp [show ¬ a = σ.next by omega, show ¬ a = σ.next + 1 by omega], _, frz_sl (es := 1) (vals := cs) (by omega) (by simp) (by omega) hu, by
        rw [List.drop_zero, List.take_of_length_le (by omega)]; exact h⟩

/-- The places that have not said so. -/
def unsaid (P W : Nat) (e : WEnt) : List Nat := (setP P W e.n).filter fun p => !(e.bs.getD p false)
def cloneE (e : WEnt) : WEnt := { e with d := cloneV e.d }


def toA (P W : Nat) (e : WEnt) : AVal := if unsaid P W e = [] then .nilsl else .isl (iv (unsaid P W e)) (unsaid P W e).length false

/-- A list of places that is being told; neither x nor y is its block. -/
def ListV (mem : Mem) (lo hi x y : Nat) (l : List Nat) (v : AVal) : Prop :=
  (l = [] ∧ v = .nilsl) ∨ ∃ o k, v = .sl o 0 k k false ∧ k = l.length ∧ 0 < k ∧ lo ≤ o ∧ o < hi ∧ o ≠ x ∧ o ≠ y ∧ mem.get o = some (.cells 1 (iv l))

theorem ListV.one {mem : Mem} {lo hi x y : Nat} {l : List Nat} {v : AVal} (h : ListV mem lo hi x y l v) : v.one = true ∧ cellsOf v = [v] := by
  rcases h with ⟨_, rfl⟩ | ⟨o, k, rfl, _⟩ <;> simp

theorem ListV.move {mem mem' : Mem} {lo hi x y lo' hi' x' y' : Nat} {l : List Nat} {v : AVal} (h : ListV mem lo hi x y l v) (hlo : lo' ≤ lo) (hhi : hi ≤ hi') (hk : ∀ a, lo ≤ a → a < hi → a ≠ x → a ≠ y → mem'.get a = mem.get a ∧ a ≠ x' ∧ a ≠ y') : ListV mem' lo' hi' x' y' l v := by
  rcases h with h | ⟨o, k, h1, h2, h3, h4, h5, h6, h7, h8⟩
  · exact .inl h
  · have g := hk o h4 h5 h6 h7
    exact .inr ⟨o, k, h1, h2, h3, by omega, by omega, g.2.1, g.2.2, g.1.trans h8⟩

def All2 {α β : Type} (R : α → β → Prop) : List α → List β → Prop
  | [], [] => True
  | a :: la, b :: bs => R a b ∧ All2 R la bs
  | _, _ => False
theorem All2.snoc {α β : Type} {R : α → β → Prop} {a : α} {b : β} (hr : R a b) : ∀ {la : List α} {bs : List β}, All2 R la bs → All2 R (la ++ [a]) (bs ++ [b])
  | [], [], _ => ⟨hr, trivial⟩
  | x :: la, y :: bs, h => ⟨h.1, All2.snoc hr h.2⟩
  | [], _ :: _, h => h.elim
  | _ :: _, [], h => h.elim
theorem All2.imp {α β : Type} {R S : α → β → Prop} (hrs : ∀ a b, R a b → S a b) : ∀ {la : List α} {bs : List β}, All2 R la bs → All2 S la bs
  | [], [], _ => trivial
  | x :: la, y :: bs, h => ⟨hrs _ _ h.1, All2.imp hrs h.2⟩
  | [], _ :: _, h => h.elim
  | _ :: _, [], h => h.elim
theorem All2.len {α β : Type} {R : α → β → Prop} : ∀ {la : List α} {bs : List β}, All2 R la bs → la.length = bs.length
  | [], [], _ => rfl
  | x :: la, y :: bs, h => by simp [All2.len h.2]
  | [], _ :: _, h => h.elim
  | _ :: _, [], h => h.elim
theorem All2.listM {α β : Type} {R : α → β → Prop} {f : β → Option AVal} {g : α → AVal} (hr : ∀ a b, R a b → f b = some (g a)) : ∀ {la : List α} {bs : List β}, All2 R la bs → AM.listM f bs = some (la.map g)
  | [], [], _ => rfl
  | x :: la, y :: bs, h => by
    rw [listM_cons, hr _ _ h.1, All2.listM hr h.2]; rfl
  | [], _ :: _, h => h.elim
  | _ :: _, [], h => h.elim
theorem listM_id {f : AVal → Option AVal} : ∀ {l : List AVal}, (∀ x ∈ l, f x = some x) → listM f l = some l
  | [], _ => rfl
  | x :: l, h => by rw [listM_cons, h x (by simp), listM_id (fun y hy => h y (by simp [hy]))]; rfl

theorem ListV.frz {mem : Mem} {lo hi x y : Nat} {P W : Nat} {e : WEnt} {v : AVal} (h : ListV mem lo hi x y (unsaid P W e) v) : frzD lo mem 1 v = some (toA P W e) := by
  rcases h with ⟨h1, rfl⟩ | ⟨o, k, rfl, hk, k0, h1, _, _, _, h2⟩
  · rw [toA, if_pos h1]; rfl
  · have hne : ¬ unsaid P W e = [] := by intro he; rw [he] at hk; simp at hk; omega
    rw [toA, if_neg hne]
    have hl : (iv (unsaid P W e)).length = k := by simp [iv, hk]
    simp only [frzD]
    rw [if_neg (by omega), h2]
    simp only
    rw [if_pos (by omega), List.drop_zero, List.take_of_length_le (by omega), listM_id (fun x hx => ?_)]
    · simp [hk]
    · obtain ⟨n, _, rfl⟩ := List.mem_map.1 hx
      rfl

def WaitJ2 (σ1 : St) (w : Nat) (ov tv : AVal) (b : Nat) (wv : AVal) (len i : Nat) (l : List Nat) (W : Nat) (bs : List Bool) (m : Nat) (r : Regs) (σ' : St) : Prop := ∃ (j : Nat) (lv : AVal), m = W - j ∧ j ≤ W ∧
  r = [(0, .ptr w 0), (4, ov), (5, tv), (7, .ptr b 0), (8, lv), (16, wv), (17, i64 len), (18, i64 i), (29, .isl (iv l) W false), (30, i64 W), (31, i64 j)] ∧ σ1.next ≤ σ'.next ∧ (∀ a, a < σ1.next → σ'.mem.get a = σ1.mem.get a) ∧
  ListV σ'.mem σ1.next σ'.next 0 0 ((l.take j).filter fun p => !(bs.getD p false)) lv

def WaitJ (w : Nat) (P W A sure : Nat) (ents : List WEnt) (closed : Bool) (wv : AVal) (σ0 : St) (m : Nat) (r : Regs) (σ' : St) : Prop := ∃ (i : Nat) (ov tv : AVal), m = ents.length - i ∧ i ≤ ents.length ∧ σ0.next ≤ σ'.next ∧ (∀ a, a < σ0.next → σ'.mem.get a = σ0.mem.get a) ∧
  r = [(0, .ptr w 0), (4, ov), (5, tv), (16, wv), (17, i64 ents.length), (18, i64 i)] ∧
  (i = 0 ∧ ov = .nilsl ∧ tv = .nilsl ∨ ∃ o t ts, ov = .sl o 0 i i false ∧ tv = .sl t 0 i i false ∧ 0 < i ∧ σ0.next ≤ o ∧ o < σ'.next ∧ σ0.next ≤ t ∧ t < σ'.next ∧ o ≠ t ∧
    σ'.mem.get o = some (.cells 2 (itemsC ((ents.take i).map cloneE))) ∧ σ'.mem.get t = some (.cells 1 ts) ∧ All2 (fun e v => ListV σ'.mem σ0.next σ'.next o t (unsaid P W e) v) (ents.take i) ts)

theorem DV.one {d : AVal} (h : DV d) : (cloneV d).one = true ∧ cellsOf (cloneV d) = [cloneV d] ∧ (cloneV d).upto 0 = true ∧ (d.one = true ∧ cellsOf d = [d]) := by
  rcases h with rfl | ⟨cs, k, t, rfl, _, _, hu⟩
  · simp
  · simp [hu]

theorem frzD_tup (lo : Nat) (m : Mem) (d : Nat) (vs : List AVal) : frzD lo m (d + 1) (.tup vs) = (listM (frzD lo m d) vs).map .tup := by simp only [frzD]
theorem frzD_sl {lo : Nat} {m : Mem} {d n o len cap es : Nat} {t : Bool} {vals : List AVal} (hn : lo ≤ n) (hm : m.get n = some (.cells es vals)) (hl : o + len * es ≤ vals.length) :
    frzD lo m (d + 1) (.sl n o len cap t) = (listM (frzD lo m d) ((vals.drop o).take (len * es))).map fun cs => .isl cs len (t && decide (cap = len)) := by
  simp only [frzD]
  rw [if_neg (by omega), hm]
  simp only
  rw [if_pos hl]

theorem items_frz (lo : Nat) (mem : Mem) : ∀ (ents : List WEnt), (∀ e ∈ ents, DV e.d) → ∀ x ∈ itemsC (ents.map cloneE), frzD lo mem 1 x = some x
  | [], _, x, hx => by simp [itemsC] at hx
  | e :: es, h, x, hx => by
    simp only [List.map_cons, itemsC, List.mem_append, List.mem_cons, List.not_mem_nil, or_false] at hx
    rcases hx with (rfl | rfl) | hx
    · rfl
    · have hd := h e (by simp)
      show frzD lo mem 1 (cloneV e.d) = some (cloneV e.d)
      rcases hd with h1 | ⟨cs, k, t, h1, _, _, hu⟩
      · rw [h1]; rfl
      · rw [h1]
        have := AVal.uptoL_mono (Nat.zero_le lo) cs hu
        simp [frzD, this]
    · exact items_frz lo mem es (fun y hy => h y (by simp [hy])) x hx

theorem waiting_c {σ : St} {w : Nat} {fp : Nat → Prop} {P W A sure : Nat} {ents : List WEnt} {closed : Bool} {wv : AVal} (h : WRep σ w fp P W A sure ents closed wv) (hq : 1 ≤ A ∧ A ≤ W ∧ W ≤ P ∧ P ≤ 7) (hs : sure + ents.length ≤ 1000000) (hd : ∀ e ∈ ents, DV e.d) (Q : AVal → St → Prop)
    (q1 : ents = [] → Q (.tup [.nilsl, .nilsl]) σ) (q2 : ents ≠ [] → Q (.tup [.isl (itemsC (ents.map cloneE)) ents.length false, .isl (ents.map (toA P W)) ents.length false]) σ) :
    ACall Try.prog 19 [.ptr w 0] σ Q := by
  refine ACall.freezeD 3 ?_
  refine ACall.of_compF hmx (fun a w => Try.call19 a w) Try.func19 cf19 (n := 1) (by decide) rfl ?_
  have hh := h.head
  have hwl : ∀ ρ, evalV ρ (.len 1 wv) = some (i64 ents.length, ρ) := wv_len h.wait
  simp [ac19, rs19, lk_cons, hh, ↓hwl]
  refine wp_loop (WaitJ w P W A sure ents closed wv σ) ents.length ?_ ?_
  · exact ⟨0, .nilsl, .nilsl, rfl, by omega, Nat.le_refl _, fun _ _ => rfl, rfl, .inl ⟨rfl, rfl, rfl⟩⟩
  · rintro m r σ' ⟨i, ov, tv, rfl, hi, hnx, hkp, rfl, ho⟩
    by_cases hlt : i < ents.length
    · obtain ⟨e, he⟩ : ∃ e, ents[i]? = some e := ⟨_, List.getElem?_eq_getElem hlt⟩
      have hme := List.mem_of_getElem? he
      have gs := h.said e hme
      have hn := h.num i e he
      have dv := hd e hme
      have hdn := dv.one
      have n1 := h.lt w h.wfp
      have n2 := h.lt _ gs.2.2.1
      have hr0 : σ'.mem.get w = _ := (hkp w n1).trans hh
      have hr1 : σ'.mem.get e.s = _ := (hkp _ n2).trans gs.1
      obtain ⟨k1, hk1⟩ : ∃ k, i + 1 = k := ⟨_, rfl⟩
      have hw : IntKind.i64.wrap ((i : Int) + 1) = (k1 : Int) := by rw [IntWalk.i64_in] <;> omega
      rcases h.wait with ⟨hc, _⟩ | ⟨a, pre, rfl, g5, g6, g7⟩
      · rw [hc] at hlt; simp at hlt
      · have n3 := h.lt _ g6.1
        have hr2 : σ'.mem.get a = _ := (hkp _ n3).trans g5
        have f1 : ¬ w = σ'.next := by omega
        have f2 : ¬ e.s = σ'.next := by omega
        have ld := cellsEs_take (P := P) he
        have lb : pre.length + i * 3 + 3 ≤ pre.length + 3 * ents.length := by omega
        simp [lk_cons, hlt, hr2, ld, lb, hdn.2.2.2.1, hdn.2.2.2.2, storeL, hr0, f1]
        refine qset P W A e.n hq (by omega) _ _ ?_
        simp [lk_cons]
        have hsl := setP_len P W e.n
        have hslt : ∀ p ∈ setP P W e.n, p < P := fun p hp => setP_lt (by omega) hp
        obtain ⟨l, hl⟩ : ∃ l, setP P W e.n = l := ⟨_, rfl⟩
        rw [hl] at hsl hslt
        rw [hl]
        obtain ⟨σ1, hσ1⟩ : ∃ σ1 : St, σ1 = ⟨(σ'.mem.set σ'.next (.cells 3 [.int .u64 0, .nilsl, .nilsl])).set σ'.next (.cells 3 [.int .u64 e.n, e.d, .sl e.s 0 P P true]), σ'.next + 1⟩ := ⟨_, rfl⟩
        have x1 : σ1.next = σ'.next + 1 := by rw [hσ1]
        have x2 : ∀ a, a < σ'.next → σ1.mem.get a = σ'.mem.get a := fun a ha => by rw [hσ1]; simp [show ¬ a = σ'.next by omega]
        have x3 : σ1.mem.get σ'.next = some (.cells 3 [.int .u64 e.n, e.d, .sl e.s 0 P P true]) := by rw [hσ1]; simp
        rw [← hσ1]
        clear hσ1
        refine wp_loop (WaitJ2 σ1 w ov tv σ'.next (.sl a pre.length ents.length ents.length false) ents.length i l W e.bs) W ?_ ?_
        · exact ⟨0, .nilsl, rfl, by omega, rfl, Nat.le_refl _, fun _ _ => rfl, .inl ⟨rfl, rfl⟩⟩
        · rintro m r σ2 ⟨j, lv, rfl, hj, rfl, y1, y2, hlv⟩
          have z1 : σ2.mem.get σ'.next = _ := (y2 _ (by omega)).trans x3
          have z2 : σ2.mem.get e.s = _ := (y2 _ (by omega)).trans ((x2 _ (by omega)).trans hr1)
          have hmono : ∀ a, a < σ'.next → σ2.mem.get a = σ'.mem.get a := fun a ha => (y2 a (by omega)).trans (x2 a ha)
          by_cases hjw : j < W
          · obtain ⟨p, hp⟩ : ∃ p, l[j]? = some p := ⟨_, List.getElem?_eq_getElem (by omega)⟩
            have hpP := hslt p (List.mem_of_getElem? hp)
            have hpl : (iv l)[j]? = some (i64 p) := by simp [iv, hp]
            have hb := bv_get e.bs p (by omega)
            obtain ⟨j1, hj1⟩ : ∃ k, j + 1 = k := ⟨_, rfl⟩
            have hwj : IntKind.i64.wrap ((j : Int) + 1) = (j1 : Int) := by rw [IntWalk.i64_in] <;> omega
            have hfl : (l.take j1).filter (fun p => !(e.bs.getD p false)) = (l.take j).filter (fun p => !(e.bs.getD p false)) ++ if e.bs.getD p false then [] else [p] := by
              rw [← hj1, List.take_add_one, hp, List.filter_append]
              congr 1
              rw [show (some p).toList = [p] from rfl, List.filter_cons]
              cases e.bs.getD p false <;> rfl
            obtain ⟨fl, hfl2⟩ : ∃ fl, (l.take j).filter (fun p => !(e.bs.getD p false)) = fl := ⟨_, rfl⟩
            have hlen : fl.length ≤ j := by rw [← hfl2]; exact Nat.le_trans (List.length_filter_le _ _) (by simp; omega)
            rw [hfl2] at hfl hlv
            cases hbp : e.bs.getD p false with
            | true =>
              rw [hbp] at hb hfl
              simp only [if_true, List.append_nil] at hfl
              simp [lk_cons, hjw, hpl, z1, z2, hpP, hb, hwj]
              exact ⟨W - j1, by omega, j1, lv, rfl, by omega, rfl, y1, y2, by rw [hfl]; exact hlv⟩
            | false =>
              rw [hbp] at hb hfl
              simp only [Bool.false_eq_true, if_false] at hfl
              rcases hlv with ⟨h1, rfl⟩ | ⟨o, k, rfl, hk, k0, o1, o2, _, _, o3⟩
              · simp [lk_cons, hjw, hpl, z1, z2, hpP, hb, hwj, fillL, repL, srcL, storeL]
                refine ⟨W - j1, by omega, j1, _, rfl, by omega, rfl, by simp; omega, fun x hx => ?_, .inr ⟨σ2.next + 1, 1, rfl, by rw [hfl, h1]; rfl, by omega, by omega, by simp, by omega, by omega, ?_⟩⟩
                · simp [show ¬ x = σ2.next by omega, show ¬ x = σ2.next + 1 by omega]
                  exact y2 x hx
                · rw [hfl, h1]; simp [iv]
              · have d1 : ¬ k + 1 ≤ k := by omega
                have d2 : (k + 1) * 8 ≤ 140737488355328 ∧ k ≤ 9223372036854775806 := by omega
                have f5 : ¬ o = σ2.next := by omega
                have f6 : ¬ o = σ2.next + 1 := by omega
                have ul : (iv fl).length = k := by simp [iv, hk]
                simp [lk_cons, hjw, hpl, z1, z2, hpP, hb, hwj, f5, f6, Ne.symm f5, o3, d1, d2, ul, fillL, repL, srcL, storeL]
                refine ⟨W - j1, by omega, j1, _, rfl, by omega, rfl, by simp; omega, fun x hx => ?_, .inr ⟨σ2.next + 1, k + 1, rfl, by rw [hfl]; simp [hk], by omega, by omega, by simp, by omega, by omega, ?_⟩⟩
                · simp [show ¬ x = σ2.next by omega, show ¬ x = σ2.next + 1 by omega, show ¬ x = o by omega]
                  exact y2 x hx
                · rw [hfl]; simp [iv, List.take_of_length_le (show (fl.map fun (x : Nat) => AVal.int .i64 (x : Int)).length ≤ k by simp; omega)]
          · have hjW : j = W := by omega
            subst hjW
            rw [List.take_of_length_le (by omega)] at hlv
            have hun : l.filter (fun p => !(e.bs.getD p false)) = unsaid P j e := by rw [unsaid, hl]
            rw [hun] at hlv
            have hlo := hlv.one
            simp [lk_cons, z1, hlo.1, hlo.2, fillL, repL, srcL, storeL]
            refine clone_dv e.d dv _ _ ?_
            have hte : ents.take k1 = ents.take i ++ [e] := by rw [← hk1, List.take_add_one, he]; rfl
            rcases ho with ⟨i0, rfl, rfl⟩ | ⟨o, t, ts, rfl, rfl, i0, o1, o2, t1, t2, hot, m1, m2, hal⟩
            · have e1 : ¬ σ2.next = σ2.next + 2 := by omega
              have e2 : ¬ σ2.next + 1 = σ2.next + 2 := by omega
              have e3 : ¬ σ2.next = σ2.next + 1 + 1 := by omega
              have e4 : ¬ σ2.next = σ2.next + 1 := by omega
              simp [lk_cons, z1, show ¬ σ'.next = σ2.next by omega, e1, e2, e3, e4, hdn.1, hdn.2.1, fillL, repL, srcL, storeL, hw]
              refine ⟨ents.length - k1, by omega, k1, .sl (σ2.next + 1 + 1) 0 1 1 false, .sl (σ2.next + 1 + 1 + 1) 0 1 1 false, rfl, by omega, by simp; omega, fun x hx => ?_, rfl, .inr ⟨σ2.next + 1 + 1, σ2.next + 1 + 1 + 1, [lv], ?_, ?_, by omega, by omega, by simp, by omega, by simp, by omega, ?_, by simp, ?_⟩⟩
              · have := hmono x (by omega)
                simp [show ¬ x = σ2.next by omega, show ¬ x = σ2.next + 1 by omega, show ¬ x = σ2.next + 1 + 1 by omega, show ¬ x = σ2.next + 2 by omega, show ¬ x = σ2.next + 1 + 1 + 1 by omega, show ¬ x = σ2.next + 3 by omega]
                rw [this]; exact hkp x hx
              · rw [← hk1, i0]
              · rw [← hk1, i0]
              · rw [hte, i0]; simp [itemsC, cloneE]
              · rw [hte, i0]
                refine ⟨?_, trivial⟩
                refine hlv.move (by omega) (by simp; omega) (fun x hx1 hx2 _ _ => ⟨?_, by omega, by omega⟩)
                simp [show ¬ x = σ2.next by omega, show ¬ x = σ2.next + 1 by omega, show ¬ x = σ2.next + 1 + 1 by omega, show ¬ x = σ2.next + 2 by omega, show ¬ x = σ2.next + 1 + 1 + 1 by omega, show ¬ x = σ2.next + 3 by omega]
            · have M1 : σ2.mem.get o = _ := (hmono o o2).trans m1
              have M2 : σ2.mem.get t = _ := (hmono t t2).trans m2
              have hts := hal.len
              rw [List.length_take] at hts
              have e1 : ¬ σ2.next = σ2.next + 2 := by omega
              have e2 : ¬ σ2.next + 1 = σ2.next + 2 := by omega
              have e3 : ¬ σ2.next = σ2.next + 1 + 1 := by omega
              have e4 : ¬ σ2.next = σ2.next + 1 := by omega
              have f1 : ¬ o = σ2.next := by omega
              have f2 : ¬ o = σ2.next + 1 := by omega
              have f3 : ¬ o = σ2.next + 1 + 1 := by omega
              have f4 : ¬ t = σ2.next := by omega
              have f5 : ¬ t = σ2.next + 1 := by omega
              have f6 : ¬ t = σ2.next + 1 + 1 := by omega
              have f7 : ¬ t = o := Ne.symm hot
              have d1 : ¬ i + 1 ≤ i := by omega
              have d2 : (i + 1) * 32 ≤ 140737488355328 ∧ i ≤ 9223372036854775806 := by omega
              have d3 : (i + 1) * 24 ≤ 140737488355328 ∧ i ≤ 9223372036854775806 := by omega
              have ul : i * 2 ≤ 2 * min i ents.length := by omega
              have ul2 : i ≤ ts.length := by omega
              simp [lk_cons, z1, show ¬ σ'.next = σ2.next by omega, M1, M2, ul, ul2, d1, d2, d3, e1, e2, e3, e4, f1, f2, f3, f4, f5, f6, f7, hot, Ne.symm f1, Ne.symm f2, Ne.symm f3, Ne.symm f4, Ne.symm f5, Ne.symm f6, hdn.1, hdn.2.1, fillL, repL, srcL, storeL, hw]
              refine ⟨ents.length - k1, by omega, k1, .sl (σ2.next + 1 + 1) 0 (i + 1) (i + 1) false, .sl (σ2.next + 1 + 1 + 1) 0 (i + 1) (i + 1) false, rfl, by omega, by simp; omega, fun x hx => ?_, rfl, .inr ⟨σ2.next + 1 + 1, σ2.next + 1 + 1 + 1, ts ++ [lv], by rw [hk1], by rw [hk1], by omega, by omega, by simp, by omega, by simp, by omega, ?_, ?_, ?_⟩⟩
              · have := hmono x (by omega)
                simp [show ¬ x = o by omega, show ¬ x = t by omega, show ¬ x = σ2.next by omega, show ¬ x = σ2.next + 1 by omega, show ¬ x = σ2.next + 1 + 1 by omega, show ¬ x = σ2.next + 2 by omega, show ¬ x = σ2.next + 1 + 1 + 1 by omega, show ¬ x = σ2.next + 3 by omega]
                rw [this]; exact hkp x hx
              · rw [hte, List.map_append, itemsC_append]
                have e5 : ¬ σ2.next + 1 + 1 = t := by omega
                simp [e5, show ¬ σ2.next + 2 = t by omega]
                rw [List.take_of_length_le (by simp; omega)]
                simp [itemsC, cloneE]
              · simp [List.take_of_length_le (show ts.length ≤ i by omega)]
              · rw [hte]
                refine All2.snoc ?_ (All2.imp (fun e v hev => ?_) hal)
                · refine hlv.move (by omega) (by simp; omega) (fun x hx1 hx2 _ _ => ⟨?_, by omega, by omega⟩)
                  simp [show ¬ x = o by omega, show ¬ x = t by omega, show ¬ x = σ2.next by omega, show ¬ x = σ2.next + 1 by omega, show ¬ x = σ2.next + 1 + 1 by omega, show ¬ x = σ2.next + 2 by omega, show ¬ x = σ2.next + 1 + 1 + 1 by omega, show ¬ x = σ2.next + 3 by omega]
                · refine hev.move (Nat.le_refl _) (by simp; omega) (fun x hx1 hx2 hxo hxt => ⟨?_, by omega, by omega⟩)
                  have := hmono x (by omega)
                  simp [hxo, hxt, show ¬ x = σ2.next by omega, show ¬ x = σ2.next + 1 by omega, show ¬ x = σ2.next + 1 + 1 by omega, show ¬ x = σ2.next + 2 by omega, show ¬ x = σ2.next + 1 + 1 + 1 by omega, show ¬ x = σ2.next + 3 by omega]
                  exact this
    · have : i = ents.length := by omega
      subst this
      simp [lk_cons]
      rcases ho with ⟨i0, rfl, rfl⟩ | ⟨o, t, ts, rfl, rfl, i0, o1, o2, t1, t2, hot, m1, m2, hal⟩
      · have hen : ents = [] := List.eq_nil_of_length_eq_zero i0
        exact ⟨hkp, _, rfl, q1 hen⟩
      · have hen : ents ≠ [] := by intro hc; subst hc; simp at i0
        refine ⟨hkp, _, ?_, q2 hen⟩
        have hts := hal.len
        rw [List.take_length] at hts hal m1
        have g1 : listM (frzD σ.next σ'.mem 1) ts = some (ents.map (toA P W)) := All2.listM (fun e v hv => hv.frz) hal
        have g2 : listM (frzD σ.next σ'.mem 1) (itemsC (ents.map cloneE)) = some (itemsC (ents.map cloneE)) := listM_id (items_frz _ _ ents hd)
        rw [frzD_tup]
        have s1 := frzD_sl (d := 1) (len := ents.length) (cap := ents.length) (t := false) (o := 0) o1 m1 (by simp; omega)
        have s2 := frzD_sl (d := 1) (len := ents.length) (cap := ents.length) (t := false) (o := 0) t1 m2 (by omega)
        rw [List.drop_zero, List.take_of_length_le (by simp; omega), g2] at s1
        rw [List.drop_zero, List.take_of_length_le (by omega), g1] at s2
        rw [listM_cons, s1, listM_cons, s2]
        rfl
end Go.Proofs.Ytkfofdeceicfkaa.AM

namespace Go.Proofs.Ytkfofdeceicfkaa.AM
set_option maxRecDepth 100000
set_option linter.unusedVariables false
set_option linter.unusedSimpArgs false

theorem data_nil (σ : St) : DataOk σ .nilsl 0 (fun _ => .nilsl) :=
  ⟨.inl ⟨rfl, rfl⟩, fun σ2 Q _ _ h => clone_nil σ2 Q (h true), fun _ => .inl rfl⟩
theorem data_isl (σ : St) (cs : List AVal) (k : Nat) (t : Bool) (hl : cs.length = k) (hk : k ≤ 140737488355328) (hu : uptoL 0 cs = true) : DataOk σ (.isl cs k t) k (fun t => .isl cs k t) :=
  ⟨.inr (.inl ⟨_, _, rfl⟩), fun σ2 Q _ _ h => clone_isl cs k t hl hk σ2 (AVal.uptoL_mono (Nat.zero_le _) _ hu) Q h, fun _ => .inr ⟨_, _, _, rfl⟩⟩
theorem data_sl (σ : St) (a c : Nat) (cs : List AVal) (k : Nat) (t : Bool) (hl : cs.length = k) (hk : k ≤ 140737488355328) (hm : σ.mem.get a = some (.cells 1 cs)) (ha : a < σ.next) (hu : uptoL 0 cs = true) : DataOk σ (.sl a 0 k c t) k (fun t => .isl cs k t) :=
  ⟨.inr (.inr ⟨_, _, _, rfl⟩), fun σ2 Q h1 h2 h => clone_sl a k c t cs hl hk σ2 (by rw [h2 a ha]; exact hm) (by omega) (AVal.uptoL_mono (Nat.zero_le _) _ hu) Q h, fun _ => .inr ⟨_, _, _, rfl⟩⟩

/-- A writer, its quorum beside it. -/
def MI (σ : St) (w q P W A sure : Nat) (ents : List WEnt) (closed : Bool) : Prop :=
  ∃ fp wv, WRep σ w fp P W A sure ents closed wv ∧ (∀ a, fp a → q < a) ∧ σ.mem.get q = some (.cells 3 [i64 P, i64 W, i64 A]) ∧ q < σ.next ∧ (∀ e ∈ ents, DV e.d)

theorem MI.q {σ : St} {w q P W A sure : Nat} {ents : List WEnt} {closed : Bool} (h : MI σ w q P W A sure ents closed) : σ.mem.get q = some (.cells 3 [i64 P, i64 W, i64 A]) := by
  obtain ⟨fp, wv, _, _, hq, _⟩ := h; exact hq
theorem MI.num {σ : St} {w q P W A sure : Nat} {ents : List WEnt} {closed : Bool} (h : MI σ w q P W A sure ents closed) {i : Nat} {e : WEnt} (he : ents[i]? = some e) : e.n = sure + i := by
  obtain ⟨fp, wv, h, _⟩ := h; exact h.num i e he
theorem MI.said {σ : St} {w q P W A sure : Nat} {ents : List WEnt} {closed : Bool} (h : MI σ w q P W A sure ents closed) {e : WEnt} (he : e ∈ ents) : e.bs.length = P := by
  obtain ⟨fp, wv, h, _⟩ := h; exact (h.said e he).2.1

theorem MI.frame {σ σ' : St} {w q P W A sure : Nat} {ents : List WEnt} {closed : Bool} (h : MI σ w q P W A sure ents closed) (hm : ∀ a, a < σ.next → σ'.mem.get a = σ.mem.get a) (hn : σ.next ≤ σ'.next) : MI σ' w q P W A sure ents closed := by
  obtain ⟨fp, wv, h1, h2, h3, h4, h5⟩ := h
  exact ⟨fp, wv, h1.frame (fun a ha => hm a (h1.lt a ha)) hn, h2, by rw [hm q h4]; exact h3, by omega, h5⟩

theorem new_m {σ : St} {q P W A : Nat} (hq : 1 ≤ A ∧ A ≤ W ∧ W ≤ P ∧ P ≤ 7) (hm : σ.mem.get q = some (.cells 3 [i64 P, i64 W, i64 A])) (hl : q < σ.next) (Q : AVal → St → Prop) (h : ∀ w σ', MI σ' w q P W A 0 [] false → Q (.tup [.ptr w 0, i64 0]) σ') : ACall Try.prog 10 [qv P W A] σ Q := by
  refine new_c P W A hq σ Q fun w fp σ' hr hk hf => h w σ' ⟨fp, _, hr, fun a ha => by have := hf a ha; omega, ?_, ?_, fun e he => by simp at he⟩
  · rw [hk.2 q hl (fun h => h)]; exact hm
  · have := hk.1; omega

theorem add_m {σ : St} {w q P W A sure : Nat} {ents : List WEnt} {closed : Bool} (h : MI σ w q P W A sure ents closed) (hP : P ≤ 7) (hs : sure + ents.length ≤ 1000000) {d : AVal} {k : Nat} {dc : Bool → AVal} (hd : DataOk σ d k dc) (hdv : ∀ t, DV (dc t)) (Q : AVal → St → Prop)
    (q1 : closed = true → Q (.tup [u64 0, i64 24]) σ) (q2 : closed = false → 256 < k → Q (.tup [u64 0, i64 3]) σ) (q3 : closed = false → k ≤ 256 → 64 ≤ ents.length → Q (.tup [u64 0, i64 14]) σ)
    (q4 : ∀ (σ' : St) (s : Nat) (t : Bool), closed = false → k ≤ 256 → ents.length < 64 → MI σ' w q P W A sure (ents ++ [⟨sure + ents.length, dc t, s, List.replicate P false⟩]) false → Q (.tup [u64 (sure + ents.length : Nat), i64 0]) σ') :
    ACall Try.prog 11 [.ptr w 0, d] σ Q := by
  obtain ⟨fp, wv, h1, h2, h3, h4, h5⟩ := h
  refine add_c h1 hP hs hd Q q1 q2 q3 fun σ' fp' s t wv' c1 c2 c3 hr hk hf => q4 σ' s t c1 c2 c3 ⟨fp', wv', hr, fun a ha => ?_, ?_, ?_, fun e he => ?_⟩
  · rcases hf a ha with hx | hx
    · exact h2 a hx
    · omega
  · rw [hk.2 q h4 (fun hx => by have := h2 q hx; omega)]; exact h3
  · have := hk.1; omega
  · rcases List.mem_append.1 he with he | he
    · exact h5 e he
    · simp at he; subst he; exact hdv t

theorem heard_dv {ents : List WEnt} (h : ∀ e ∈ ents, DV e.d) (j p : Nat) : ∀ e ∈ heard ents j p, DV e.d := by
  intro e he
  obtain ⟨i, hi⟩ := List.mem_iff_getElem?.1 he
  rw [heard, List.getElem?_modify] at hi
  cases hy : ents[i]? with
  | none => rw [hy] at hi; simp at hi
  | some y =>
    rw [hy] at hi
    have := h y (List.mem_of_getElem? hy)
    by_cases hij : j = i
    · simp [hij] at hi; subst hi; exact this
    · simp [hij] at hi; subst hi; exact this

theorem ack_m {σ : St} {w q P W A sure : Nat} {ents : List WEnt} {closed : Bool} (h : MI σ w q P W A sure ents closed) (hq : 1 ≤ A ∧ A ≤ W ∧ W ≤ P ∧ P ≤ 7) (hs : sure + ents.length ≤ 1000000) (place : Int) (n : Nat) (hn : n < 18446744073709551616) (Q : AVal → St → Prop)
    (q1 : (n < sure ∨ sure + ents.length ≤ n ∨ ¬ ∃ y ∈ setP P W n, (y : Int) = place) → Q .nilsl σ)
    (q2 : ∀ (σ' : St) (v : AVal) (p k : Nat), (p : Int) = place → p ∈ setP P W n → sure ≤ n → n < sure + ents.length → k = popped P W A (heard ents (n - sure) p) → MI σ' w q P W A (sure + k) ((heard ents (n - sure) p).drop k) closed →
      (k = 0 ∧ v = .nilsl ∨ ∃ t, v = .isl (itemsC ((heard ents (n - sure) p).take k)) k t) → Q v σ') :
    ACall Try.prog 12 [.ptr w 0, i64 place, u64 n] σ Q := by
  obtain ⟨fp, wv, h1, h2, h3, h4, h5⟩ := h
  refine ack_c h1 hq hs place n hn Q q1 fun σ' wv' v p k c1 c2 c3 c4 c5 hr hk hv => q2 σ' v p k c1 c2 c3 c4 c5 ⟨fp, wv', hr, h2, ?_, ?_, fun e he => heard_dv h5 _ _ e (List.mem_of_mem_drop he)⟩ hv
  · rw [hk.2 q h4 (fun hx => by have := h2 q hx; omega)]; exact h3
  · have := hk.1; omega

theorem close_m {σ : St} {w q P W A sure : Nat} {ents : List WEnt} {closed : Bool} (h : MI σ w q P W A sure ents closed) (Q : AVal → St → Prop)
    (h1 : ents ≠ [] → Q (.tup [u64 0, i64 23]) σ) (h2 : ∀ σ', ents = [] → MI σ' w q P W A sure [] true → Q (.tup [u64 sure, i64 0]) σ') : ACall Try.prog 18 [.ptr w 0] σ Q := by
  obtain ⟨fp, wv, g1, g2, g3, g4, g5⟩ := h
  refine close_c g1 Q h1 fun σ' he hr hk => h2 σ' he ⟨fp, wv, hr, g2, ?_, ?_, fun e he => by simp at he⟩
  · rw [hk.2 q g4 (fun hx => by have := g2 q hx; omega)]; exact g3
  · have := hk.1; omega

theorem sure_m {σ : St} {w q P W A sure : Nat} {ents : List WEnt} {closed : Bool} (h : MI σ w q P W A sure ents closed) (Q : AVal → St → Prop) (hq : Q (u64 sure) σ) : ACall Try.prog 16 [.ptr w 0] σ Q := by
  obtain ⟨fp, wv, g1, _⟩ := h
  exact sure_c g1 Q hq

theorem count_m {σ : St} {w q P W A sure : Nat} {ents : List WEnt} {closed : Bool} (h : MI σ w q P W A sure ents closed) (hs : sure + ents.length ≤ 2000000) (Q : AVal → St → Prop) (hq : Q (u64 (sure + ents.length : Nat)) σ) : ACall Try.prog 17 [.ptr w 0] σ Q := by
  obtain ⟨fp, wv, g1, _⟩ := h
  exact count_c g1 hs Q hq

theorem waiting_m {σ : St} {w q P W A sure : Nat} {ents : List WEnt} {closed : Bool} (h : MI σ w q P W A sure ents closed) (hq : 1 ≤ A ∧ A ≤ W ∧ W ≤ P ∧ P ≤ 7) (hs : sure + ents.length ≤ 1000000) (Q : AVal → St → Prop)
    (q1 : ents = [] → Q (.tup [.nilsl, .nilsl]) σ) (q2 : ents ≠ [] → Q (.tup [.isl (itemsC (ents.map cloneE)) ents.length false, .isl (ents.map (toA P W)) ents.length false]) σ) :
    ACall Try.prog 19 [.ptr w 0] σ Q := by
  obtain ⟨fp, wv, g1, g2, g3, g4, g5⟩ := h
  exact waiting_c g1 hq hs g5 Q q1 q2

theorem waiting_v {σ : St} {w q P W A sure : Nat} {ents : List WEnt} {closed : Bool} (h : MI σ w q P W A sure ents closed) (hq : 1 ≤ A ∧ A ≤ W ∧ W ≤ P ∧ P ≤ 7) (hs : sure + ents.length ≤ 1000000) (Q : AVal → St → Prop)
    (k : ∀ x y, (ents = [] ∧ x = .nilsl ∧ y = .nilsl ∨ x = .isl (itemsC (ents.map cloneE)) ents.length false ∧ y = .isl (ents.map (toA P W)) ents.length false) → Q (.tup [x, y]) σ) :
    ACall Try.prog 19 [.ptr w 0] σ Q :=
  waiting_m h hq hs Q (fun he => k _ _ (.inl ⟨he, rfl, rfl⟩)) (fun _ => k _ _ (.inr ⟨rfl, rfl⟩))

theorem replace_m {σ : St} {w q P W A sure : Nat} {ents : List WEnt} {closed : Bool} (h : MI σ w q P W A sure ents closed) (hq : 1 ≤ A ∧ A ≤ W ∧ W ≤ P ∧ P ≤ 7) (hs : sure + ents.length ≤ 1000000) (place : Int) (Q : AVal → St → Prop)
    (q1 : ∀ (σ' : St) (v : AVal), MI σ' w q P W A sure (ents.map (replE P W place)) closed → (replN P W place ents = [] ∧ v = .nilsl ∨ ∃ t, v = .isl (uv (replN P W place ents)) (replN P W place ents).length t) → Q v σ') :
    ACall Try.prog 20 [.ptr w 0, i64 place] σ Q := by
  obtain ⟨fp, wv, g1, g2, g3, g4, g5⟩ := h
  refine replace_c g1 hq hs place Q fun σ' v hr hk hv => q1 σ' v ⟨fp, wv, hr, g2, ?_, ?_, fun e he => ?_⟩ hv
  · rw [hk.2 q g4 (fun hx => by have := g2 q hx; omega)]; exact g3
  · have := hk.1; omega
  · obtain ⟨e', he', rfl⟩ := List.mem_map.1 he
    have := g5 e' he'
    simp only [replE]
    split <;> exact this

/-- What is fresh: nobody has said anything. -/
def Fresh (P : Nat) (e : WEnt) : Prop := e.bs = List.replicate P false
theorem fresh_cnt {P : Nat} {e : WEnt} (h : Fresh P e) (l : List Nat) : cnt e.bs l = 0 := by
  rw [h, cnt, List.countP_eq_zero]
  intro p _
  rw [List.getD_eq_getElem?_getD, List.getElem?_replicate]
  split <;> simp
theorem fresh_popped {P W A : Nat} (hA : 1 ≤ A) : ∀ {ents : List WEnt}, (∀ e ∈ ents, Fresh P e) → popped P W A ents = 0
  | [], _ => rfl
  | e :: es, h => by
    have := fresh_cnt (h e (by simp)) (setP P W e.n)
    simp [popped, enoughE, this]; omega
theorem popped_le (P W A : Nat) : ∀ (ents : List WEnt), popped P W A ents ≤ ents.length
  | [] => Nat.le_refl _
  | e :: es => by
    have := popped_le P W A es
    simp only [popped, List.length_cons]
    split <;> omega
end Go.Proofs.Ytkfofdeceicfkaa.AM

/- The example of chapter 11 is as it should be. -/
namespace Go.Proofs.Ytkfofdeceicfkaa.AM
set_option maxRecDepth 100000
set_option linter.unusedVariables false
set_option linter.unusedSimpArgs false

def tabL : TabL := [(8, ac8, rs8, 0), (10, ac10, rs10, 1), (11, ac11, rs11, 2), (12, ac12, rs12, 3), (17, ac17, rs17, 1), (24, ac24, rs24, 1), (25, ac25, rs25, 1), (26, ac26, rs26, 2), (27, ac27, rs27, 2), (28, ac28, rs28, 3), (36, ac36, rs36, 2), (37, ac37, rs37, 3)]
theorem tabOk : TabOk Try.prog (look tabL) := by
  unfold tabL
  refine tab_cons ?_ (fun a w => Try.call8 a w) Try.func8 cf8 (by decide)
  refine tab_cons ?_ (fun a w => Try.call10 a w) Try.func10 cf10 (by decide)
  refine tab_cons ?_ (fun a w => Try.call11 a w) Try.func11 cf11 (by decide)
  refine tab_cons ?_ (fun a w => Try.call12 a w) Try.func12 cf12 (by decide)
  refine tab_cons ?_ (fun a w => Try.call17 a w) Try.func17 cf17 (by decide)
  refine tab_cons ?_ (fun a w => Try.call24 a w) Try.func24 cf24 (by decide)
  refine tab_cons ?_ (fun a w => Try.call25 a w) Try.func25 cf25 (by decide)
  refine tab_cons ?_ (fun a w => Try.call26 a w) Try.func26 cf26 (by decide)
  refine tab_cons ?_ (fun a w => Try.call27 a w) Try.func27 cf27 (by decide)
  refine tab_cons ?_ (fun a w => Try.call28 a w) Try.func28 cf28 (by decide)
  refine tab_cons ?_ (fun a w => Try.call36 a w) Try.func36 cf36 (by decide)
  refine tab_cons ?_ (fun a w => Try.call37 a w) Try.func37 cf37 (by decide)
  exact tab_nil hmx
def runOk (x : Option (AVal × St)) : Bool := match x with
  | some (.bool true, _) => true
  | _ => false
theorem awake_run : runOk (callT (look tabL) 300 20 8 [] σ0) = true := by kernel_rfl
theorem awake (σ : St) (Q : AVal → St → Prop) (hq : Q (.bool true) σ) : ACall Try.prog 8 [] σ Q := by
  refine ACall.frame ?_ rfl
  have h := awake_run
  unfold runOk at h
  split at h
  · rename_i σ hs; exact ACall.of_run tabOk 300 20 hs ⟨rfl, hq⟩
  · cases h

end Go.Proofs.Ytkfofdeceicfkaa.AM

namespace Go.Proofs.Ytkfofdeceicfkaa.AM
open Go.RowKit
set_option maxRecDepth 100000
set_option linter.unusedVariables false
set_option linter.unusedSimpArgs false

def bytesV (l : List UInt8) : List AVal := l.map fun b => .int .u8 (b.toNat : Int)
/-- A slice of bytes that does not change. -/
def BytesOf (d : AVal) (l : List UInt8) : Prop := d = .nilsl ∧ l = [] ∨ ∃ t, d = .isl (bytesV l) l.length t
theorem bytesV_len (l : List UInt8) : (bytesV l).length = l.length := by simp [bytesV]
theorem bytesV_upto (lo : Nat) (l : List UInt8) : uptoL lo (bytesV l) = true := by
  induction l with
  | nil => rfl
  | cons x l ih =>
    simp only [bytesV] at ih
    simp only [bytesV, List.map_cons, uptoL, AVal.upto, ih, Bool.and_true]
theorem bytesV_bytes : ∀ (l : List UInt8), listM byteOfA (bytesV l) = some l
  | [] => rfl
  | x :: l => by
    have h : byteOfA (.int .u8 (x.toNat : Int)) = some x := by simp [byteOfA]
    have ih := bytesV_bytes l
    simp only [bytesV] at ih
    simp only [bytesV, List.map_cons, listM_cons, h, ih]
    rfl
theorem BytesOf.str {d : AVal} {l : List UInt8} (h : BytesOf d l) (ρ : St) : evalV ρ (.bytesStr d) = some (.str ⟨l.toArray⟩, ρ) := by
  rcases h with ⟨rfl, rfl⟩ | ⟨t, rfl⟩
  · rfl
  · simp only [evalV, srcL, bytesV_len, Nat.mul_one, if_true, Option.bind_some, bytesV_bytes, Option.map_some]
theorem BytesOf.len {d : AVal} {l : List UInt8} (h : BytesOf d l) (ρ : St) : evalV ρ (.len 1 d) = some (i64 l.length, ρ) := by
  rcases h with ⟨rfl, rfl⟩ | ⟨t, rfl⟩ <;> simp
theorem BytesOf.dv {d : AVal} {l : List UInt8} (h : BytesOf d l) (hl : l.length ≤ 140737488355328) : DV d := by
  rcases h with ⟨rfl, rfl⟩ | ⟨t, rfl⟩
  · exact .inl rfl
  · exact .inr ⟨_, _, _, rfl, bytesV_len l, hl, bytesV_upto 0 l⟩
theorem BytesOf.one {d : AVal} {l : List UInt8} (h : BytesOf d l) : d.one = true ∧ cellsOf d = [d] := by
  rcases h with ⟨rfl, rfl⟩ | ⟨t, rfl⟩ <;> simp
theorem BytesOf.data {d : AVal} {l : List UInt8} (h : BytesOf d l) (hl : l.length ≤ 140737488355328) (σ : St) : ∃ dc, DataOk σ d l.length dc ∧ ∀ t, BytesOf (dc t) l := by
  rcases h with ⟨rfl, rfl⟩ | ⟨t, rfl⟩
  · exact ⟨_, data_nil σ, fun _ => .inl ⟨rfl, rfl⟩⟩
  · exact ⟨_, data_isl σ _ _ t (bytesV_len l) hl (bytesV_upto 0 l), fun t => .inr ⟨t, rfl⟩⟩

/-- A slice of bytes, as an argument has it. -/
theorem bytes_arg {d : AVal} {ok : List AVal → Prop} (hok : ∀ x, ok x → ∃ n, x = [.int .u8 n] ∧ (Lit.int .u8 n).wf = true) (h : [d] = [.nilsl] ∨ ∃ xs : List (List AVal), [d] = [.isl xs.flatten xs.length false] ∧ (∀ x ∈ xs, x.length = 1 ∧ ok x) ∧ xs.length ≤ 9223372036854775807 ∧ xs.length * 1 ≤ 140737488351232) :
    ∃ l, BytesOf d l ∧ l.length ≤ 140737488351232 := by
  rcases h with h | ⟨xs, h, hx, _, hl⟩
  · cases h; exact ⟨[], .inl ⟨rfl, rfl⟩, by simp⟩
  · cases h
    have : ∀ xs : List (List AVal), (∀ x ∈ xs, x.length = 1 ∧ ok x) → ∃ l : List UInt8, xs.flatten = bytesV l ∧ l.length = xs.length := by
      intro xs
      induction xs with
      | nil => intro _; exact ⟨[], rfl, rfl⟩
      | cons x xs ih =>
        intro h
        obtain ⟨l, h1, h2⟩ := ih (fun y hy => h y (by simp [hy]))
        obtain ⟨n, rfl, hw⟩ := hok x (h x (by simp)).2
        obtain ⟨k, rfl, hk⟩ := wf_u8 hw
        refine ⟨UInt8.ofNat k :: l, ?_, by simp [h2]⟩
        have : (UInt8.ofNat k).toNat = k := by simp; omega
        simp [bytesV, h1, this]
    obtain ⟨l, h1, h2⟩ := this xs hx
    exact ⟨l, .inr ⟨false, by rw [h1, h2]⟩, by omega⟩
end Go.Proofs.Ytkfofdeceicfkaa.AM

/- The law of order: what is kept while it runs. -/
namespace Go.Proofs.Ytkfofdeceicfkaa.AM
set_option maxRecDepth 100000
set_option linter.unusedVariables false
set_option linter.unusedSimpArgs false

def hasL (h N P : Nat) : List AVal := (List.range N).map fun i => .sl (h + 1 + i) 0 P P true
theorem hasL_get {h N P i : Nat} (hi : i < N) : (hasL h N P)[i]? = some (.sl (h + 1 + i) 0 P P true) := by
  simp [hasL, hi]
theorem hasL_len (h N P : Nat) : (hasL h N P).length = N := by simp [hasL]

/-- What was said of each entry, in its blocks. -/
def Has (mem : Mem) (h N P : Nat) (hs : List (List Bool)) : Prop :=
  mem.get h = some (.cells 1 (hasL h N P)) ∧ hs.length = N ∧ ∀ (i : Nat) (bs : List Bool), hs[i]? = some bs → mem.get (h + 1 + i) = some (.cells 1 (bv bs)) ∧ bs.length = P

def DatOf (ls : List (List UInt8)) (nx : Nat) (ents : List WEnt) : Prop := ∀ (j : Nat) (e : WEnt), ents[j]? = some e → ∃ l, ls[nx + j]? = some l ∧ BytesOf e.d l

/-- The writer, with nx entries confirmed, and what is known of it. -/
def OI (σ' : St) (w P W A nx N h : Nat) (ls : List (List UInt8)) (hs : List (List Bool)) : Prop :=
  ∃ (fp : Nat → Prop) (wv : AVal) (ents : List WEnt), WRep σ' w fp P W A nx ents false wv ∧ (∀ a, fp a → 0 < a ∧ a < h) ∧ h + N < σ'.next ∧ σ'.mem.get 0 = some (.cells 3 [i64 P, i64 W, i64 A]) ∧ nx + ents.length = N ∧
    ents.map (·.bs) = hs.drop nx ∧ DatOf ls nx ents ∧ ∀ e es, ents = e :: es → enoughE P W A e = false

/-- An entry more has a place's word. -/
def hear1 (P W : Nat) (hs : List (List Bool)) (nx e p : Nat) : List (List Bool) := if nx ≤ e ∧ p ∈ setP P W e then hs.modify e (·.set p true) else hs

/-- Behind an Ack: what it gave. -/
def Mid (w P W A nx N h : Nat) (ls : List (List UInt8)) (hs hs1 : List (List Bool)) (v : AVal) (σ' : St) : Prop :=
  ∃ (k : Nat) (its : List WEnt), OI σ' w P W A (nx + k) N h ls hs1 ∧ Has σ'.mem h N P hs ∧ its.length = k ∧ (k = 0 ∧ v = .nilsl ∨ ∃ t, v = .isl (itemsC its) k t) ∧
    ∀ (i : Nat) (x : WEnt), its[i]? = some x → x.n = nx + i ∧ hs1[nx + i]? = some x.bs ∧ enoughE P W A x = true ∧ ∃ l, ls[nx + i]? = some l ∧ BytesOf x.d l

theorem popped_spec (P W A : Nat) : ∀ (es : List WEnt), (∀ (i : Nat) (e : WEnt), i < popped P W A es → es[i]? = some e → enoughE P W A e = true) ∧ ∀ e es', es.drop (popped P W A es) = e :: es' → enoughE P W A e = false
  | [] => ⟨fun i e _ h => by simp at h, fun e es' h => by simp at h⟩
  | x :: es => by
    have ih := popped_spec P W A es
    by_cases hx : enoughE P W A x = true
    · have hp : popped P W A (x :: es) = popped P W A es + 1 := by simp [popped, hx]; omega
      rw [hp]
      refine ⟨fun i e hi he => ?_, fun e es' h => ih.2 e es' (by simpa using h)⟩
      cases i with
      | zero => simp at he; subst he; exact hx
      | succ i => exact ih.1 i e (by omega) (by simpa using he)
    · have hp : popped P W A (x :: es) = 0 := by simp [popped, hx]
      rw [hp]
      refine ⟨fun i e hi _ => by omega, fun e es' h => ?_⟩
      simp at h
      rw [← h.1]; simpa using hx

theorem modify_drop {α : Type} (f : α → α) : ∀ (l : List α) (n j : Nat), (l.modify (n + j) f).drop n = (l.drop n).modify j f
  | l, 0, j => by simp
  | [], n + 1, j => by cases j <;> simp
  | x :: l, n + 1, j => by
    rw [show n + 1 + j = (n + j) + 1 by omega, List.modify_succ_cons]
    simpa using modify_drop f l n j
theorem map_bs_heard (ents : List WEnt) (j p : Nat) : (heard ents j p).map (·.bs) = (ents.map (·.bs)).modify j (·.set p true) := by
  refine List.ext_getElem? fun i => ?_
  rw [heard, List.getElem?_map, List.getElem?_modify, List.getElem?_modify, List.getElem?_map]
  cases ents[i]? with
  | none => rfl
  | some y => by_cases h : j = i <;> simp [h, setSaid]
theorem heard_get {ents : List WEnt} {j p i : Nat} {e : WEnt} (h : (heard ents j p)[i]? = some e) : ∃ y, ents[i]? = some y ∧ e.n = y.n ∧ e.d = y.d := by
  rw [heard, List.getElem?_modify] at h
  cases hy : ents[i]? with
  | none => rw [hy] at h; simp at h
  | some y =>
    rw [hy] at h
    by_cases hij : j = i
    · simp [hij] at h; subst h; exact ⟨y, rfl, rfl, rfl⟩
    · simp [hij] at h; subst h; exact ⟨y, rfl, rfl, rfl⟩

theorem ack_mid {σ : St} {w P W A nx N h : Nat} {ls : List (List UInt8)} {hs : List (List Bool)} (hq : 1 ≤ A ∧ A ≤ W ∧ W ≤ P ∧ P ≤ 7) (hN : N ≤ 1000) (ho : OI σ w P W A nx N h ls hs) (hh : Has σ.mem h N P hs) (p e : Nat) (he : e < N) :
    ACall Try.prog 12 [.ptr w 0, i64 (p : Int), u64 (e : Int)] σ (Mid w P W A nx N h ls hs (hear1 P W hs nx e p)) := by
  obtain ⟨fp, wv, ents, h1, h2, h3, h4, h5, h6, h7, h8⟩ := ho
  refine ack_c h1 hq (by omega) p e (by omega) _ ?_ ?_
  · intro hno
    have : hear1 P W hs nx e p = hs := by
      rw [hear1, if_neg]
      rintro ⟨a, b⟩
      rcases hno with hno | hno | hno
      · omega
      · omega
      · exact hno ⟨p, b, rfl⟩
    rw [this]
    exact ⟨0, [], ⟨fp, wv, ents, h1, h2, h3, h4, h5, h6, h7, h8⟩, hh, rfl, .inl ⟨rfl, rfl⟩, fun i x hx => by simp at hx⟩
  · intro σ' wv' v p' k c1 c2 c3 c4 c5 hr hk hv
    have : p' = p := by omega
    subst this
    have hhe : hear1 P W hs nx e p' = hs.modify e (·.set p' true) := by rw [hear1, if_pos ⟨c3, c2⟩]
    rw [hhe]
    obtain ⟨j, hj⟩ : ∃ j, e - nx = j := ⟨_, rfl⟩
    have hej : e = nx + j := by omega
    rw [hj] at c5 hr hv
    obtain ⟨es, hes⟩ : ∃ es, heard ents j p' = es := ⟨_, rfl⟩
    have hbs := map_bs_heard ents j p'
    rw [h6, ← modify_drop, ← hej, hes] at hbs
    have hlen : es.length = ents.length := by rw [← hes]; simp [heard]
    have hdat : DatOf ls nx es := by
      intro i x hx
      rw [← hes] at hx
      obtain ⟨y, hy, _, hd⟩ := heard_get hx
      rw [hd]; exact h7 i y hy
    have hnum : ∀ (i : Nat) (x : WEnt), es[i]? = some x → x.n = nx + i := by
      intro i x hx
      rw [← hes] at hx
      obtain ⟨y, hy, hn, _⟩ := heard_get hx
      rw [hn]; exact h1.num i y hy
    rw [hes] at c5 hr hv
    have hps := popped_spec P W A es
    rw [← c5] at hps
    have hkl : k ≤ es.length := by
      rw [c5]; exact popped_le P W A es
    have keep : ∀ a, a < σ.next → (a = 0 ∨ h ≤ a) → σ'.mem.get a = σ.mem.get a := fun a ha hb => hk.2 a ha (fun hf => by have := h2 a hf; omega)
    refine ⟨k, es.take k, ⟨fp, wv', es.drop k, hr, h2, by have := hk.1; omega, ?_, by rw [List.length_drop]; omega, ?_, ?_, fun x xs hx => hps.2 x xs hx⟩, ⟨?_, hh.2.1, fun i bs hi => ?_⟩, by rw [List.length_take]; omega, ?_, ?_⟩
    · rw [keep 0 (by omega) (.inl rfl)]; exact h4
    · rw [List.map_drop, hbs, List.drop_drop]
    · intro i x hx
      rw [List.getElem?_drop] at hx
      obtain ⟨l, hl, hb⟩ := hdat _ x hx
      exact ⟨l, by rw [← hl]; congr 1; omega, hb⟩
    · rw [keep h (by omega) (.inr (Nat.le_refl _))]; exact hh.1
    · have hi2 : i < N := by rw [← hh.2.1]; exact (List.getElem?_eq_some_iff.1 hi).1
      have := hh.2.2 i bs hi
      exact ⟨by rw [keep _ (by omega) (.inr (by omega))]; exact this.1, this.2⟩
    · rcases hv with ⟨a, b⟩ | ⟨t, b⟩
      · exact .inl ⟨a, b⟩
      · exact .inr ⟨t, b⟩
    · intro i x hx
      rw [List.getElem?_take] at hx
      split at hx
      · rename_i hik
        refine ⟨hnum i x hx, ?_, hps.1 i x hik hx, hdat i x hx⟩
        have : (es.map (·.bs))[i]? = some x.bs := by rw [List.getElem?_map, hx]; rfl
        rw [hbs, List.getElem?_drop] at this
        exact this
      · cases hx
end Go.Proofs.Ytkfofdeceicfkaa.AM
