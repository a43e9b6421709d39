/- What the functions of this chapter give: their contracts over the machine. -/
import Derived.Test.YtieieknhhfallaaDoorCt115
import Derived.Test.YtieieknhhfallaaDoorAm3
import Derived.Test.YtieieknhhfallaaDoorC115
import Derived.Tactics
import Derived.Tactics2
import Derived.Defers
import Derived.Recover
import Derived.Laws.Pointers
/- utf8.word, utf8.Valid. -/
namespace Go.Proofs.YtieieknhhfallaaDoor.AM
open Go.RowKit
set_option maxRecDepth 100000
set_option linter.unusedVariables false
set_option linter.unusedSimpArgs false

theorem word_c {σ : St} {v : AVal} {c : Option Nat} {a0 a1 a2 a3 a4 a5 a6 a7 : UInt8} {r : List UInt8} (h : RdB σ v (a0 :: a1 :: a2 :: a3 :: a4 :: a5 :: a6 :: a7 :: r) c) (Q : AVal → St → Prop)
    (hQ : Q (.int .u64 (wordN a0.toNat a1.toNat a2.toNat a3.toNat a4.toNat a5.toNat a6.toNat a7.toNat : Nat)) σ) : ACall Tryd.prog 51 [v] σ Q := by
  refine ACall.of_compF hmx (fun a w => Tryd.call51 a w) Tryd.func51 cf51 (n := 1) (by decide) rfl ?_
  obtain ⟨p0, i0, d0⟩ := h.at (i := 0) (x := a0) rfl (z := 0) rfl
  obtain ⟨p1, i1, d1⟩ := h.at (i := 1) (x := a1) rfl (z := 1) rfl
  obtain ⟨p2, i2, d2⟩ := h.at (i := 2) (x := a2) rfl (z := 2) rfl
  obtain ⟨p3, i3, d3⟩ := h.at (i := 3) (x := a3) rfl (z := 3) rfl
  obtain ⟨p4, i4, d4⟩ := h.at (i := 4) (x := a4) rfl (z := 4) rfl
  obtain ⟨p5, i5, d5⟩ := h.at (i := 5) (x := a5) rfl (z := 5) rfl
  obtain ⟨p6, i6, d6⟩ := h.at (i := 6) (x := a6) rfl (z := 6) rfl
  obtain ⟨p7, i7, d7⟩ := h.at (i := 7) (x := a7) rfl (z := 7) rfl
  have d0 := d0 σ (fun _ _ => rfl)
  have d1 := d1 σ (fun _ _ => rfl)
  have d2 := d2 σ (fun _ _ => rfl)
  have d3 := d3 σ (fun _ _ => rfl)
  have d4 := d4 σ (fun _ _ => rfl)
  have d5 := d5 σ (fun _ _ => rfl)
  have d6 := d6 σ (fun _ _ => rfl)
  have d7 := d7 σ (fun _ _ => rfl)
  have b0 := a0.toNat_lt
  have b1 := a1.toNat_lt
  have b2 := a2.toNat_lt
  have b3 := a3.toNat_lt
  have b4 := a4.toNat_lt
  have b5 := a5.toNat_lt
  have b6 := a6.toNat_lt
  have b7 := a7.toNat_lt
  unfold wordN at hQ
  generalize a0.toNat = x0 at *
  generalize a1.toNat = x1 at *
  generalize a2.toNat = x2 at *
  generalize a3.toNat = x3 at *
  generalize a4.toNat = x4 at *
  generalize a5.toNat = x5 at *
  generalize a6.toNat = x6 at *
  generalize a7.toNat = x7 at *
  have w : ∀ x : Nat, x < 256 → IntKind.u64.wrap (x : Int) = (x : Int) := fun x hx => by rw [IntWalk.u64_in] <;> omega
  have sl : ∀ (x s : Nat), x < 256 → s ≤ 56 → x <<< s < 18446744073709551616 := fun x s hx hs => by
    rw [Nat.shiftLeft_eq]
    have h4 : (2 : Nat) ^ s ≤ 2 ^ 56 := Nat.pow_le_pow_right (by omega) hs
    have h5 : x * 2 ^ s ≤ 255 * 2 ^ 56 := Nat.mul_le_mul (by omega) h4
    have : 255 * 2 ^ 56 < 18446744073709551616 := by decide
    omega
  have s1 := shl64 (s := 8) b1 (by omega)
  have s2 := shl64 (s := 16) b2 (by omega)
  have s3 := shl64 (s := 24) b3 (by omega)
  have s4 := shl64 (s := 32) b4 (by omega)
  have s5 := shl64 (s := 40) b5 (by omega)
  have s6 := shl64 (s := 48) b6 (by omega)
  have s7 := shl64 (s := 56) b7 (by omega)
  have t1 := sl x1 8 b1 (by omega)
  have t2 := sl x2 16 b2 (by omega)
  have t3 := sl x3 24 b3 (by omega)
  have t4 := sl x4 32 b4 (by omega)
  have t5 := sl x5 40 b5 (by omega)
  have t6 := sl x6 48 b6 (by omega)
  have t7 := sl x7 56 b7 (by omega)
  simp only [Int.cast_ofNat_Int] at s1 s2 s3 s4 s5 s6 s7
  generalize x1 <<< 8 = y1 at *
  generalize x2 <<< 16 = y2 at *
  generalize x3 <<< 24 = y3 at *
  generalize x4 <<< 32 = y4 at *
  generalize x5 <<< 40 = y5 at *
  generalize x6 <<< 48 = y6 at *
  generalize x7 <<< 56 = y7 at *
  have o1 := or64 (a := x0) (by omega) t1
  have u1 : x0 ||| y1 < 18446744073709551616 := Nat.or_lt_two_pow (n := 64) (by omega) t1
  generalize x0 ||| y1 = z1 at *
  have o2 := or64 u1 t2
  have u2 : z1 ||| y2 < 18446744073709551616 := Nat.or_lt_two_pow (n := 64) u1 t2
  generalize z1 ||| y2 = z2 at *
  have o3 := or64 u2 t3
  have u3 : z2 ||| y3 < 18446744073709551616 := Nat.or_lt_two_pow (n := 64) u2 t3
  generalize z2 ||| y3 = z3 at *
  have o4 := or64 u3 t4
  have u4 : z3 ||| y4 < 18446744073709551616 := Nat.or_lt_two_pow (n := 64) u3 t4
  generalize z3 ||| y4 = z4 at *
  have o5 := or64 u4 t5
  have u5 : z4 ||| y5 < 18446744073709551616 := Nat.or_lt_two_pow (n := 64) u4 t5
  generalize z4 ||| y5 = z5 at *
  have o6 := or64 u5 t6
  have u6 : z5 ||| y6 < 18446744073709551616 := Nat.or_lt_two_pow (n := 64) u5 t6
  generalize z5 ||| y6 = z6 at *
  have o7 := or64 u6 t7
  generalize z6 ||| y7 = z7 at *
  simp [ac51, rs51, lk_cons, ↓i0, ↓i1, ↓i2, ↓i3, ↓i4, ↓i5, ↓i6, ↓i7, ↓d0, ↓d1, ↓d2, ↓d3, ↓d4, ↓d5, ↓d6, ↓d7, w _ b0, w _ b1, w _ b2, w _ b3, w _ b4, w _ b5, w _ b6, w _ b7, s1, s2, s3, s4, s5, s6, s7, o1, o2, o3, o4, o5, o6, o7]
  exact hQ
end Go.Proofs.YtieieknhhfallaaDoor.AM

/- utf8.Valid: what it says. -/
namespace Go.Proofs.YtieieknhhfallaaDoor.AM
open Go.RowKit
set_option maxRecDepth 100000
set_option linter.unusedVariables false
set_option linter.unusedSimpArgs false

def fT (x : Nat) : Nat := Go.Pinned.utf8FirstZ.getD x 0
/-- Of a first byte's entry: how many bytes, from where to where the second one. -/
def clsOf (f : Nat) : Nat × Nat × Nat := (f % 8, utf8Acc.getD (f / 16 * 2) 0, utf8Acc.getD (f / 16 * 2 + 1) 0)
def okB (lo hi : Nat) (b : UInt8) : Bool := decide (lo ≤ b.toNat) && decide (b.toNat ≤ hi)
/-- Are bytes UTF-8? -/
def vld : List UInt8 → Bool
  | [] => true
  | x :: l => if x.toNat < 128 then vld l
    else if (clsOf (fT x.toNat)).1 = 2 then (match l with
      | a :: r => okB (clsOf (fT x.toNat)).2.1 (clsOf (fT x.toNat)).2.2 a && vld r
      | _ => false)
    else if (clsOf (fT x.toNat)).1 = 3 then (match l with
      | a :: b :: r => okB (clsOf (fT x.toNat)).2.1 (clsOf (fT x.toNat)).2.2 a && okB 128 191 b && vld r
      | _ => false)
    else if (clsOf (fT x.toNat)).1 = 4 then (match l with
      | a :: b :: d :: r => okB (clsOf (fT x.toNat)).2.1 (clsOf (fT x.toNat)).2.2 a && okB 128 191 b && okB 128 191 d && vld r
      | _ => false)
    else false
termination_by l => l.length
decreasing_by all_goals (simp only [List.length_cons]; omega)
theorem vld_nil : vld [] = true := by rw [vld]
theorem vld_asc {x : UInt8} {l : List UInt8} (h : x.toNat < 128) : vld (x :: l) = vld l := by
  rw [vld.eq_def]
  simp only [if_pos h]
theorem vld_skip : ∀ (n : Nat) (l : List UInt8), (∀ x ∈ l.take n, x.toNat < 128) → vld l = vld (l.drop n)
  | 0, l, _ => by simp
  | n + 1, [], _ => by simp
  | n + 1, x :: l, h => by
    rw [vld_asc (h x (by simp)), List.drop_succ_cons]
    exact vld_skip n l fun y hy => h y (by simp [hy])
theorem vld_all {l : List UInt8} (h : ∀ x ∈ l, x.toNat < 128) : vld l = true := by
  rw [vld_skip l.length l (fun x hx => h x (List.mem_of_mem_take hx)), List.drop_length, vld_nil]

theorem first_len : Go.Pinned.utf8FirstZ.length = 256 := by decide
theorem first_lt : ∀ x ∈ Go.Pinned.utf8FirstZ, x < 256 := by decide
theorem acc_len : utf8Acc.length = 32 := by decide
theorem cls_at {x : Nat} (hx : x < 256) : ∃ f n k lo hi : Nat, ((gl 0).drop x).take 1 = [.int .u8 (f : Int)] ∧ abits .and .u8 (f : Int) 7 = some (.int .u8 (n : Int)) ∧ ashift .shr .u8 (f : Int) 4 = some (.int .u8 (k : Int)) ∧ k < 16 ∧ ((gl 1).drop (k * 2)).take 2 = [.int .u8 (lo : Int), .int .u8 (hi : Int)] ∧ n < 8 ∧ clsOf (fT x) = (n, lo, hi) := by
  have hx' : x < Go.Pinned.utf8FirstZ.length := by rw [first_len]; exact hx
  have hf : fT x = Go.Pinned.utf8FirstZ[x] := by simp [fT, List.getD_eq_getElem?_getD, List.getElem?_eq_getElem hx']
  have hlt : fT x < 256 := by rw [hf]; exact first_lt _ (List.getElem_mem hx')
  have h0 : gl 0 = Go.Pinned.utf8FirstZ.map fun (n : Nat) => AVal.int .u8 (n : Int) := rfl
  have h1 : gl 1 = utf8Acc.map fun (n : Nat) => AVal.int .u8 (n : Int) := rfl
  have h2 : ((gl 0).drop x).take 1 = [.int .u8 (fT x : Int)] := by
    rw [h0, ← List.map_drop, ← List.map_take, List.drop_eq_getElem_cons hx', hf]; rfl
  revert h2 hlt
  clear hf
  generalize fT x = f
  intro hlt h2
  refine ⟨f, f % 8, f / 16, utf8Acc.getD (f / 16 * 2) 0, utf8Acc.getD (f / 16 * 2 + 1) 0, h2, ?_, ?_, by omega, ?_, by omega, rfl⟩
  · have := and8 (a := f) (b := 7) hlt (by omega)
    rw [show f &&& 7 = f % 8 from Nat.and_two_pow_sub_one_eq_mod f 3] at this
    exact this
  · have e1 : ¬ ((4 : Int) < 0) := by omega
    have e2 : min (4 : Int).toNat (IntKind.bits .u8) = 4 := rfl
    simp only [ashift, if_neg e1, e2]
    rw [Int.fdiv_eq_ediv_of_nonneg _ (Int.pow_nonneg (by omega))]
    have e3 : (f : Int) / 2 ^ 4 = ((f / 16 : Nat) : Int) := by
      have : (2 : Int) ^ 4 = 16 := by decide
      rw [this]; omega
    rw [e3]
  · obtain ⟨k, hk⟩ : ∃ k, f / 16 = k := ⟨_, rfl⟩
    have hk16 : k < 16 := by omega
    rw [hk, h1, ← List.map_drop, ← List.map_take]
    have g1 : k * 2 < utf8Acc.length := by rw [acc_len]; omega
    have g2 : k * 2 + 1 < utf8Acc.length := by rw [acc_len]; omega
    rw [List.drop_eq_getElem_cons g1, List.drop_eq_getElem_cons g2]
    simp only [List.take_succ_cons, List.take_zero, List.map_cons, List.map_nil, List.getD_eq_getElem?_getD, List.getElem?_eq_getElem g1, List.getElem?_eq_getElem g2, Option.getD_some]

def VaJ (l0 : List UInt8) (c : Option Nat) (σ0 : St) (mm : Nat) (rg : Regs) (σ' : St) : Prop := ∃ (l : List UInt8) (v : AVal), mm = l.length ∧ vld l = vld l0 ∧ l.length ≤ l0.length ∧ RdB σ' v l c ∧ Grow σ0 σ' ∧ rg = [(0, v)]
theorem take8 {l : List UInt8} (h : 8 < l.length) : ∃ a0 a1 a2 a3 a4 a5 a6 a7 r, l = a0 :: a1 :: a2 :: a3 :: a4 :: a5 :: a6 :: a7 :: r := by
  match l, h with
  | a0 :: a1 :: a2 :: a3 :: a4 :: a5 :: a6 :: a7 :: r, _ => exact ⟨_, _, _, _, _, _, _, _, _, rfl⟩
/-- A word of bytes: what it gives, and that its bytes are ASCII if the high bits are none. -/
theorem wordl_c {σ : St} {v : AVal} {l : List UInt8} {c : Option Nat} (h : RdB σ v l c) (hl : 8 < l.length) : ∃ w : Nat, w < 18446744073709551616 ∧ (w &&& hiM = 0 → ∀ x ∈ l.take 8, x.toNat < 128) ∧ ∀ (Q : AVal → St → Prop), Q (.int .u64 (w : Int)) σ → ACall Tryd.prog 51 [v] σ Q := by
  obtain ⟨a0, a1, a2, a3, a4, a5, a6, a7, r, rfl⟩ := take8 hl
  refine ⟨wordN a0.toNat a1.toNat a2.toNat a3.toNat a4.toNat a5.toNat a6.toNat a7.toNat, ?_, fun hw => ?_, fun Q hQ => word_c h Q hQ⟩
  · have sl : ∀ (x s : Nat), x < 256 → s ≤ 56 → x <<< s < 2 ^ 64 := fun x s hx hs => by
      rw [Nat.shiftLeft_eq]
      have h4 : (2 : Nat) ^ s ≤ 2 ^ 56 := Nat.pow_le_pow_right (by omega) hs
      have h5 : x * 2 ^ s ≤ 255 * 2 ^ 56 := Nat.mul_le_mul (by omega) h4
      have : 255 * 2 ^ 56 < 2 ^ 64 := by decide
      omega
    show wordN _ _ _ _ _ _ _ _ < 2 ^ 64
    unfold wordN
    have z : a0.toNat < 2 ^ 64 := by have := a0.toNat_lt; omega
    exact Nat.or_lt_two_pow (Nat.or_lt_two_pow (Nat.or_lt_two_pow (Nat.or_lt_two_pow (Nat.or_lt_two_pow (Nat.or_lt_two_pow (Nat.or_lt_two_pow z (sl _ _ a1.toNat_lt (by omega))) (sl _ _ a2.toNat_lt (by omega))) (sl _ _ a3.toNat_lt (by omega))) (sl _ _ a4.toNat_lt (by omega))) (sl _ _ a5.toNat_lt (by omega))) (sl _ _ a6.toNat_lt (by omega))) (sl _ _ a7.toNat_lt (by omega))
  · obtain ⟨h0, h1, h2, h3, h4, h5, h6, h7⟩ := word_hi a0.toNat_lt a1.toNat_lt a2.toNat_lt a3.toNat_lt a4.toNat_lt a5.toNat_lt a6.toNat_lt a7.toNat_lt hw
    intro x hx
    simp at hx
    rcases hx with rfl | rfl | rfl | rfl | rfl | rfl | rfl | rfl <;> assumption
theorem drop8 {l : List UInt8} {n : Nat} (h1 : ∀ x ∈ l.take n, x.toNat < 128) {m : Nat} (h2 : ∀ x ∈ (l.drop n).take m, x.toNat < 128) : ∀ x ∈ l.take (n + m), x.toNat < 128 := by
  intro x hx
  rw [List.take_add] at hx
  rcases List.mem_append.1 hx with hx | hx
  · exact h1 x hx
  · exact h2 x hx
end Go.Proofs.YtieieknhhfallaaDoor.AM

/- utf8.Valid. -/
namespace Go.Proofs.YtieieknhhfallaaDoor.AM
open Go.RowKit
set_option maxRecDepth 100000
set_option linter.unusedVariables false
set_option linter.unusedSimpArgs false

def ViJ (l0 : List UInt8) (bd : Nat) (c : Option Nat) (σ1 : St) (mm : Nat) (rg : Regs) (σ' : St) : Prop := ∃ (l : List UInt8) (v : AVal), mm = l.length ∧ vld l = vld l0 ∧ l.length ≤ bd ∧ RdB σ' v l c ∧ σ' = σ1 ∧ rg = [(0, v)]
theorem andM {w : Nat} (hw : w < 18446744073709551616) (hlt : hiM < 18446744073709551616) : ∃ z, w &&& hiM = z ∧ abits .and .u64 (w : Int) 9259542123273814144 = some (.int .u64 (z : Int)) := ⟨_, rfl, and64 hw hlt⟩
theorem hi_lt : hiM < 18446744073709551616 := by decide
set_option maxHeartbeats 4000000 in
theorem valid_c {σ : St} {v0 : AVal} {l0 : List UInt8} {c : Option Nat} (h0 : RdB σ v0 l0 c) (hl0 : l0.length ≤ 4611686018427387904) (Q : AVal → St → Prop) (hQ : Q (.bool (vld l0)) σ) : ACall Tryd.prog 42 [v0] σ Q := by
  refine ACall.scrub ?_
  refine ACall.of_compF hmx (fun a w => Tryd.call42 a w) Tryd.func42 cf42 (n := 1) (by decide) rfl ?_
  have hlen0 := h0.len
  obtain ⟨v1, f1, r1⟩ := h0.full
  simp [ac42, rs42, lk_cons, ↓hlen0, optM, ↓f1]
  refine wp_loop (VaJ l0 c σ) l0.length ?_ ?_
  · exact ⟨l0, v1, rfl, rfl, Nat.le_refl _, r1, Grow.refl _, rfl⟩
  · rintro mm rg σ1 ⟨l, v, rfl, hv, hl, r, g, rfl⟩
    have hlen := r.len
    cases l with
    | nil =>
      rw [vld_nil] at hv
      rw [← hv] at hQ
      simp [lk_cons, ↓hlen]
      exact ⟨g.2, hQ⟩
    | cons x l1 =>
      obtain ⟨p0, i0, d0⟩ := r.at (i := 0) (x := x) rfl (z := 0) rfl
      have d0 := d0 σ1 (fun _ _ => rfl)
      have hpos : (0 : Int) < ((x :: l1).length : Int) := by simp only [List.length_cons]; omega
      have hxlt := x.toNat_lt
      simp only [List.length_cons] at hl
      by_cases hx : x.toNat < 128
      · rw [vld_asc hx] at hv
        obtain ⟨v2, s2, r2⟩ := r.cut (n := 1) (by simp) .i64 (z := 1) rfl
        have s2 := s2 σ1 (fun _ _ => rfl)
        simp only [List.drop_succ_cons, List.drop_zero] at r2
        have hlen2 := r2.len
        have hx' : (x.toNat : Int) < 128 := by omega
        have fin : ∀ (l' : List UInt8) (v' : AVal), vld l' = vld l0 → l'.length ≤ l1.length → RdB σ1 v' l' c → ∃ m', m' < (x :: l1).length ∧ VaJ l0 c σ m' [(0, v')] σ1 := fun l' v' h1 h2 h3 => ⟨l'.length, by simp; omega, l', v', rfl, h1, by omega, h3, g, rfl⟩
        by_cases h8 : 8 < l1.length
        · have h8' : (8 : Int) < l1.length := by omega
          obtain ⟨w, hw1, hw2, hw3⟩ := wordl_c r2 h8
          obtain ⟨z, hz, ha⟩ := andM hw1 hi_lt
          simp [lk_cons, ↓hlen, hpos, ↓i0, ↓d0, hx, hx', optM, ↓s2, ↓hlen2, h8, h8']
          refine hw3 _ ?_
          by_cases hz0 : z = 0
          · have a8 := hw2 (hz.trans hz0)
            have v8 : vld (l1.drop 8) = vld l0 := by rw [← vld_skip 8 l1 a8]; exact hv
            obtain ⟨v3, s3, r3⟩ := r2.cut (n := 8) (by omega) .i64 (z := 8) rfl
            have s3 := s3 σ1 (fun _ _ => rfl)
            have hlen3 := r3.len
            have hdl : (l1.drop 8).length = l1.length - 8 := List.length_drop
            revert r3 hlen3 v8 hdl
            generalize l1.drop 8 = l2
            intro v8 r3 hlen3 hdl
            by_cases h16 : 16 < l2.length
            · have h16' : (16 : Int) < l2.length := by omega
              obtain ⟨wa, wa1, wa2, wa3⟩ := wordl_c r3 (by omega)
              obtain ⟨v4, s4, r4⟩ := r3.cut (n := 8) (by omega) .i64 (z := 8) rfl
              have s4 := s4 σ1 (fun _ _ => rfl)
              have hd8 : (l2.drop 8).length = l2.length - 8 := List.length_drop
              obtain ⟨wb, wb1, wb2, wb3⟩ := wordl_c r4 (by omega)
              have ho := or64 wa1 wb1
              have hol : wa ||| wb < 18446744073709551616 := Nat.or_lt_two_pow (n := 64) wa1 wb1
              obtain ⟨y, hy⟩ : ∃ y, wa ||| wb = y := ⟨_, rfl⟩
              rw [hy] at ho hol
              obtain ⟨z', hz', ha'⟩ := andM hol hi_lt
              simp [lk_cons, ha, hz0, optM, ↓s3, ↓hlen3, h16, h16', ↓s4]
              refine wa3 _ ?_
              simp [lk_cons, ↓s4]
              refine wb3 _ ?_
              by_cases hz1 : z' = 0
              · have hor : (wa ||| wb) &&& hiM = 0 := by rw [hy]; exact hz'.trans hz1
                obtain ⟨ka, kb⟩ := hi_or hor
                have a16 := drop8 (wa2 ka) (wb2 kb)
                have v16 : vld (l2.drop 16) = vld l0 := by rw [← vld_skip 16 l2 a16]; exact v8
                obtain ⟨v5, s5, r5⟩ := r3.cut (n := 16) (by omega) .i64 (z := 16) rfl
                have s5 := s5 σ1 (fun _ _ => rfl)
                have hd16 : (l2.drop 16).length = l2.length - 16 := List.length_drop
                simp [lk_cons, ho, ha', hz1, optM, ↓s5]
                refine wp_loop (ViJ l0 l1.length c σ1) (l2.drop 16).length ?_ ?_
                · exact ⟨_, v5, rfl, v16, by omega, r5, rfl, by simp [lk_cons]⟩
                · rintro mm rg σ2 ⟨l3, v6, rfl, v3e, l3l, r6, rfl, rfl⟩
                  have hlen6 := r6.len
                  by_cases h32 : 32 < l3.length
                  · have h32' : (32 : Int) < l3.length := by omega
                    obtain ⟨x1, x11, x12, x13⟩ := wordl_c r6 (by omega)
                    obtain ⟨u8, t8, q8⟩ := r6.cut (n := 8) (by omega) .i64 (z := 8) rfl
                    obtain ⟨u16, t16, q16⟩ := r6.cut (n := 16) (by omega) .i64 (z := 16) rfl
                    obtain ⟨u24, t24, q24⟩ := r6.cut (n := 24) (by omega) .i64 (z := 24) rfl
                    obtain ⟨u32, t32, q32⟩ := r6.cut (n := 32) (by omega) .i64 (z := 32) rfl
                    have t8 := t8 σ2 (fun _ _ => rfl)
                    have t16 := t16 σ2 (fun _ _ => rfl)
                    have t24 := t24 σ2 (fun _ _ => rfl)
                    have t32 := t32 σ2 (fun _ _ => rfl)
                    obtain ⟨x2, x21, x22, x23⟩ := wordl_c q8 (by rw [List.length_drop]; omega)
                    obtain ⟨x3, x31, x32, x33⟩ := wordl_c q16 (by rw [List.length_drop]; omega)
                    obtain ⟨x4, x41, x42, x43⟩ := wordl_c q24 (by rw [List.length_drop]; omega)
                    have ho1 := or64 x11 x21
                    have hol1 : x1 ||| x2 < 18446744073709551616 := Nat.or_lt_two_pow (n := 64) x11 x21
                    have ho2 := or64 x31 x41
                    have hol2 : x3 ||| x4 < 18446744073709551616 := Nat.or_lt_two_pow (n := 64) x31 x41
                    have ho3 := or64 hol1 hol2
                    have hol3 : (x1 ||| x2) ||| (x3 ||| x4) < 18446744073709551616 := Nat.or_lt_two_pow (n := 64) hol1 hol2
                    obtain ⟨z2, hz2, ha2⟩ := andM hol3 hi_lt
                    have asc : z2 = 0 → ∀ x ∈ l3.take 32, x.toNat < 128 := fun e => by
                      obtain ⟨k12, k34⟩ := hi_or (hz2.trans e)
                      obtain ⟨k1, k2⟩ := hi_or k12
                      obtain ⟨k3, k4⟩ := hi_or k34
                      exact drop8 (n := 24) (drop8 (n := 16) (drop8 (x12 k1) (x22 k2)) (x32 k3)) (x42 k4)
                    clear hz2
                    generalize (x1 ||| x2) ||| (x3 ||| x4) = y3 at *
                    generalize x1 ||| x2 = y1 at *
                    generalize x3 ||| x4 = y2 at *
                    simp [lk_cons, ↓hlen6, h32, h32', optM, ↓t8, ↓t16, ↓t24]
                    refine x13 _ ?_
                    simp [lk_cons, ↓t8, ↓t16, ↓t24]
                    refine x23 _ ?_
                    simp [lk_cons, ↓t16, ↓t24, ho1]
                    refine x33 _ ?_
                    simp [lk_cons, ↓t24]
                    refine x43 _ ?_
                    by_cases hz3 : z2 = 0
                    · have e32 : vld (l3.drop 32) = vld l0 := by rw [← vld_skip 32 l3 (asc hz3)]; exact v3e
                      have hd32 : (l3.drop 32).length = l3.length - 32 := List.length_drop
                      simp [lk_cons, ho2, ho3, ha2, hz3, optM, ↓t32]
                      exact ⟨_, by omega, l3.drop 32, u32, hd32.symm, e32, by omega, q32, rfl, rfl⟩
                    · have hz3' : ¬ (z2 : Int) = 0 := by omega
                      simp [lk_cons, ho2, ho3, ha2, hz3, hz3']
                      have := fin l3 v6 v3e (by omega) r6
                      simpa using this
                  · have h32' : ¬ (32 : Int) < l3.length := by omega
                    simp [lk_cons, ↓hlen6, h32, h32']
                    have := fin l3 v6 v3e (by omega) r6
                    simpa using this
              · have hz1' : ¬ (z' : Int) = 0 := by omega
                simp [lk_cons, ho, ha', hz1, hz1']
                have := fin l2 v3 v8 (by omega) r3
                simpa using this
            · have h16' : ¬ (16 : Int) < l2.length := by omega
              simp [lk_cons, ha, hz0, optM, ↓s3, ↓hlen3, h16, h16']
              have := fin l2 v3 v8 (by omega) r3
              simpa using this
          · have hz0' : ¬ (z : Int) = 0 := by omega
            simp [lk_cons, ha, hz0, hz0']
            have := fin l1 v2 hv (Nat.le_refl _) r2
            simpa using this
        · have h8' : ¬ (8 : Int) < l1.length := by omega
          simp [lk_cons, ↓hlen, hpos, ↓i0, ↓d0, hx, hx', optM, ↓s2, ↓hlen2, h8, h8']
          have := fin l1 v2 hv (Nat.le_refl _) r2
          simpa using this
      · obtain ⟨f, n, k, lo, hi, e1, e2, e3, e4, e5, e6, e7⟩ := cls_at hxlt
        have vx := vld.eq_def (x :: l1)
        simp only [if_neg hx, e7] at vx
        have hx' : ¬ (x.toNat : Int) < 128 := by omega
        have hx2 : (x.toNat : Int) < 256 := by omega
        have wn : IntKind.i64.wrap (n : Int) = n := by rw [IntWalk.i64_in] <;> omega
        have hk16 : (k : Int) < 16 := by omega
        have g2 : Grow σ ⟨(σ1.mem.set σ1.next (.cells 2 [.int .u8 0, .int .u8 0])).set σ1.next (.cells 2 [.int .u8 (lo : Int), .int .u8 (hi : Int)]), σ1.next + 1⟩ := ⟨by have := g.1; simp; omega, fun a ha => by have := g.1; simp [show ¬ a = σ1.next by omega]; exact g.2 a ha⟩
        have rS : RdB ⟨(σ1.mem.set σ1.next (.cells 2 [.int .u8 0, .int .u8 0])).set σ1.next (.cells 2 [.int .u8 (lo : Int), .int .u8 (hi : Int)]), σ1.next + 1⟩ v (x :: l1) c := r.keep (by simp) fun a ha _ => by simp [show ¬ a = σ1.next by omega]
        obtain ⟨S, hS⟩ : ∃ S : St, S = ⟨(σ1.mem.set σ1.next (.cells 2 [.int .u8 0, .int .u8 0])).set σ1.next (.cells 2 [.int .u8 (lo : Int), .int .u8 (hi : Int)]), σ1.next + 1⟩ := ⟨_, rfl⟩
        have mS : S.mem.get σ1.next = some (.cells 2 [.int .u8 (lo : Int), .int .u8 (hi : Int)]) := by rw [hS]; simp
        rw [← hS] at g2 rS
        have bad : vld l0 = false → ∀ a, a < σ.next → S.mem.get a = σ.mem.get a := fun _ => g2.2
        have fin : ∀ (m : Nat) (v' : AVal), 1 ≤ m → m ≤ l1.length + 1 → vld ((x :: l1).drop m) = vld l0 → RdB S v' ((x :: l1).drop m) c → ∃ m', m' < l1.length + 1 ∧ VaJ l0 c σ m' [(0, v')] S := fun m v' h1 h1' h2 h3 => ⟨((x :: l1).drop m).length, by rw [List.length_drop, List.length_cons]; omega, _, v', rfl, h2, by rw [List.length_drop, List.length_cons]; omega, h3, g2, rfl⟩
        have byte : ∀ (i : Nat) (z : Int), z = (i : Int) → ∀ b, (x :: l1)[i]? = some b → ∃ p, (∀ ρ, evalV ρ (.idxAddr 1 v (.int .i64 z)) = some (p, ρ)) ∧ evalV S (.ld1 p) = some (.int .u8 (b.toNat : Int), S) := fun i z hz b hb => by
          obtain ⟨p, h1, h2⟩ := rS.at hb hz
          exact ⟨p, h1, h2 S fun _ _ => rfl⟩
        obtain ⟨N, hN⟩ : ∃ N, (x :: l1).length = N := ⟨_, rfl⟩
        have hN1 : l1.length + 1 = N := hN
        simp only [hN] at hlen
        have hposN : (0 : Int) < (N : Int) := by omega
        have hposN' : 0 < N := by omega
        have no : vld l0 = false → (∀ a, a < σ.next → S.mem.get a = σ.mem.get a) ∧ Q (.bool false) σ := fun h => ⟨g2.2, by rw [h] at hQ; exact hQ⟩
        rw [hN1] at fin
        have hm : (x :: l1).length = N := hN
        simp [lk_cons, ↓hlen, hposN, hposN', ↓i0, ↓d0, hx, hx', hx2, e1, e2, e3, e5, wn, hk16, e4, storeL]
        rw [← hS]
        by_cases hn2 : n = 2
        · subst hn2
          rcases l1 with _ | ⟨a, l2⟩
          · simp at vx hm
            subst hm
            simp [lk_cons, ↓hlen]
            exact no (hv.symm.trans vx)
          · simp only [if_true] at vx
            have hN2 : ¬ N < 2 := by simp at hm; omega
            have hN2' : ¬ (N : Int) < 2 := by omega
            obtain ⟨p1, i1, d1⟩ := byte 1 1 rfl a rfl
            obtain ⟨v2, s2, r2⟩ := rS.cut (n := 2) (by simp) .i64 (z := 2) rfl
            have s2 := s2 S (fun _ _ => rfl)
            by_cases c1 : a.toNat < lo
            · have c1' : (a.toNat : Int) < lo := by omega
              simp [lk_cons, ↓hlen, hN2, hN2', ↓i1, ↓d1, mS, c1, c1']
              exact no (hv.symm.trans (by rw [vx]; simp [okB, Nat.not_le.2 c1]))
            have c1' : ¬ (a.toNat : Int) < lo := by omega
            by_cases c2 : hi < a.toNat
            · have c2' : (hi : Int) < a.toNat := by omega
              simp [lk_cons, ↓hlen, hN2, hN2', ↓i1, ↓d1, mS, c1, c1', c2, c2']
              exact no (hv.symm.trans (by rw [vx]; simp [okB, Nat.not_le.2 c2]))
            have c2' : ¬ (hi : Int) < a.toNat := by omega
            simp [lk_cons, ↓hlen, hN2, hN2', ↓i1, ↓d1, mS, c1, c1', c2, c2', optM, ↓s2]
            obtain ⟨m', q1, q2⟩ := fin 2 v2 (by omega) (by omega) (by rw [← hv, vx]; simp [okB, Nat.not_lt.1 c1, Nat.not_lt.1 c2]) r2
            exact ⟨m', by first | omega | (simp only [List.length_cons] at hm; omega) | (simp only [List.length_cons] at hm ⊢; omega), q2⟩
        by_cases hn3 : n = 3
        · subst hn3
          rcases l1 with _ | ⟨a, _ | ⟨b, l2⟩⟩
          · simp at vx hm
            subst hm
            simp [lk_cons, ↓hlen]
            exact no (hv.symm.trans vx)
          · simp at vx hm
            subst hm
            simp [lk_cons, ↓hlen]
            exact no (hv.symm.trans vx)
          · simp only [if_true] at vx
            simp at vx
            have hN2 : ¬ N < 3 := by simp at hm; omega
            have hN2' : ¬ (N : Int) < 3 := by omega
            obtain ⟨p1, i1, d1⟩ := byte 1 1 rfl a rfl
            obtain ⟨p2, i2, d2⟩ := byte 2 2 rfl b rfl
            obtain ⟨v2, s2, r2⟩ := rS.cut (n := 3) (by simp) .i64 (z := 3) rfl
            have s2 := s2 S (fun _ _ => rfl)
            by_cases c1 : a.toNat < lo
            · have c1' : (a.toNat : Int) < lo := by omega
              simp [lk_cons, ↓hlen, hN2, hN2', ↓i1, ↓d1, mS, c1, c1']
              exact no (hv.symm.trans (by rw [vx]; simp [okB, Nat.not_le.2 c1]))
            have c1' : ¬ (a.toNat : Int) < lo := by omega
            by_cases c2 : hi < a.toNat
            · have c2' : (hi : Int) < a.toNat := by omega
              simp [lk_cons, ↓hlen, hN2, hN2', ↓i1, ↓d1, mS, c1, c1', c2, c2']
              exact no (hv.symm.trans (by rw [vx]; simp [okB, Nat.not_le.2 c2]))
            have c2' : ¬ (hi : Int) < a.toNat := by omega
            by_cases c3 : b.toNat < 128
            · have c3' : (b.toNat : Int) < 128 := by omega
              simp [lk_cons, ↓hlen, hN2, hN2', ↓i1, ↓d1, mS, c1, c1', c2, c2', ↓i2, ↓d2, c3, c3']
              exact no (hv.symm.trans (by rw [vx]; simp [okB, Nat.not_le.2 c3]))
            have c3' : ¬ (b.toNat : Int) < 128 := by omega
            by_cases c4 : 191 < b.toNat
            · have c4' : (191 : Int) < b.toNat := by omega
              simp [lk_cons, ↓hlen, hN2, hN2', ↓i1, ↓d1, mS, c1, c1', c2, c2', ↓i2, ↓d2, c3, c3', c4, c4']
              exact no (hv.symm.trans (by rw [vx]; simp [okB, Nat.not_le.2 c4]))
            have c4' : ¬ (191 : Int) < b.toNat := by omega
            simp [lk_cons, ↓hlen, hN2, hN2', ↓i1, ↓d1, mS, c1, c1', c2, c2', ↓i2, ↓d2, c3, c3', c4, c4', optM, ↓s2]
            obtain ⟨m', q1, q2⟩ := fin 3 v2 (by omega) (by omega) (by rw [← hv, vx]; simp [okB, Nat.not_lt.1 c1, Nat.not_lt.1 c2, Nat.not_lt.1 c3, Nat.not_lt.1 c4]) r2
            exact ⟨m', by first | omega | (simp only [List.length_cons] at hm; omega) | (simp only [List.length_cons] at hm ⊢; omega), q2⟩
        by_cases hn4 : n = 4
        · subst hn4
          rcases l1 with _ | ⟨a, _ | ⟨b, _ | ⟨d, l2⟩⟩⟩
          · simp at vx hm
            subst hm
            simp [lk_cons, ↓hlen]
            exact no (hv.symm.trans vx)
          · simp at vx hm
            subst hm
            simp [lk_cons, ↓hlen]
            exact no (hv.symm.trans vx)
          · simp at vx hm
            subst hm
            simp [lk_cons, ↓hlen]
            exact no (hv.symm.trans vx)
          · simp at vx
            have hN2 : ¬ N < 4 := by simp at hm; omega
            have hN2' : ¬ (N : Int) < 4 := by omega
            obtain ⟨p1, i1, d1⟩ := byte 1 1 rfl a rfl
            obtain ⟨p2, i2, d2⟩ := byte 2 2 rfl b rfl
            obtain ⟨p3, i3, d3⟩ := byte 3 3 rfl d rfl
            obtain ⟨v2, s2, r2⟩ := rS.cut (n := 4) (by simp) .i64 (z := 4) rfl
            have s2 := s2 S (fun _ _ => rfl)
            by_cases c1 : a.toNat < lo
            · have c1' : (a.toNat : Int) < lo := by omega
              simp [lk_cons, ↓hlen, hN2, hN2', ↓i1, ↓d1, mS, c1, c1']
              exact no (hv.symm.trans (by rw [vx]; simp [okB, Nat.not_le.2 c1]))
            have c1' : ¬ (a.toNat : Int) < lo := by omega
            by_cases c2 : hi < a.toNat
            · have c2' : (hi : Int) < a.toNat := by omega
              simp [lk_cons, ↓hlen, hN2, hN2', ↓i1, ↓d1, mS, c1, c1', c2, c2']
              exact no (hv.symm.trans (by rw [vx]; simp [okB, Nat.not_le.2 c2]))
            have c2' : ¬ (hi : Int) < a.toNat := by omega
            by_cases c3 : b.toNat < 128
            · have c3' : (b.toNat : Int) < 128 := by omega
              simp [lk_cons, ↓hlen, hN2, hN2', ↓i1, ↓d1, mS, c1, c1', c2, c2', ↓i2, ↓d2, c3, c3']
              exact no (hv.symm.trans (by rw [vx]; simp [okB, Nat.not_le.2 c3]))
            have c3' : ¬ (b.toNat : Int) < 128 := by omega
            by_cases c4 : 191 < b.toNat
            · have c4' : (191 : Int) < b.toNat := by omega
              simp [lk_cons, ↓hlen, hN2, hN2', ↓i1, ↓d1, mS, c1, c1', c2, c2', ↓i2, ↓d2, c3, c3', c4, c4']
              exact no (hv.symm.trans (by rw [vx]; simp [okB, Nat.not_le.2 c4]))
            have c4' : ¬ (191 : Int) < b.toNat := by omega
            by_cases c5 : d.toNat < 128
            · have c5' : (d.toNat : Int) < 128 := by omega
              simp [lk_cons, ↓hlen, hN2, hN2', ↓i1, ↓d1, mS, c1, c1', c2, c2', ↓i2, ↓d2, c3, c3', c4, c4', ↓i3, ↓d3, c5, c5']
              exact no (hv.symm.trans (by rw [vx]; simp [okB, Nat.not_le.2 c5]))
            have c5' : ¬ (d.toNat : Int) < 128 := by omega
            by_cases c6 : 191 < d.toNat
            · have c6' : (191 : Int) < d.toNat := by omega
              simp [lk_cons, ↓hlen, hN2, hN2', ↓i1, ↓d1, mS, c1, c1', c2, c2', ↓i2, ↓d2, c3, c3', c4, c4', ↓i3, ↓d3, c5, c5', c6, c6']
              exact no (hv.symm.trans (by rw [vx]; simp [okB, Nat.not_le.2 c6]))
            have c6' : ¬ (191 : Int) < d.toNat := by omega
            simp [lk_cons, ↓hlen, hN2, hN2', ↓i1, ↓d1, mS, c1, c1', c2, c2', ↓i2, ↓d2, c3, c3', c4, c4', ↓i3, ↓d3, c5, c5', c6, c6', optM, ↓s2]
            obtain ⟨m', q1, q2⟩ := fin 4 v2 (by omega) (by omega) (by rw [← hv, vx]; simp [okB, Nat.not_lt.1 c1, Nat.not_lt.1 c2, Nat.not_lt.1 c3, Nat.not_lt.1 c4, Nat.not_lt.1 c5, Nat.not_lt.1 c6]) r2
            exact ⟨m', by first | omega | (simp only [List.length_cons] at hm; omega) | (simp only [List.length_cons] at hm ⊢; omega), q2⟩
        · simp only [if_neg hn2, if_neg hn3, if_neg hn4] at vx
          have hn2' : ¬ (n : Int) = 2 := by omega
          have hn3' : ¬ (n : Int) = 3 := by omega
          have hn4' : ¬ (n : Int) = 4 := by omega
          simp [lk_cons, hn2, hn2', hn3, hn3', hn4, hn4']
          exact no (hv.symm.trans vx)
end Go.Proofs.YtieieknhhfallaaDoor.AM

/- What pack.Read puts off. -/
namespace Go.Proofs.YtieieknhhfallaaDoor.AM
open Go.RowKit
set_option linter.unusedVariables false
set_option linter.unusedSimpArgs false
set_option maxRecDepth 100000

theorem catch_idle (p : Addr) (w : World) :
    CallsD Tryd.prog 28 #[.pointer (some p)] .returning w fun e u' w' => e = .returned (.tuple #[]) ∧ u' = .returning ∧ w' = w := by
  refine callsD_of_wpS Tryd.func28 rfl fun c₀ cs hu => ?_
  apply wpS_seq
  apply wpS_region
  simp [wpOpsS, go_sem, recoverD, hu, Exit.thenS]
  have hnil : ∀ w : World, (binOp BinOp.eql 20 .nilIface .nilIface).run Tryd.prog w = .ok (.bool true) w := fun _ => by kernel_rfl
  refine wpS_of_wp ?_
  go_wp2
  cases c₀
  simp_all [bodyPostS, results, Tryd.f28]

set_option maxHeartbeats 8000000 in
theorem catch_thrown (p : Addr) (c : Int) (x : Value) (w : World) (hc : (w.alloc (.cells #[.int .i64 c] 74)).cell? p = some x) (hz : (w.alloc (.cells #[.int .i64 c] 74)).frozen? p = false) :
    CallsD Tryd.prog 28 #[.pointer (some p)] (.panicking [{ v := .iface 74 (.agg #[.int .i64 c]), recovered := false }]) w fun e u' w' => e = .returned (.tuple #[]) ∧ u' = .panicking [{ v := .iface 74 (.agg #[.int .i64 c]), recovered := true }] ∧ w' = (w.alloc (.cells #[.int .i64 c] 74)).setCell p (.int .i64 c) := by
  refine callsD_of_wpS Tryd.func28 rfl fun c₀ cs hu => ?_
  apply wpS_seq
  apply wpS_region
  simp [wpOpsS, go_sem, recoverD, hu, Exit.thenS]
  have hnil : ∀ w : World, (binOp BinOp.eql 20 (.iface 74 (.agg #[.int .i64 c])) .nilIface).run Tryd.prog w = .ok (.bool false) w := fun _ => by kernel_rfl
  have hta : ∀ w : World, (Instr.typeAssert (.iface 74 (.agg #[.int .i64 c])) 20 74 true).run Tryd.prog w = .ok (.tuple #[.agg #[.int .i64 c], .bool true]) w := fun _ => by kernel_rfl
  refine wpS_of_wp ?_
  go_wp2
  simp [bodyPostS, results, Tryd.f28]


end Go.Proofs.YtieieknhhfallaaDoor.AM

/- A register that a region does not write stays. -/
namespace Go.Proofs.YtieieknhhfallaaDoor.AM
open Go.RowKit
set_option linter.unusedVariables false
set_option linter.unusedSimpArgs false

theorem put_keep {a : Act} {d : Option Tmp} {v : Value} {t : Nat} (h : d ≠ some t) : (a.put d v).tmps[t]? = a.tmps[t]? := by
  cases d with
  | none => rfl
  | some x =>
    show (a.tmps.setIfInBounds x v)[t]? = _
    rw [Array.getElem?_setIfInBounds_ne (fun e => h (by rw [e]))]

theorem wpList_keep {P : Program} {ops : Array Oper} {E : Exit → Act → World → Prop} {t : Nat} {x : Option Value} : ∀ (l : List Oper) (a : Act) (w : World), wpList P ops E l a w → (∀ o ∈ l, o.dst ≠ some t) → a.tmps[t]? = x →
    wpList P ops (fun e a' w' => E e a' w' ∧ (e = .outgrown ∨ a'.tmps[t]? = x)) l a w := by
  intro l
  induction l with
  | nil => intro a w h _ hx; exact ⟨h, .inr hx⟩
  | cons o l ih =>
    intro a w h hk hx
    have hko := hk o (by simp)
    have hkl : ∀ o ∈ l, o.dst ≠ some t := fun o ho => hk o (by simp [ho])
    have go : ∀ v w', wpList P ops E l (a.put o.dst v) w' → wpList P ops (fun e a' w' => E e a' w' ∧ (e = .outgrown ∨ a'.tmps[t]? = x)) l (a.put o.dst v) w' :=
      fun v w' h => ih _ _ h hkl ((put_keep hko).trans hx)
    simp only [wpList] at h ⊢
    split at h
    · rename_i hw
      rw [if_pos hw]
      rcases h with h | ⟨h1, b, c, h2⟩
      · left
        revert h
        unfold Oper.wp
        generalize (execOp a.eval o).run P w = R
        intro h
        cases R with
        | ok s w1 =>
          cases s with
          | value v => exact go _ _ h
          | skip => exact go _ _ h
          | defer d => exact ih _ _ h hkl ((put_keep (a := { a with defers := d :: a.defers }) hko).trans hx)
          | enter f args =>
            rw [Oper.upon_enter] at h ⊢
            refine h.mono fun e w' he => ?_
            cases e with
            | returned v => exact go _ _ he
            | panicked c => exact ⟨he, .inr hx⟩
            | outgrown => obtain ⟨b, c, he⟩ := he; exact ⟨b, c, he, .inl rfl⟩
          | row r args =>
            rw [Oper.upon_row] at h ⊢
            exact Rows.mono h fun v w' he => go _ _ he
          | _ => exact h
        | halt s w1 =>
          cases s with
          | panic v => exact ⟨h, .inr hx⟩
          | _ => exact h
      · exact .inr ⟨h1, b, c, h2, .inl rfl⟩
    · rename_i hw
      rw [if_neg hw]
      exact go _ _ h


theorem seq3_sound {P : Program} {T : AVal → St → Prop} {B : Nat} {w0 : Root} (hmx : P.follows .mixedOrders = true) {nt : Nat} {h : Hints} {x z : Code} {id : Nat} {ops : Array Oper} {ax az : ACode} {l' : List AOper} {keep : List Nat} {t b : Nat}
    (hcx : comp P nt h x = some ax) (hcl : listM (compOper P nt ops.toList) ops.toList = some l') (hcz : comp P nt h z = some az) (hk : ∀ o ∈ ops.toList, o.dst ≠ some t) (nx : ax.noR = true) (nz : az.noR = true) {Q : Post} {r : Regs} {σ : St} {ρ : Rho} {I : Imm} {a : Act} {w : World}
    (hx : ax.wp (Env.of P) (fun e r s => e = .normal ∧ r.lookup t = some (.ptr b 0) ∧ rwp (Env.th P T) l' r s (fun r s => az.wp (Env.of P) Q (norm keep r) s)) r σ)
    (hr : RegsRel ρ I r a.tmps) (rl : Rel B w0 ρ I σ w) (hd : a.defers = w0.ds) (hs : a.tmps.size = nt) (hb : b < σ.next) :
    (Code.seq x (.seq (.region id ops false) z)).wp P (fun e a2 w2 => LiftP0 nt B w0 ρ I σ T Q e a2 w2 ∧ ((∃ c, e = .panic c) → ∃ cv, a2.tmps[t]? = some cv ∧ VRel ρ I (.ptr b 0) cv)) a w := by
  refine Go.wp_seq (Code.wp_mono ?_ (code_sound (P := Env.of P) hmx x ax hcx _ r σ ρ I a w nx hx hr rl (YOk.of _ _ _ _ _) hd hs))
  intro e a1 w1 hl
  cases e with
  | normal =>
    obtain ⟨r1, σ1, ρ1, I1, g1, g2, g3, g4, g5, _, g6, g7⟩ := hl
    obtain ⟨cv, hp, hv⟩ := g4 t _ g6
    have hv0 : VRel ρ I (.ptr b 0) cv := by
      simp only [VRel] at hv ⊢
      rw [g5.1 b hb] at hv
      exact hv
    let E0 : Exit → Act → World → Prop := fun e a2 w2 => match e with
      | .normal => Lift nt B w0 ρ1 I1 σ1 (fun r s => az.wp (Env.of P) Q (norm keep r) s) a2 w2
      | .panic c => a2.defers = w0.ds ∧ LiftT B w0 ρ1 I1 σ1 T c w2
      | _ => False
    have h2 : wpList P ops E0 ops.toList a1 w1 := rwp_sound (P := (Env.th P T)) (fun _ _ _ _ h => h) ops.toList l' r1 σ1 ρ1 I1 a1 w1 _ hcl g7 g4 g3 g1 g2 (fun a w h => h) (fun c a w hd h => ⟨hd, h⟩)
    have h3 := wpList_keep ops.toList a1 w1 h2 hk hp
    have h4 := Go.wp_region_list (id := id) h3
    refine Go.wp_seq (Code.wp_mono ?_ h4)
    intro e a2 w2 hl
    obtain ⟨hl, hkp⟩ := hl
    cases e with
    | normal =>
      obtain ⟨r2, σ2, ρ2, I2, k1, k2, k3, k4, k5, k6⟩ := hl
      show Code.wp P z _ a2 w2
      refine Code.wp_mono ?_ (code_sound (P := Env.of P) hmx z az hcz Q (norm keep r2) σ2 ρ2 I2 a2 w2 nz k6 (k4.norm keep) k3 (YOk.of _ _ _ _ _) k1 k2)
      intro e a3 w3 hl
      have hex := g5.trans k5
      cases e with
      | normal => exact ⟨Lift.ext hex hl, fun ⟨_, h⟩ => by cases h⟩
      | ret => exact ⟨Lift.ext hex hl, fun ⟨_, h⟩ => by cases h⟩
      | exit id => exact ⟨Lift.ext hex hl, fun ⟨_, h⟩ => by cases h⟩
      | goto l => exact (hl : False).elim
      | panic c => exact hl.2.no.elim
      | outgrown => exact (hl : False).elim
    | panic c =>
      refine ⟨⟨hl.1, hl.2.ext g5⟩, fun _ => ⟨cv, ?_, hv0⟩⟩
      rcases hkp with h | h
      · cases h
      · exact h
    | ret => exact (hl : False).elim
    | exit id => exact (hl : False).elim
    | goto l => exact (hl : False).elim
    | outgrown => exact (hl : False).elim
  | ret => obtain ⟨_, _, _, _, _, _, _, _, _, g, _⟩ := hl; cases g
  | exit id => obtain ⟨_, _, _, _, _, _, _, _, _, g, _⟩ := hl; cases g
  | goto l => exact (hl : False).elim
  | panic c => exact hl.2.no.elim
  | outgrown => exact (hl : False).elim

end Go.Proofs.YtieieknhhfallaaDoor.AM

/- pack.Read's body in three. -/
namespace Go.Proofs.YtieieknhhfallaaDoor.AM
open Go.RowKit
set_option linter.unusedVariables false
set_option linter.unusedSimpArgs false
set_option maxRecDepth 100000

def cOf : ACode → ACode
  | .seq _ (.seq _ c) => c
  | _ => .skip
def bodyC : Option Code → Code
  | some (.seq _ (.seq _ c)) => c
  | _ => .skip
def bX : Code → Code
  | .seq x _ => x
  | _ => .skip
def bZ : Code → Code
  | .seq _ (.seq _ z) => z
  | _ => .skip
def bR : Code → Array Oper
  | .seq _ (.seq (.region _ ops _) _) => ops
  | _ => #[]
def aX : ACode → ACode
  | .seq x _ => x
  | _ => .skip
def aZ : ACode → ACode
  | .seq _ (.seq _ z) => z
  | _ => .skip
def aR : ACode → List AOper
  | .seq _ (.seq (.reg _ ops) _) => ops
  | _ => []
theorem bodyC_eq : ∃ id, bodyC Tryd.f17.body = .seq (bX (bodyC Tryd.f17.body)) (.seq (.region id (bR (bodyC Tryd.f17.body)) false) (bZ (bodyC Tryd.f17.body))) := ⟨_, rfl⟩
theorem compX61 : comp Tryd.prog 19 h17 (bX (bodyC Tryd.f17.body)) = some (aX (cOf ac17)) := by kernel_rfl
theorem compZ61 : comp Tryd.prog 19 h17 (bZ (bodyC Tryd.f17.body)) = some (aZ (cOf ac17)) := by kernel_rfl
theorem compR61 : listM (compOper Tryd.prog 19 (bR (bodyC Tryd.f17.body)).toList) (bR (bodyC Tryd.f17.body)).toList = some (aR (cOf ac17)) := by kernel_rfl
theorem keepR61 : ∀ o ∈ (bR (bodyC Tryd.f17.body)).toList, o.dst ≠ some 4 := by
  intro o ho
  have : ((bR (bodyC Tryd.f17.body)).toList.all fun o => o.dst != some 4) = true := by kernel_rfl
  have := List.all_eq_true.1 this o ho
  simpa using this

theorem ins_mono {P : Env} : ∀ (i : AIns) (r : Regs) (σ : St) (Q Q' : AVal → St → Prop), i.wp P r σ Q → (∀ v σ, Q v σ → Q' v σ) → i.wp P r σ Q' := by
  intro i r σ Q Q' h hq
  cases i with
  | op o => simp only [AIns.wp] at h ⊢; split at h <;> simp_all
  | pick c a b =>
    simp only [AIns.wp] at h ⊢
    split at h
    · split at h
      · simp_all
      · exact h.elim
    · exact h.elim
  | call f args =>
    simp only [AIns.wp] at h ⊢
    split at h
    · rename_i g xs ys hf
      split at h
      · rename_i vs hvs; exact h.mono hq
      · exact h.elim
    · split at h
      · obtain ⟨K, h1, h2⟩ := h; exact ⟨K, h1, fun v σ hk => hq _ _ (h2 v σ hk)⟩
      · exact h.elim
    · exact h.elim
  | next x =>
    simp only [AIns.wp] at h ⊢
    split at h
    · exact fun p hp => hq _ _ (h p hp)
    · exact h.elim
  | panic x => simp only [AIns.wp] at h ⊢; exact h

theorem rwp_mono {P : Env} : ∀ (ops : List AOper) (r : Regs) (σ : St) (Q Q' : Regs → St → Prop), rwp P ops r σ Q → (∀ v σ, Q v σ → Q' v σ) → rwp P ops r σ Q' := by
  intro ops
  induction ops with
  | nil => intro r σ Q Q' h hq; exact hq _ _ h
  | cons o rest ih =>
    intro r σ Q Q' h hq
    simp only [rwp] at h ⊢
    split at h
    · rename_i hg; exact ins_mono _ _ _ _ _ h fun v σ h => ih _ _ _ _ h hq
    · split at h
      · rename_i hb
        split at h
        · rename_i hbw; simp only [if_pos hbw]; exact ins_mono _ _ _ _ _ h fun v σ h => ih _ _ _ _ h hq
        · rename_i hbw; simp only [if_neg hbw]; exact ih _ _ _ _ h hq
      · exact ih _ _ _ _ h hq
      · exact h.elim

theorem ops_keep {P : Program} {T : AVal → St → Prop} {t : Nat} {v : AVal} : ∀ (l : List AOper) (r : Regs) (σ : St) (Q : Regs → St → Prop), rwp (Env.th P T) l r σ Q → (∀ o ∈ l, ∃ d op, o = ⟨d, .op op, none⟩ ∧ d ≠ some t) → r.lookup t = some v → rwp (Env.of P) l r σ (fun r σ => r.lookup t = some v ∧ Q r σ) := by
  intro l
  induction l with
  | nil => intro r σ Q h _ hv; exact ⟨hv, h⟩
  | cons o l ih =>
    intro r σ Q h hk hv
    obtain ⟨d, op, rfl, hd⟩ := hk o (by simp)
    simp only [rwp, AIns.wp] at h ⊢
    split at h
    · rename_i v' σ' he
      exact ih _ _ _ h (fun o ho => hk o (by simp [ho])) ((lookup_setR_ne hd).trans hv)
    · exact h.elim

theorem quietZ {T : AVal → St → Prop} {Q : Post} {r : Regs} {σ : St} (h : (aZ (cOf ac17)).wp (Env.th Tryd.prog T) Q r σ) : (aZ (cOf ac17)).wp (Env.of Tryd.prog) Q r σ := by
  unfold ac17 cOf aZ at h ⊢
  exact h

theorem body_c {T : AVal → St → Prop} {Q : Post} {bv fv : AVal} {b : Nat} {σ : St} (h : (cOf ac17).wp (Env.th Tryd.prog T) Q [(0, bv), (1, fv), (4, .ptr b 0)] σ) :
    (aX (cOf ac17)).wp (Env.of Tryd.prog) (fun e r s => e = .normal ∧ r.lookup 4 = some (.ptr b 0) ∧ rwp (Env.th Tryd.prog T) (aR (cOf ac17)) r s (fun r s => (aZ (cOf ac17)).wp (Env.of Tryd.prog) Q (norm [4, 5] r) s)) [(0, bv), (1, fv), (4, .ptr b 0)] σ := by
  have hz : ∀ {r σ}, (aZ (cOf ac17)).wp (Env.th Tryd.prog T) Q r σ → (aZ (cOf ac17)).wp (Env.of Tryd.prog) Q r σ := quietZ
  revert h hz
  unfold ac17 cOf aX aR aZ
  intro h hz
  have h1 := ops_keep (t := 4) (v := .ptr b 0) _ _ _ _ h (by simp) rfl
  exact rwp_mono _ _ _ _ _ h1 fun r σ ⟨k1, k2⟩ => ⟨rfl, by simp [norm, k1, List.filterMap_cons]; cases List.lookup 1 r <;> simp [lk_cons], rwp_mono _ _ _ _ _ k2 fun r σ k => hz k⟩
end Go.Proofs.YtieieknhhfallaaDoor.AM

/- pack.Read (its code: cf17, cf28). -/
namespace Go.Proofs.YtieieknhhfallaaDoor.AM
open Go.RowKit
set_option linter.unusedVariables false
set_option linter.unusedSimpArgs false
set_option maxRecDepth 100000

def aOf : ACode → ACode
  | .seq a _ => a
  | _ => .skip
def bodyA : Option Code → Code
  | some (.seq a _) => a
  | _ => .skip
def bodyR : Option Code → Array Oper
  | some (.seq _ (.seq (.region _ ops _) _)) => ops
  | _ => #[]
theorem body61 : Tryd.f17.body = some (.seq (bodyA Tryd.f17.body) (.seq (.region 1 (bodyR Tryd.f17.body) false) (bodyC Tryd.f17.body))) := rfl
theorem compA61 : comp Tryd.prog 19 h17 (bodyA Tryd.f17.body) = some (aOf ac17) := by kernel_rfl
theorem compC61 : comp Tryd.prog 19 h17 (bodyC Tryd.f17.body) = some (cOf ac17) := by kernel_rfl

theorem read_c {σ : St} {bv fv : AVal} (Q : AVal → St → Prop)
    (h : (cOf ac17).wp (Env.th Tryd.prog fun v σ' => ∃ c x, v = .iface 74 (.agg [.int .i64 c]) ∧ σ'.mem.get σ.next = some (.cells 1 [.int .i64 x]) ∧ Q (.int .i64 c) ⟨σ'.mem.set σ.next (.cells 1 [.int .i64 c]), σ'.next⟩)
      (retPost rs17 Q) [(0, bv), (1, fv), (4, .ptr σ.next 0)] ⟨σ.mem.set σ.next (.cells 1 [.int .i64 0]), σ.next + 1⟩) : ACall Tryd.prog 17 [bv, fv] σ Q := by
  refine ACall.ofCalls (fun a w => Tryd.call17 a w) fun B w0 ρ I w cargs rl hsz hargs => ?_
  refine calls_of_wp_defers Tryd.func17 body61 ?_
  refine Go.wp_seq ?_
  have hA := code_sound (P := Env.of Tryd.prog) (w0 := { w0 with ds := [] }) (B := B) hmx (bodyA Tryd.f17.body) (aOf ac17) compA61 (fun e r s => e = .normal ∧ r = [(0, bv), (1, fv), (4, .ptr σ.next 0)] ∧ s = ⟨σ.mem.set σ.next (.cells 1 [.int .i64 0]), σ.next + 1⟩) (argR 0 [bv, fv]) σ ρ I { tmps := cargs ++ Array.replicate (Tryd.f17.ntmps - cargs.size) undef, defers := [] } w rfl (by simp [ac17, aOf, lk_cons, argR]) ?_ (rl.atDs []) (YOk.of _ _ _ _ _) rfl ?_
  · refine Code.wp_mono ?_ hA
    intro e a w1 hl
    cases e with
    | normal =>
      obtain ⟨r, σ1, ρ1, I1, g1, g2, g3, g4, g5, _, rfl, rfl⟩ := hl
      refine Go.wp_seq ?_
      refine Go.wp_region_list ?_
      obtain ⟨cvp, hp, hvp⟩ := g4 4 (.ptr σ.next 0) rfl
      simp only [VRel] at hvp
      have hmf : ∀ (fn : Fn) (first cap : Array Value) (w : World), (Instr.makeFunc fn first cap).run Tryd.prog w = .ok (.func fn first cap) w := fun _ _ _ _ => rfl
      have hev : a.eval (.tmp 4) = cvp := by
        have : a.tmps.getD 4 undef = cvp := by rw [Array.getD_eq_getD_getElem?, hp]; rfl
        exact this
      have hC0 : Code.wp Tryd.prog (bodyC Tryd.f17.body) (bodyPostD Tryd.prog Tryd.f17 fun e w' => ∃ v σ' ρ' I' cv, e = Ending.returned cv ∧ VRel ρ' I' v cv ∧ Rel B w0 ρ' I' σ' w' ∧ Ext ρ I σ ρ' I' σ' ∧ Q v σ')
          { tmps := a.tmps.setIfInBounds 6 (Value.func (Fn.func 28) #[] #[cvp]), defers := ⟨.fn (.func 28) #[cvp], #[]⟩ :: a.defers } w1 := by
        obtain ⟨pl, hpl, rfl⟩ := hvp
        have hinv : ∀ w, (invoke (.fn (.func 28) #[.pointer (some ⟨pl.b, pl.base + 0, none⟩)]) #[]).run Tryd.prog w = .ok (.enter 28 #[.pointer (some ⟨pl.b, pl.base + 0, none⟩)]) w := fun w => Tryd.call28 _ w
        have hR : RegsRel ρ1 I1 [(0, bv), (1, fv), (4, .ptr σ.next 0)] (a.tmps.setIfInBounds 6 (Value.func (Fn.func 28) #[] #[.pointer (some ⟨pl.b, pl.base + 0, none⟩)])) := by
          intro t v hv
          obtain ⟨cu, b1, b2⟩ := g4 t v hv
          have hne : t ≠ 6 := by
            intro h6; subst h6
            simp [lk_cons] at hv
          exact ⟨cu, by rw [Array.getElem?_setIfInBounds_ne (fun e => hne e.symm)]; exact b1, b2⟩
        obtain ⟨rid, hid⟩ := bodyC_eq
        have hC := seq3_sound (id := rid) (P := Tryd.prog) (B := B) (w0 := { w0 with ds := [⟨.fn (.func 28) #[.pointer (some ⟨pl.b, pl.base + 0, none⟩)], #[]⟩] }) (nt := 19)
          (a := { tmps := a.tmps.setIfInBounds 6 (Value.func (Fn.func 28) #[] #[.pointer (some ⟨pl.b, pl.base + 0, none⟩)]), defers := ⟨.fn (.func 28) #[.pointer (some ⟨pl.b, pl.base + 0, none⟩)], #[]⟩ :: a.defers })
          hmx compX61 compR61 compZ61 keepR61 rfl rfl (body_c h) hR (g3.ofDs.atDs _) (by rw [g1]) (by simp [g2]) (Nat.lt_succ_self _)
        rw [hid]
        · refine Code.wp_mono ?_ hC
          intro e a2 w2 hl
          obtain ⟨hl, hkp⟩ := hl
          have hlt0 : σ.next < σ.next + 1 := Nat.lt_succ_self _
          have key : Lift 19 B { w0 with ds := [⟨.fn (.func 28) #[.pointer (some ⟨pl.b, pl.base + 0, none⟩)], #[]⟩] } ρ1 I1 ⟨σ.mem.set σ.next (.cells 1 [.int .i64 0]), σ.next + 1⟩ (fun r σ => match resA r σ rs17 with | some v => Q v σ | none => False) a2 w2 →
              Leaves Tryd.prog Tryd.f17 a2.tmps (fun e w' => ∃ v σ' ρ' I' cv, e = Ending.returned cv ∧ VRel ρ' I' v cv ∧ Rel B w0 ρ' I' σ' w' ∧ Ext ρ I σ ρ' I' σ' ∧ Q v σ') a2.defers .returning w2 := by
            rintro ⟨r, σ', ρ', I', q1, q2, q3, q4, q5, q6⟩
            split at q6
            · rename_i v hv
              obtain ⟨cv, u1, u2⟩ := res_sound (P := Env.of Tryd.prog) (fn := Tryd.f17) q4 q3.ofDs (rs := rs17) (by kernel_rfl) hv
              rw [q1]
              refine ⟨by simp, _, _, 28, _, rfl, hinv _, (catch_idle _ w2).mono ?_⟩
              rintro e u' w' ⟨rfl, rfl, rfl⟩
              exact ⟨cv, u1, v, σ', ρ', I', cv, rfl, u2, q3.ofDs, g5.trans q5, q6⟩
            · exact q6.elim
          cases e with
          | normal => exact key hl
          | ret => exact key hl
          | exit id =>
            obtain ⟨r, σ', ρ', I', q1, q2, q3, q4, q5, q6⟩ := hl
            exact q6.elim
          | goto l => exact (hl : False).elim
          | outgrown => exact (hl : False).elim
          | panic chain =>
            obtain ⟨hd, v, σ', ρ', I', cv, rfl, q2, q3, q4, c, x, rfl, hm, hq⟩ := hl
            show Leaves Tryd.prog Tryd.f17 a2.tmps _ a2.defers _ w2
            rw [hd]
            obtain ⟨cw, t4, hv4⟩ := hkp ⟨_, rfl⟩
            simp only [VRel] at hv4
            obtain ⟨pl', hp4, rfl⟩ := hv4
            have hpp : pl' = pl := by rw [hpl] at hp4; exact (Option.some.inj hp4).symm
            subst hpp
            have hρ : ρ' σ.next = some pl' := (q4.1 _ hlt0).trans hpl
            have hcv : cv = .iface 74 (.agg #[.int .i64 c]) := by
              simp only [VRel] at q2
              obtain ⟨y, rfl, cs', rfl, hsz, _, hC⟩ := q2
              obtain ⟨u, hu1, hu2⟩ := hC.get 0 (.int .i64 c) rfl
              simp only [VRel] at hu2
              subst hu2
              have h1 : cs'.size = 1 := hsz
              have : cs' = #[.int .i64 c] := by
                apply Array.ext (by simp [h1])
                intro i hi1 hi2
                have : i = 0 := by omega
                subst this
                rw [Array.getElem?_eq_getElem hi1] at hu1
                simpa using hu1
              rw [this]
            subst hcv
            have ra : Rel B w0 ρ' I' σ' (w2.alloc (.cells #[.int .i64 c] 74)) :=
              Rel.below q3.ofDs ((Below.refl _ _).alloc (Nat.le_refl _) _)
            obtain ⟨⟨u, c1⟩, c2, c3, c4⟩ := ra.setCell hρ hm (o := 0) (by simp) (v := .int .i64 c) (cv := .int .i64 c) (by simp [VRel]) rfl
            refine ⟨by simp, _, _, 28, _, rfl, hinv _, (catch_thrown _ c u w2 c1 c2).mono ?_⟩
            rintro e u' w' ⟨rfl, rfl, rfl⟩
            have hregs : RegsRel ρ' I' [(4, .ptr σ.next 0)] a2.tmps := by
              intro t v hv
              by_cases h4 : t = 4
              · subst h4
                simp at hv; subst hv
                exact ⟨_, t4, by simp only [VRel]; exact ⟨pl', hρ, rfl⟩⟩
              · have : (t == 4) = false := by simp [h4]
                simp [List.lookup, this] at hv
            obtain ⟨cv2, u1, u2⟩ := res_sound (P := Env.of Tryd.prog) (fn := Tryd.f17) hregs c3 (rs := rs17) (v := .int .i64 c) (by kernel_rfl) (by simp [rs17, resA, lk_cons])
            exact ⟨cv2, u1, .int .i64 c, _, ρ', I', cv2, rfl, u2, c3, (g5.trans q4).trans c4, hq⟩
      have hev6 : Act.eval { tmps := a.tmps.setIfInBounds 6 (Value.func (Fn.func 28) #[] #[cvp]), defers := a.defers } (.tmp 6) = Value.func (Fn.func 28) #[] #[cvp] := by
        show (a.tmps.setIfInBounds 6 (Value.func (Fn.func 28) #[] #[cvp])).getD 6 undef = _
        rw [Array.getD_eq_getD_getElem?, Array.getElem?_setIfInBounds_self]
        simp [g2]
      have hC1 := hC0
      revert hC1
      generalize bodyC Tryd.f17.body = CC
      intro hC1
      generalize hbr : bodyR Tryd.f17.body = ops
      simp only [bodyR, Tryd.f17] at hbr
      subst hbr
      simp [wpList, Oper.wp, execOp, hmf, hev, Oper.upon, Region.wanted, Act.put, resolve, hev6, Deferred.ofValue]
      left
      have hE : ∀ N E, Exit.then N E .normal = N := fun _ _ => rfl
      rw [hE]
      exact .inl hC1
    | ret =>
      obtain ⟨r, σ1, ρ1, I1, g1, g2, g3, g4, g5, g6, _⟩ := hl
      cases g6
    | exit id =>
      obtain ⟨r, σ1, ρ1, I1, g1, g2, g3, g4, g5, g6, _⟩ := hl
      cases g6
    | goto l => exact (hl : False).elim
    | panic c => exact hl.2.no.elim
    | outgrown => exact (hl : False).elim
  · intro t v hv
    obtain ⟨_, h2⟩ := argR_lookup [bv, fv] 0 t v hv
    rw [Nat.sub_zero] at h2
    obtain ⟨u, h3, h4⟩ := hargs.get t v h2
    have hlt := (Array.getElem?_eq_some_iff.1 h3).1
    exact ⟨u, by rw [Array.getElem?_append_left hlt]; exact h3, h4⟩
  · have : cargs.size = 2 := hsz
    simp [this]

end Go.Proofs.YtieieknhhfallaaDoor.AM

/- pack.Reader.Fail. -/
namespace Go.Proofs.YtieieknhhfallaaDoor.AM
open Go.RowKit
set_option linter.unusedVariables false
set_option linter.unusedSimpArgs false
set_option maxRecDepth 100000

theorem fail_c {T : AVal → St → Prop} {rv : AVal} {c : Int} {σ : St} {Q : AVal → St → Prop} (hT : c ≠ 0 → T (.iface 74 (.agg [.int .i64 c])) σ) (hQ : c = 0 → Q (.tup []) σ) : ACall (Env.th Tryd.prog T) 32 [rv, .int .i64 c] σ Q := by
  refine ACall.of_compF hmx (fun a w => Tryd.call32 a w) Tryd.func32 cf32 (n := 2) (by decide) rfl ?_
  by_cases hc : c = 0
  · simp [ac32, rs32, lk_cons, hc, hQ]
  · simp [ac32, rs32, lk_cons, hc, hT, fillL, storeL]
end Go.Proofs.YtieieknhhfallaaDoor.AM

/- pack.Reader.take. -/
namespace Go.Proofs.YtieieknhhfallaaDoor.AM
open Go.RowKit
set_option linter.unusedVariables false
set_option linter.unusedSimpArgs false
set_option maxRecDepth 100000

theorem take_c {T : AVal → St → Prop} {b es len : Nat} {cs : List AVal} {tight : Bool} {n : Nat} {σ : St} {Q : AVal → St → Prop} (hm : σ.mem.get b = some (.cells es [.isl cs len tight])) (hlen : len < 2 ^ 62)
    (hT : len < n → T (.iface 74 (.agg [.int .i64 4])) σ) (hQ : n ≤ len → Q (.isl (cs.take n) n (tight && n == len)) ⟨σ.mem.set b (.cells es [.isl ((cs.drop n).take (len - n)) (len - n) tight]), σ.next⟩) : ACall (Env.th Tryd.prog T) 52 [.ptr b 0, .int .u64 (n : Int)] σ Q := by
  refine ACall.of_compF hmx (fun a w => Tryd.call52 a w) Tryd.func52 cf52 (n := 2) (by decide) rfl ?_
  have hw : IntKind.u64.wrap (len : Int) = len := by simp (disch := omega) only [IntWalk.u64_in]
  by_cases hc : len < n
  · simp [ac52, rs52, lk_cons, hm, hw, hc, hT, fillL, storeL]
  · have h1 : n ≤ len := by omega
    simp [ac52, rs52, lk_cons, hm, hw, hc, fillL, storeL, optM, asliceSl, h1, bnd]
    exact hQ h1
end Go.Proofs.YtieieknhhfallaaDoor.AM

/- pack.Reader: take, number, U64, U16, over bytes. -/
namespace Go.Proofs.YtieieknhhfallaaDoor.AM
open Go.RowKit
set_option maxRecDepth 100000
set_option linter.unusedVariables false
set_option linter.unusedSimpArgs false

/-- The number that bytes say, the greatest first. -/
def be (l : List UInt8) : Nat := l.foldl (fun a b => a * 256 + b.toNat) 0
theorem be_snoc (l : List UInt8) (b : UInt8) : be (l ++ [b]) = be l * 256 + b.toNat := by simp [be, List.foldl_append]
theorem be_nil : be [] = 0 := rfl
theorem be_lt_aux : ∀ (l : List UInt8) (a : Nat), l.foldl (fun a b => a * 256 + b.toNat) a + 1 ≤ (a + 1) * 256 ^ l.length
  | [], a => by simp
  | b :: l, a => by
    have h := be_lt_aux l (a * 256 + b.toNat)
    have hb := b.toNat_lt
    simp only [List.foldl_cons, List.length_cons, Nat.pow_succ]
    refine Nat.le_trans h ?_
    have : (a * 256 + b.toNat + 1) * 256 ^ l.length ≤ ((a + 1) * 256) * 256 ^ l.length := Nat.mul_le_mul_right _ (by omega)
    rw [Nat.mul_comm (256 ^ l.length) 256, ← Nat.mul_assoc]
    exact this
theorem be_lt (l : List UInt8) : be l < 256 ^ l.length := by
  have := be_lt_aux l 0
  unfold be
  omega
theorem take_snoc {l : List UInt8} {i : Nat} {x : UInt8} (h : l[i]? = some x) : l.take (i + 1) = l.take i ++ [x] := by
  rw [List.take_add_one, h]; rfl

/-- What a reader throws where too little is left. -/
abbrev thrownV (c : Int) : AVal := .iface 74 (.agg [.int .i64 c])

theorem take_b {T : AVal → St → Prop} {b es : Nat} {v : AVal} {l : List UInt8} {n : Nat} {σ : St} {Q : AVal → St → Prop} (hm : σ.mem.get b = some (.cells es [v])) (hv : BytesOf v l) (hlen : l.length < 2 ^ 62)
    (hT : l.length < n → T (thrownV 4) σ) (hQ : ∀ v1 v2, n ≤ l.length → BytesOf v1 (l.take n) → BytesOf v2 (l.drop n) → Q v1 ⟨σ.mem.set b (.cells es [v2]), σ.next⟩) : ACall (Env.th Tryd.prog T) 52 [.ptr b 0, .int .u64 (n : Int)] σ Q := by
  rcases hv with ⟨rfl, rfl⟩ | ⟨t, rfl⟩
  · refine ACall.of_compF hmx (fun a w => Tryd.call52 a w) Tryd.func52 cf52 (n := 2) (by decide) rfl ?_
    have hw : IntKind.u64.wrap 0 = 0 := by simp (disch := omega) only [IntWalk.u64_in]
    by_cases hc : 0 < n
    · simp [ac52, rs52, lk_cons, hm, hw, hc, fillL, storeL]
      exact hT hc
    · have h0 : n = 0 := by omega
      subst h0
      simp [ac52, rs52, lk_cons, hm, hw, fillL, storeL, optM, asliceSl, bnd]
      exact hQ .nilsl .nilsl (Nat.le_refl _) (.inl ⟨rfl, by simp⟩) (.inl ⟨rfl, by simp⟩)
  · refine take_c hm hlen hT fun hn => ?_
    refine hQ _ _ hn (.inr ⟨t && n == l.length, ?_⟩) (.inr ⟨t, ?_⟩)
    · simp [bytesV, List.map_take, Nat.min_eq_left hn]
    · simp [bytesV, List.map_drop]
      rw [List.take_of_length_le]; simp

theorem BytesOf.at {v : AVal} {l : List UInt8} (h : BytesOf v l) {i : Nat} {x : UInt8} (hx : l[i]? = some x) (ρ : St) : evalV ρ (.idxAddr 1 v (.int .i64 (i : Nat))) = some (.iptr (((bytesV l).drop i).take 1), ρ) ∧ evalV ρ (.ld1 (.iptr (((bytesV l).drop i).take 1))) = some (.int .u8 (x.toNat : Int), ρ) := by
  have hi := (List.getElem?_eq_some_iff.1 hx).1
  rcases h with ⟨rfl, rfl⟩ | ⟨t, rfl⟩
  · simp at hx
  · refine ⟨by simp [hi], ?_⟩
    simp [bytesV, hx]
def NumJ (v1 : AVal) (l : List UInt8) (b es : Nat) (v2 : AVal) (σ0 : St) (mm : Nat) (rg : Regs) (σ' : St) : Prop := ∃ i, mm = l.length - i ∧ i ≤ l.length ∧ σ' = σ0 ∧
  rg = [(5, .int .u64 (be (l.take i) : Nat)), (10, v1), (11, .int .i64 (l.length : Nat)), (12, .int .i64 (i : Nat))]
theorem shl8 {x : Nat} (h : x * 256 < 18446744073709551616) (ρ : St) : evalV ρ (.bin .shl (.int .u64 (x : Nat)) (.int .u64 8)) = some (.int .u64 ((x : Int) * 256), ρ) := by
  have h1 : IntKind.u64.wrap ((x : Int) * 2 ^ min (Int.toNat 8) IntKind.u64.bits) = (x : Int) * 256 := by
    have : (2 : Int) ^ min (Int.toNat 8) IntKind.u64.bits = 256 := by decide
    rw [this]
    rw [IntWalk.u64_in] <;> omega
  simp only [evalV, abin, ashift, h1]
  rfl
theorem or8 {x : Nat} {b : UInt8} (h : x * 256 + b.toNat < 18446744073709551616) (ρ : St) : evalV ρ (.bin .or (.int .u64 ((x : Int) * 256)) (.int .u64 (b.toNat : Int))) = some (.int .u64 ((x * 256 + b.toNat : Nat) : Int), ρ) := by
  have hb := b.toNat_lt
  have h0 : (x : Int) * 256 = ((x * 256 : Nat) : Int) := by omega
  rw [h0]
  have h2 : ((BitVec.ofInt IntKind.u64.bits ((x * 256 : Nat) : Int)) ||| (BitVec.ofInt IntKind.u64.bits (b.toNat : Int))).toNat = x * 256 + b.toNat := by
    have e : IntKind.u64.bits = 64 := rfl
    rw [e]
    simp only [BitVec.ofInt_natCast, BitVec.toNat_or, BitVec.toNat_ofNat]
    rw [Nat.mod_eq_of_lt (by omega), Nat.mod_eq_of_lt (by omega)]
    have := Nat.two_pow_add_eq_or_of_lt (i := 8) (b := b.toNat) hb x
    rw [Nat.mul_comm x 256]
    exact this.symm
  simp only [evalV, abin, abinI, abits, h2, if_true]
  rw [IntWalk.u64_in] <;> first | rfl | omega
theorem number_b {T : AVal → St → Prop} {b es : Nat} {v : AVal} {l : List UInt8} {n : Nat} {σ : St} {Q : AVal → St → Prop} (hn8 : n ≤ 8) (hm : σ.mem.get b = some (.cells es [v])) (hv : BytesOf v l) (hlen : l.length < 2 ^ 62)
    (hT : l.length < n → T (thrownV 4) σ) (hQ : ∀ v2, n ≤ l.length → BytesOf v2 (l.drop n) → Q (.int .u64 (be (l.take n) : Nat)) ⟨σ.mem.set b (.cells es [v2]), σ.next⟩) : ACall (Env.th Tryd.prog T) 43 [.ptr b 0, .int .u64 (n : Int)] σ Q := by
  refine ACall.of_compF hmx (fun a w => Tryd.call43 a w) Tryd.func43 cf43 (n := 2) (by decide) rfl ?_
  simp [ac43, rs43, lk_cons]
  refine take_b hm hv hlen hT fun v1 v2 hn h1 h2 => ?_
  have hq := hQ v2 hn h2
  have hlt : (l.take n).length = n := by simp [Nat.min_eq_left hn]
  revert h1 hq hlt
  generalize l.take n = l1
  intro h1 hq hlt
  subst hlt
  have hlen1 := h1.len ⟨σ.mem.set b (.cells es [v2]), σ.next⟩
  simp [lk_cons, ↓hlen1]
  refine wp_loop (NumJ v1 l1 b es v2 ⟨σ.mem.set b (.cells es [v2]), σ.next⟩) l1.length ?_ ?_
  · exact ⟨0, rfl, Nat.zero_le _, rfl, by simp [be_nil, lk_cons]⟩
  · rintro mm rg σ' ⟨i, rfl, hi, rfl, rfl⟩
    by_cases hc : i < l1.length
    · obtain ⟨x, hx⟩ : ∃ x, l1[i]? = some x := ⟨_, List.getElem?_eq_getElem (by omega)⟩
      obtain ⟨k, hk⟩ : ∃ k, i + 1 = k := ⟨_, rfl⟩
      have w1 : IntKind.i64.wrap ((i : Int) + 1) = (k : Int) := by rw [IntWalk.i64_in] <;> omega
      have htk := take_snoc hx
      have hbe : be (l1.take k) = be (l1.take i) * 256 + x.toNat := by rw [← hk, htk, be_snoc]
      have hbl : be (l1.take k) < 18446744073709551616 := by
        have := be_lt (l1.take k)
        have hle : (l1.take k).length ≤ 8 := by simp; omega
        have := Nat.pow_le_pow_right (n := 256) (by decide) hle
        have e : 256 ^ 8 = 18446744073709551616 := by decide
        omega
      have e1 := shl8 (x := be (l1.take i)) (by omega) ⟨σ.mem.set b (.cells es [v2]), σ.next⟩
      have e2 := or8 (x := be (l1.take i)) (b := x) (by omega) ⟨σ.mem.set b (.cells es [v2]), σ.next⟩
      obtain ⟨a1, a2⟩ := h1.at hx ⟨σ.mem.set b (.cells es [v2]), σ.next⟩
      have wx : IntKind.u64.wrap (x.toNat : Int) = x.toNat := by have := x.toNat_lt; rw [IntWalk.u64_in] <;> omega
      simp [lk_cons, hc, w1, ↓a1, ↓a2, wx, ↓e1, ↓e2]
      exact ⟨l1.length - k, by omega, k, rfl, by omega, rfl, by rw [hbe]; simp⟩
    · have : i = l1.length := by omega
      subst this
      simp [lk_cons]
      exact hq

end Go.Proofs.YtieieknhhfallaaDoor.AM

/- pack.Reader: take, number, U8, U64, Bytes, Text, as plain parses. -/
namespace Go.Proofs.YtieieknhhfallaaDoor.AM
open Go.RowKit
set_option maxRecDepth 100000
set_option linter.unusedVariables false
set_option linter.unusedSimpArgs false

/-- A reader in memory: r its block; what is left; c the block of the bytes. -/
def RR (σ : St) (r : Nat) (l : List UInt8) (c : Option Nat) : Prop := ∃ v, σ.mem.get r = some (.cells 1 [v]) ∧ RdB σ v l c ∧ c ≠ some r ∧ r < σ.next
theorem RR.keep {σ σ' : St} {r : Nat} {l : List UInt8} {c : Option Nat} (h : RR σ r l c) (hn : σ.next ≤ σ'.next) (hm : ∀ a, a < σ.next → a = r ∨ c = some a → σ'.mem.get a = σ.mem.get a) : RR σ' r l c := by
  obtain ⟨v, h1, h2, h3, h4⟩ := h
  exact ⟨v, (hm r h4 (.inl rfl)).trans h1, h2.keep hn fun a ha hc => hm a ha (.inr hc), h3, by omega⟩
structure RStp (r : Nat) (σ σ' : St) : Prop where
  next : σ.next ≤ σ'.next
  keep : ∀ a, a < σ.next → a ≠ r → σ'.mem.get a = σ.mem.get a
theorem RStp.refl (r : Nat) (σ : St) : RStp r σ σ := ⟨Nat.le_refl _, fun _ _ _ => rfl⟩
theorem RStp.trans {r : Nat} {a b d : St} (h : RStp r a b) (k : RStp r b d) : RStp r a d := ⟨Nat.le_trans h.next k.next, fun x hx hr => (k.keep x (Nat.lt_of_lt_of_le hx h.next) hr).trans (h.keep x hx hr)⟩
theorem Grow.rstp {σ σ' : St} (h : Grow σ σ') (r : Nat) : RStp r σ σ' := ⟨h.1, fun a ha _ => h.2 a ha⟩
theorem RR.grow {σ σ' : St} {r : Nat} {l : List UInt8} {c : Option Nat} (h : RR σ r l c) (hg : Grow σ σ') : RR σ' r l c := h.keep hg.1 fun a ha _ => hg.2 a ha

def pNum (k : Nat) (l : List UInt8) : Except Nat (Nat × List UInt8) := if l.length < k then .error 4 else .ok (be (l.take k), l.drop k)
def pBytes (l : List UInt8) : Except Nat (List UInt8 × List UInt8) := match pNum 4 l with
  | .error c => .error c
  | .ok (n, r) => if r.length < n then .error 4 else .ok (r.take n, r.drop n)
def pText (l : List UInt8) : Except Nat (List UInt8 × List UInt8) := match pBytes l with
  | .error c => .error c
  | .ok (b, r) => if vld b then .ok (b, r) else .error 6
theorem pNum_len {k : Nat} {l : List UInt8} {n : Nat} {r : List UInt8} (h : pNum k l = .ok (n, r)) : r.length + k = l.length ∧ n < 256 ^ k := by
  unfold pNum at h
  split at h
  · cases h
  · rename_i hk
    cases h
    have := be_lt (l.take k)
    rw [List.length_take, Nat.min_eq_left (by omega)] at this
    exact ⟨by rw [List.length_drop]; omega, this⟩
theorem pBytes_len {l b r : List UInt8} (h : pBytes l = .ok (b, r)) : r.length ≤ l.length ∧ b.length ≤ l.length := by
  unfold pBytes at h
  split at h
  · cases h
  · rename_i n r' hn
    have := (pNum_len hn).1
    split at h
    · cases h
    · cases h; simp only [List.length_drop, List.length_take]; omega
theorem pText_len {l b r : List UInt8} (h : pText l = .ok (b, r)) : r.length ≤ l.length ∧ b.length ≤ l.length := by
  unfold pText at h
  split at h
  · cases h
  · rename_i b' r' hb
    have := pBytes_len hb
    split at h
    · cases h; exact this
    · cases h

section
variable {T : AVal → St → Prop} {σ : St} {r : Nat} {l : List UInt8} {c : Option Nat} {Q : AVal → St → Prop}
theorem rtake_c (h : RR σ r l c) (hl : l.length < 4611686018427387904) {n : Nat} (hT : l.length < n → T (thrownV 4) σ)
    (hQ : n ≤ l.length → ∀ v1 σ', RR σ' r (l.drop n) c → RdB σ' v1 (l.take n) c → σ'.next = σ.next → (∀ a, a ≠ r → σ'.mem.get a = σ.mem.get a) → Q v1 σ') : ACall (Env.th Tryd.prog T) 52 [.ptr r 0, .int .u64 (n : Int)] σ Q := by
  refine ACall.of_compF hmx (fun a w => Tryd.call52 a w) Tryd.func52 cf52 (n := 2) (by decide) rfl ?_
  obtain ⟨v, h1, h2, h3, h4⟩ := h
  have hlen := h2.len
  have w1 : IntKind.u64.wrap (l.length : Int) = l.length := by rw [IntWalk.u64_in] <;> omega
  by_cases hn : l.length < n
  · have hn' : (l.length : Int) < n := by omega
    simp [ac52, rs52, lk_cons, h1, ↓hlen, w1, hn, hn', fillL, storeL]
    exact hT hn
  · have hn' : ¬ (l.length : Int) < n := by omega
    obtain ⟨v1, s1, r1⟩ := h2.pre (n := n) (by omega) .u64 rfl
    obtain ⟨v2, s2, r2⟩ := h2.cut (n := n) (by omega) .u64 rfl
    have s1 := s1 σ (fun _ _ => rfl)
    have s2 := s2 σ (fun _ _ => rfl)
    simp [ac52, rs52, lk_cons, h1, ↓hlen, w1, hn, hn', optM, ↓s1, ↓s2, r2.one, storeL]
    have kp : ∀ a, a ≠ r → (σ.mem.set r (.cells 1 [v2])).get a = σ.mem.get a := fun a ha => by simp [ha]
    have rk : ∀ {w : AVal} {m : List UInt8}, RdB σ w m c → RdB ⟨σ.mem.set r (.cells 1 [v2]), σ.next⟩ w m c := fun hw => hw.keep (Nat.le_refl _) fun a _ hc => kp a fun e => h3 (by rw [hc, e])
    exact hQ (by omega) v1 _ ⟨v2, by simp, rk r2, h3, h4⟩ (rk r1) rfl kp
def NuJ (v1 : AVal) (l1 : List UInt8) (σ0 : St) (mm : Nat) (rg : Regs) (σ' : St) : Prop := ∃ i, mm = l1.length - i ∧ i ≤ l1.length ∧ σ' = σ0 ∧
  rg = [(5, .int .u64 (be (l1.take i) : Nat)), (10, v1), (11, .int .i64 (l1.length : Nat)), (12, .int .i64 (i : Nat))]
theorem rnum_c (h : RR σ r l c) (hl : l.length < 4611686018427387904) {n : Nat} (hn8 : n ≤ 8) (hT : ∀ e, pNum n l = .error e → T (thrownV (e : Int)) σ)
    (hQ : ∀ x l' σ', pNum n l = .ok (x, l') → RR σ' r l' c → RStp r σ σ' → Q (.int .u64 (x : Int)) σ') : ACall (Env.th Tryd.prog T) 43 [.ptr r 0, .int .u64 (n : Int)] σ Q := by
  refine ACall.of_compF hmx (fun a w => Tryd.call43 a w) Tryd.func43 cf43 (n := 2) (by decide) rfl ?_
  simp [ac43, rs43, lk_cons]
  refine rtake_c h hl (fun hn => by have := hT 4 (by rw [pNum, if_pos hn]); exact this) fun hn v1 σ1 h1 h2 hx hk => ?_
  have hq := hQ (be (l.take n)) (l.drop n) σ1 (by rw [pNum, if_neg (by omega)]) h1 ⟨by omega, fun a _ ha => hk a ha⟩
  have hlt : (l.take n).length = n := by simp [Nat.min_eq_left hn]
  revert h2 hq hlt
  generalize l.take n = l1
  intro h2 hq hlt
  subst hlt
  have hlen1 := h2.len
  simp [lk_cons, ↓hlen1]
  refine wp_loop (NuJ v1 l1 σ1) l1.length ?_ ?_
  · exact ⟨0, rfl, Nat.zero_le _, rfl, by simp [be_nil, lk_cons]⟩
  · rintro mm rg σ' ⟨i, rfl, hi, rfl, rfl⟩
    by_cases hc : i < l1.length
    · obtain ⟨x, hx⟩ : ∃ x, l1[i]? = some x := ⟨_, List.getElem?_eq_getElem (by omega)⟩
      obtain ⟨k, hk⟩ : ∃ k, i + 1 = k := ⟨_, rfl⟩
      have w1 : IntKind.i64.wrap ((i : Int) + 1) = (k : Int) := by rw [IntWalk.i64_in] <;> omega
      have htk := take_snoc hx
      have hbe : be (l1.take k) = be (l1.take i) * 256 + x.toNat := by rw [← hk, htk, be_snoc]
      have hbl : be (l1.take k) < 18446744073709551616 := by
        have := be_lt (l1.take k)
        have hle : (l1.take k).length ≤ 8 := by simp; omega
        have := Nat.pow_le_pow_right (n := 256) (by decide) hle
        have e : 256 ^ 8 = 18446744073709551616 := by decide
        omega
      have e1 := shl8 (x := be (l1.take i)) (by omega) σ'
      have e2 := or8 (x := be (l1.take i)) (b := x) (by omega) σ'
      obtain ⟨p, a1, a2⟩ := h2.at hx rfl
      have a2 := a2 σ' (fun _ _ => rfl)
      have wx : IntKind.u64.wrap (x.toNat : Int) = x.toNat := by have := x.toNat_lt; rw [IntWalk.u64_in] <;> omega
      simp [lk_cons, hc, w1, ↓a1, ↓a2, wx, ↓e1, ↓e2]
      exact ⟨l1.length - k, by omega, k, rfl, by omega, rfl, by rw [hbe]; simp⟩
    · have : i = l1.length := by omega
      subst this
      simp [lk_cons]
      exact hq
theorem ru64_c (h : RR σ r l c) (hl : l.length < 4611686018427387904) (hT : ∀ e, pNum 8 l = .error e → T (thrownV (e : Int)) σ)
    (hQ : ∀ x l' σ', pNum 8 l = .ok (x, l') → RR σ' r l' c → RStp r σ σ' → Q (.int .u64 (x : Int)) σ') : ACall (Env.th Tryd.prog T) 31 [.ptr r 0] σ Q := by
  refine ACall.of_compF hmx (fun a w => Tryd.call31 a w) Tryd.func31 cf31 (n := 1) (by decide) rfl ?_
  simp [ac31, rs31, lk_cons]
  refine rnum_c h hl (n := 8) (by decide) hT fun x l' σ' h1 h2 h3 => ?_
  simp [lk_cons]
  exact hQ x l' σ' h1 h2 h3
theorem ru8_c (h : RR σ r l c) (hl : l.length < 4611686018427387904) (hT : ∀ e, pNum 1 l = .error e → T (thrownV (e : Int)) σ)
    (hQ : ∀ x l' σ', pNum 1 l = .ok (x, l') → RR σ' r l' c → RStp r σ σ' → Q (.int .u8 (x : Int)) σ') : ACall (Env.th Tryd.prog T) 29 [.ptr r 0] σ Q := by
  refine ACall.of_compF hmx (fun a w => Tryd.call29 a w) Tryd.func29 cf29 (n := 1) (by decide) rfl ?_
  simp [ac29, rs29, lk_cons]
  refine rnum_c h hl (n := 1) (by decide) hT fun x l' σ' h1 h2 h3 => ?_
  have hx := (pNum_len h1).2
  have w1 : IntKind.u8.wrap (x : Int) = x := by rw [IntWalk.u8_in]; omega
  simp [lk_cons, w1]
  exact hQ x l' σ' h1 h2 h3
end
theorem clone_c {σ : St} {v : AVal} {l : List UInt8} {c : Option Nat} (h : RdB σ v l c) (hl : l.length ≤ 140737488355328) (Q : AVal → St → Prop)
    (hQ : ∀ σ' v' b', GS rwB σ' v' l b' → (∀ x, b' = some x → σ.next ≤ x) → Grow σ σ' → Q v' σ') : ACall Tryd.prog 40 [v] σ Q := by
  refine ACall.of_compF hmx (fun a w => Tryd.call40 a w) Tryd.func40 cf40 (n := 1) (by decide) rfl ?_
  by_cases hv : v = .nilsl
  · subst hv
    have hl0 : l = [] := by
      rcases h with ⟨⟨_, h⟩ | ⟨t, h⟩, _⟩ | ⟨o, off, cap, t, vals, _, h, _⟩
      · exact h
      · cases h
      · cases h
    subst hl0
    simp [ac40, rs40, lk_cons]
    exact hQ σ .nilsl none (GS.nil σ) (by simp) (Grow.refl _)
  · have hnil : aeqn 1 v .nilsl = some false := by
      rcases h with ⟨⟨h, _⟩ | ⟨t, h⟩, _⟩ | ⟨o, off, cap, t, vals, _, h, _⟩
      · exact absurd h hv
      · rw [h]; simp
      · rw [h]; simp
    have hg : GS rwB ⟨σ.mem.set σ.next (.cells 1 []), σ.next + 1⟩ (.sl σ.next 0 0 0 true) [] (some σ.next) := .inr ⟨σ.next, true, rfl, rfl, by simp, by simp [rws]⟩
    have hsrc := (h.keep (σ' := ⟨σ.mem.set σ.next (.cells 1 []), σ.next + 1⟩) (by simp) fun a ha _ => by simp [show ¬ a = σ.next by omega]).src
    obtain ⟨v', σ2, b', e1, e2, e3, e4, e5⟩ := gs_appN hg (by_ := 1) (by decide) hsrc (by simp; omega) (by simp; omega)
    simp only [List.nil_append] at e2
    have hev : ∀ ρ : St, evalV ρ (.eqn 1 false v .nilsl) = some (.bool false, ρ) := fun ρ => by simp only [evalV, hnil]; rfl
    simp [ac40, rs40, lk_cons, ↓hev, fillL, repL, ↓e1]
    simp at e4 e5
    refine hQ _ v' b' e2 (fun x hx => ?_) ⟨by omega, fun a ha => ?_⟩
    · rcases e3 with e3 | e3
      · rw [e3] at hx; cases hx; omega
      · rw [e3] at hx; cases hx; simp
    · rw [e5 a (by omega) (by omega)]
      simp [show ¬ a = σ.next by omega]
section
variable {T : AVal → St → Prop} {σ : St} {r : Nat} {l : List UInt8} {c : Option Nat} {Q : AVal → St → Prop}
theorem rbytes_b (h : RR σ r l c) (hl : l.length ≤ 140737488355328) (hT : ∀ e σ', pBytes l = .error e → RStp r σ σ' → T (thrownV (e : Int)) σ')
    (hQ : ∀ b l' v' b' σ', pBytes l = .ok (b, l') → RR σ' r l' c → GS rwB σ' v' b b' → (∀ x, b' = some x → σ.next ≤ x) → RStp r σ σ' → Q v' σ') : ACall (Env.th Tryd.prog T) 44 [.ptr r 0] σ Q := by
  refine ACall.of_compF hmx (fun a w => Tryd.call44 a w) Tryd.func44 cf44 (n := 1) (by decide) rfl ?_
  simp [ac44, rs44, lk_cons]
  refine rnum_c h (by omega) (n := 4) (by decide) (fun e he => hT e σ (by rw [pBytes, he]) (RStp.refl _ _)) fun x l1 σ1 h1 h2 h3 => ?_
  have hx := pNum_len h1
  simp [lk_cons]
  refine rtake_c h2 (by omega) (fun hn => hT 4 σ1 (by rw [pBytes, h1]; simp only [if_pos hn]) h3) fun hn v1 σ2 k1 k2 k3 k4 => ?_
  have s2 : RStp r σ1 σ2 := ⟨by omega, fun a _ ha => k4 a ha⟩
  simp [lk_cons]
  refine ACall.into (clone_c k2 (by rw [List.length_take]; omega) _ fun σ3 v' b' m1 m2 m3 => ?_)
  simp [lk_cons]
  have := h3.next
  exact hQ _ _ v' b' σ3 (by rw [pBytes, h1]; simp only [if_neg (show ¬ l1.length < x by omega)]) (k1.grow m3) m1 (fun y hy => by have := m2 y hy; omega) (h3.trans (s2.trans (m3.rstp r)))
theorem rtext_c (h : RR σ r l c) (hl : l.length ≤ 140737488355328) (hT : ∀ e σ', pText l = .error e → RStp r σ σ' → T (thrownV (e : Int)) σ')
    (hQ : ∀ b l' σ', pText l = .ok (b, l') → RR σ' r l' c → RStp r σ σ' → Q (.str ⟨b.toArray⟩) σ') : ACall (Env.th Tryd.prog T) 30 [.ptr r 0] σ Q := by
  refine ACall.of_compF hmx (fun a w => Tryd.call30 a w) Tryd.func30 cf30 (n := 1) (by decide) rfl ?_
  simp [ac30, rs30, lk_cons]
  refine rbytes_b h hl (fun e σ' he hs => hT e σ' (by rw [pText, he]) hs) fun b l' v' b' σ1 h1 h2 h3 h4 h5 => ?_
  have hb := (pBytes_len h1).2
  simp [lk_cons]
  refine ACall.into (valid_c (RdB.ofGS h3) (by omega) _ ?_)
  have hstr := h3.bytesStr
  cases hv : vld b with
  | true =>
    simp [lk_cons, ↓hstr]
    exact hQ b l' σ1 (by rw [pText, h1]; simp only [hv, if_true]) h2 h5
  | false =>
    simp [lk_cons, fillL, storeL]
    exact hT 6 σ1 (by rw [pText, h1]; simp [hv]) h5
end
end Go.Proofs.YtieieknhhfallaaDoor.AM

/- dedup.Take, as a plain parse. -/
namespace Go.Proofs.YtieieknhhfallaaDoor.AM
open Go.RowKit
set_option maxRecDepth 100000
set_option linter.unusedVariables false
set_option linter.unusedSimpArgs false

def pLine (l : List UInt8) : Except Nat ((ByteArray × Ln) × List UInt8) := match pText l with
  | .error c => .error c
  | .ok (n, l1) => match pNum 8 l1 with
    | .error c => .error c
    | .ok (d, l2) => match pNum 8 l2 with
      | .error c => .error c
      | .ok (g, l3) => match pNum 8 l3 with
        | .error c => .error c
        | .ok (e, l4) => .ok ((⟨n.toArray⟩, (d, d, g, e)), l4)
def lnBad (T : Tbl) (last : ByteArray) (x : ByteArray × Ln) : Bool := !lessB last x.1 || decide (64 < x.1.size) || decide (x.2.2.1 = 0) || decide (16 ≤ T.length)
def pLines : Nat → Tbl → ByteArray → List UInt8 → Except Nat (Tbl × List UInt8)
  | 0, T, _, l => .ok (T, l)
  | n + 1, T, last, l => match pLine l with
    | .error c => .error c
    | .ok (x, l') => if lnBad T last x then .error 23 else pLines n (setB T x.1 x.2) x.1 l'
def pTab (l : List UInt8) : Except Nat (Tbl × List UInt8) := match pNum 1 l with
  | .error c => .error c
  | .ok (n, l') => pLines n [] ⟨#[]⟩ l'
/-- A map's entry set. -/
theorem trep_set {σ : St} {t mp : Nat} {T : Tbl} (h : TRep σ t mp T) (n : ByteArray) (x : Ln) : ∃ σ', evalV σ (.mapSet false [2] (.map mp) (.str n) (lnV n x)) = some (.nilp, σ') ∧ TRep σ' t mp (setB T n x) ∧ σ'.next = σ.next ∧ ∀ a, a ≠ mp → σ'.mem.get a = σ.mem.get a := by
  have hh := h.head
  have hne := h.ne
  obtain ⟨clock, ents, hm, ha, hs, hd⟩ := h.map
  rcases findS (n := n) ha with ⟨f1, f2⟩ | ⟨i, y, f1, f2, f3⟩
  · refine ⟨⟨σ.mem.set mp (.map (clock + 1) (ents ++ [(clock, .str n, lnV n x)])), σ.next⟩, by simp [keyIs, shapeOk, kShape, hm, f1], ⟨by simp [hne, hh], ⟨clock + 1, ents ++ [(clock, .str n, lnV n x)], by simp, ?_, ?_, ?_⟩, setB_nodup h.keys, hne, h.lt⟩, rfl, fun a ha => by simp [ha]⟩
    · rw [setB_new f2]; exact All2.snoc ⟨rfl, rfl⟩ ha
    · intro e he
      rcases List.mem_append.1 he with he | he
      · have := hs e he; omega
      · simp at he; subst he; simp
    · rw [List.map_append, List.nodup_append]
      refine ⟨hd, by simp, ?_⟩
      rintro a ha b hb rfl
      simp at hb; subst hb
      have := stamps_lt.1 hs _ ha
      omega
  · refine ⟨⟨σ.mem.set mp (.map clock (ents.modify i fun e => (e.1, .str n, lnV n x))), σ.next⟩, by simp [keyIs, shapeOk, kShape, hm, f1], ⟨by simp [hne, hh], ⟨clock, ents.modify i fun e => (e.1, .str n, lnV n x), by simp, f3 _, ?_, ?_⟩, setB_nodup h.keys, hne, h.lt⟩, rfl, fun a ha => by simp [ha]⟩
    · rw [stamps_lt, stamps_modify (fun e => (e.1, AVal.str n, lnV n x)) (fun e => rfl), ← stamps_lt]; exact hs
    · rw [stamps_modify (fun e => (e.1, AVal.str n, lnV n x)) (fun e => rfl)]; exact hd

theorem strLeq (a b : ByteArray) : abinS .leq a b = some (.bool (!lessB b a)) := by
  have h1 : (lessB a b || decide (a = b)) = !lessB b a := by
    cases h : lessB a b with
    | true => rw [lessB_asymm h]; rfl
    | false =>
      cases k : lessB b a with
      | true =>
        have : ¬ a = b := fun e => by rw [e, lessB_irrefl] at k; cases k
        simp [this]
      | false => simp [lessB_tri h k]
  simp only [abinS, bLess, baEq, h1]
def TkJ (t mp r n : Nat) (lo : List UInt8) (len0 : Nat) (res : Except Nat (Tbl × List UInt8)) (c : Option Nat) (σ0 σt : St) (mm : Nat) (rg : Regs) (σ' : St) : Prop := ∃ (i : Nat) (S : Tbl) (last : ByteArray) (l : List UInt8), mm = n - i ∧ i ≤ n ∧ n < 256 ∧ pLines (n - i) S last l = res ∧ l.length ≤ len0 ∧ TRep σ' t mp S ∧ RR σ' r l c ∧ RStp r σ0 σ' ∧ rg = [(0, .ptr r 0), (3, .ptr t 0), (4, .str last), (8, .int .u8 (n : Int)), (9, .int .u8 (i : Int))]
set_option maxHeartbeats 2000000 in
theorem dtake_c {T : AVal → St → Prop} {σ : St} {r : Nat} {l : List UInt8} {c : Option Nat} {Q : AVal → St → Prop} (h : RR σ r l c) (hl : l.length ≤ 1000000000) (hT : ∀ e σ', pTab l = .error e → RStp r σ σ' → T (thrownV (e : Int)) σ')
    (hQ : ∀ S l' t mp σ', pTab l = .ok (S, l') → TRep σ' t mp S → RR σ' r l' c → RStp r σ σ' → σ.next ≤ t ∧ σ.next ≤ mp → Q (.ptr t 0) σ') : ACall (Env.th Tryd.prog T) 19 [.ptr r 0] σ Q := by
  refine ACall.of_compF hmx (fun a w => Tryd.call19 a w) Tryd.func19 cf19 (n := 1) (by decide) rfl ?_
  simp [ac19, rs19, lk_cons]
  refine ACall.into (tnew_c σ _ fun t mp σ1 hr hn1 hk1 hge => ?_)
  have hg1 : Grow σ σ1 := ⟨hn1, hk1⟩
  simp [lk_cons]
  refine ru8_c (h.grow hg1) (by omega) (fun e he => hT e σ1 (by rw [pTab, he]) (hg1.rstp r)) fun n l1 σ2 h1 h2 h3 => ?_
  have hnl := pNum_len h1
  have hrlt : r < σ.next := by obtain ⟨_, _, _, _, h⟩ := h; exact h
  have hcl : ∀ a, c = some a → a < σ.next := fun a ha => by obtain ⟨_, _, h, _⟩ := h; exact h.lt ha
  have hpt : pTab l = pLines n [] ⟨#[]⟩ l1 := by rw [pTab, h1]
  simp [lk_cons]
  refine wp_loop (TkJ t mp r n l1 l1.length (pTab l) c σ σ1) n ?_ ?_
  · exact ⟨0, [], ⟨#[]⟩, l1, rfl, Nat.zero_le _, by have := hnl.2; omega, by rw [hpt]; rfl, Nat.le_refl _, hr.frame (fun a ha => h3.keep a (by have := hr.lt; omega) (by omega)) h3.next, h2, (hg1.rstp r).trans h3, by simp [lk_cons]⟩
  · rintro mm rg σ3 ⟨i, S, last, l3, rfl, hi, hn256, hpl, hll, hr3, hrr, hst, rfl⟩
    by_cases hc : i < n
    · have hc' : (i : Int) < n := by omega
      have w1 : IntKind.u8.wrap ((i : Int) + 1) = ((i + 1 : Nat) : Int) := by rw [IntWalk.u8_in] <;> omega
      obtain ⟨m, hm⟩ : ∃ m, n - i = m + 1 := ⟨n - i - 1, by omega⟩
      have hm' : n - (i + 1) = m := by omega
      rw [hm, pLines] at hpl
      have err : ∀ e σ', pLine l3 = .error e → RStp r σ3 σ' → T (thrownV (e : Int)) σ' := fun e σ' he hs => hT e σ' (by rw [← hpl, he]) (hst.trans hs)
      simp [lk_cons, hc, hc']
      refine rtext_c hrr (by omega) (fun e σ' he hs => err e σ' (by rw [pLine, he]) hs) fun nb l4 σ4 k1 k2 k3 => ?_
      have kl := pText_len k1
      simp [lk_cons]
      refine ru64_c k2 (by omega) (fun e he => err e σ4 (by rw [pLine, k1]; simp only [he]) k3) fun d l5 σ5 m1 m2 m3 => ?_
      have ml := pNum_len m1
      simp [lk_cons]
      refine ru64_c m2 (by omega) (fun e he => err e σ5 (by rw [pLine, k1]; simp only [m1, he]) (k3.trans m3)) fun g l6 σ6 o1 o2 o3 => ?_
      have ol := pNum_len o1
      simp [lk_cons]
      refine ru64_c o2 (by omega) (fun e he => err e σ6 (by rw [pLine, k1]; simp only [m1, o1, he]) (k3.trans (m3.trans o3))) fun e l7 σ7 q1 q2 q3 => ?_
      have ql := pNum_len q1
      have st7 : RStp r σ3 σ7 := k3.trans (m3.trans (o3.trans q3))
      have hlt3 := hr3.lt
      have ht3 : t ≠ r ∧ mp ≠ r := by omega
      have hr7 : TRep σ7 t mp S := hr3.frame (fun a ha => st7.keep a (by omega) (by rcases ha with rfl | rfl; exact ht3.1; exact ht3.2)) st7.next
      have hline : pLine l3 = .ok ((⟨nb.toArray⟩, (d, d, g, e)), l7) := by rw [pLine, k1]; simp only [m1, o1, q1]
      rw [hline] at hpl
      simp only at hpl
      have hn7 := st7.next
      have z1 : ¬ t = σ7.next := by omega
      have z2 : ¬ mp = σ7.next := by omega
      obtain ⟨nm, hnm⟩ : ∃ nm : ByteArray, (⟨nb.toArray⟩ : ByteArray) = nm := ⟨_, rfl⟩
      rw [hnm] at hpl
      have hle := strLeq nm last
      have g8 : Grow σ7 ⟨((σ7.mem.set σ7.next (.cells 5 [.str ⟨#[]⟩, .int .u64 0, .int .u64 0, .int .u64 0, .int .u64 0])).set σ7.next (.cells 5 [.str nm, .int .u64 0, .int .u64 (d : Int), .int .u64 (g : Int), .int .u64 (e : Int)])).set σ7.next (.cells 5 [.str nm, .int .u64 (d : Int), .int .u64 (d : Int), .int .u64 (g : Int), .int .u64 (e : Int)]), σ7.next + 1⟩ := ⟨by simp, fun a ha => by simp [show ¬ a = σ7.next by omega]⟩
      obtain ⟨S8, hS8⟩ : ∃ S8 : St, S8 = ⟨((σ7.mem.set σ7.next (.cells 5 [.str ⟨#[]⟩, .int .u64 0, .int .u64 0, .int .u64 0, .int .u64 0])).set σ7.next (.cells 5 [.str nm, .int .u64 0, .int .u64 (d : Int), .int .u64 (g : Int), .int .u64 (e : Int)])).set σ7.next (.cells 5 [.str nm, .int .u64 (d : Int), .int .u64 (d : Int), .int .u64 (g : Int), .int .u64 (e : Int)]), σ7.next + 1⟩ := ⟨_, rfl⟩
      have m5 : S8.mem.get σ7.next = some (.cells 5 [.str nm, .int .u64 (d : Int), .int .u64 (d : Int), .int .u64 (g : Int), .int .u64 (e : Int)]) := by rw [hS8]; simp
      rw [← hS8] at g8
      have hr8 : TRep S8 t mp S := hr7.frame (fun a ha => g8.2 a (by omega)) g8.1
      have hh8 := hr8.head
      obtain ⟨clock, ents, hm8, ha8, _, _⟩ := hr8.map
      have hel := ha8.len
      have bad : lnBad S last (nm, (d, d, g, e)) = true → T (thrownV 23) S8 := fun hb => by
        rw [hb] at hpl
        exact hT 23 S8 hpl.symm (hst.trans (st7.trans (g8.rstp r)))
      simp [lk_cons, hnm, fillL, storeL]
      rw [← hS8]
      cases hls : lessB last nm with
      | false =>
        have hb := bad (by simp [lnBad, hls])
        rw [hls] at hle
        simp [lk_cons, hle, m5]
        refine fail_c (fun _ => hb) fun h => (by cases h)
      | true =>
      rw [hls] at hle
      by_cases h64 : 64 < nm.size
      · have hb := bad (by simp [lnBad, h64])
        have h64' : (64 : Int) < nm.size := by omega
        simp [lk_cons, hle, m5, h64, h64']
        refine fail_c (fun _ => hb) fun h => (by cases h)
      have h64' : ¬ (64 : Int) < nm.size := by omega
      by_cases hd0 : d = 0
      · have hb := bad (by simp [lnBad, hd0])
        have hd0' : (d : Int) = 0 := by omega
        simp [lk_cons, hle, m5, h64, h64', hd0, hd0']
        refine fail_c (fun _ => hb) fun h => (by cases h)
      have hd0' : ¬ (d : Int) = 0 := by omega
      by_cases h16 : 16 ≤ S.length
      · have hb := bad (by simp [lnBad, h16])
        have h16' : 16 ≤ ents.length := by omega
        have h16'' : (16 : Int) ≤ ents.length := by omega
        simp [lk_cons, hle, m5, h64, h64', hd0, hd0', hh8, hm8, h16', h16'']
        refine fail_c (fun _ => hb) fun h => (by cases h)
      have h16' : ¬ 16 ≤ ents.length := by omega
      have h16'' : ¬ (16 : Int) ≤ ents.length := by omega
      have good : lnBad S last (nm, (d, d, g, e)) = false := by
        have a1 : ¬ 64 < nm.size := h64
        simp [lnBad, hls, hd0]; omega
      rw [good] at hpl
      simp at hpl
      obtain ⟨S9, e9, t9, n9, k9⟩ := trep_set hr8 nm (d, d, g, e)
      simp only [lnV] at e9
      simp [lk_cons, hle, m5, h64, h64', hd0, hd0', hh8, hm8, h16', h16'', -Mem.get_set, ↓e9, w1]
      have st8 := hst.trans (st7.trans (g8.rstp r))
      have st9 : RStp r σ S9 := ⟨by rw [n9]; exact st8.next, fun a ha har => by rw [k9 a (by omega)]; exact st8.keep a ha har⟩
      refine ⟨n - (i + 1), by omega, i + 1, _, nm, l7, rfl, by omega, hn256, by rw [hm']; exact hpl, by omega, t9, (q2.grow g8).keep (by omega) fun a ha hac => ?_, st9, by simp⟩
      rcases hac with rfl | hac
      · exact k9 _ (by omega)
      · have := hcl a hac
        exact k9 a (by omega)
    · have : i = n := by omega
      subst this
      rw [Nat.sub_self, pLines] at hpl
      simp [lk_cons]
      exact hQ S l3 t mp σ3 hpl.symm hr3 hrr hst hge
end Go.Proofs.YtieieknhhfallaaDoor.AM

/- pack.Read, by what takes the bytes. -/
namespace Go.Proofs.YtieieknhhfallaaDoor.AM
open Go.RowKit
set_option maxRecDepth 100000
set_option linter.unusedVariables false
set_option linter.unusedSimpArgs false

theorem read_g {X : Type} {σ : St} {bv : AVal} {l : List UInt8} {c : Option Nat} (hb : RdB σ bv l c) {g cell : Nat} (hcell : cell < σ.next) {res : Except Nat (X × List UInt8)} {Post : X → St → St → Prop} (Q : AVal → St → Prop)
    (hcall : ∀ (T : AVal → St → Prop) (r : Nat) (σ1 : St) (K : AVal → St → Prop), RR σ1 r l c → σ.next ≤ r → Grow σ σ1 → (∀ e σ', res = .error e → RStp r σ1 σ' → T (thrownV (e : Int)) σ') →
      (∀ x l' σ', res = .ok (x, l') → RR σ' r l' c → Post x σ1 σ' → σ1.next ≤ σ'.next → (∀ a, a < σ1.next → a ≠ r → a ≠ cell → σ'.mem.get a = σ1.mem.get a) → K (.tup []) σ') → ACall (Env.th Tryd.prog T) g [.ptr r 0, .ptr cell 0] σ1 K)
    (hE : ∀ e σ', res = .error e → Grow σ σ' → Q (.int .i64 (e : Int)) σ')
    (hK : ∀ x l' σ1 σ' σ2, res = .ok (x, l') → Post x σ1 σ' → Grow σ σ1 → σ.next < σ1.next → (∀ a, a ≠ σ.next → σ2.mem.get a = σ'.mem.get a) → σ2.next = σ'.next → σ1.next ≤ σ'.next → (∀ a, a < σ.next → a ≠ cell → σ'.mem.get a = σ.mem.get a) → Q (.int .i64 (if l' = [] then 0 else 5)) σ2) : ACall Tryd.prog 17 [bv, .fn g [] [.ptr cell 0]] σ Q := by
  refine read_c Q ?_
  have hone := hb.one
  have e1 : ¬ σ.next = σ.next + 1 := by omega
  simp [cOf, ac17, lk_cons, fillL, storeL, hone]
  refine hcall _ (σ.next + 1) _ _ ⟨bv, by simp [storeL], hb.keep (by simp; omega) fun a ha _ => by simp [show ¬ a = σ.next by omega, show ¬ a = σ.next + 1 by omega], fun e => by have := hb.lt e; omega, by simp⟩ (by omega) ⟨by simp; omega, fun a ha => by simp [show ¬ a = σ.next by omega, show ¬ a = σ.next + 1 by omega]⟩ (fun e σ' he hs => ?_) (fun x l' σ' hx hr hp hn hk => ?_)
  · have hm := hs.keep σ.next (by simp; omega) (by omega)
    simp [e1] at hm
    refine ⟨(e : Int), rfl, ⟨0, hm⟩, hE e _ he ⟨by have := hs.next; simp at this ⊢; omega, fun a ha => ?_⟩⟩
    have := hs.keep a (by simp; omega) (by omega)
    simp [show ¬ a = σ.next by omega, show ¬ a = σ.next + 1 by omega] at this ⊢
    exact this
  · obtain ⟨v', h1, h2, h3, h4⟩ := hr
    have hlen := h2.len
    have hm := hk σ.next (by simp; omega) (by omega) (by omega)
    simp [e1] at hm
    have hn' : σ.next + 1 + 1 ≤ σ'.next := by simpa using hn
    have hg : Grow σ ⟨(σ.mem.set σ.next (.cells 1 [.int .i64 0])).set (σ.next + 1) (.cells 1 [bv]), σ.next + 1 + 1⟩ := ⟨by simp; omega, fun a ha => by simp [show ¬ a = σ.next by omega, show ¬ a = σ.next + 1 by omega]⟩
    have hq := fun (b : Blk) => hK x l' _ σ' ⟨σ'.mem.set σ.next b, σ'.next⟩ hx hp (by simpa [storeL] using hg) (by simp; omega) (fun a ha => by simp [ha]) rfl hn (fun a ha hac => by
      have := hk a (by simp; omega) (by omega) hac
      simp [show ¬ a = σ.next by omega, show ¬ a = σ.next + 1 by omega] at this
      exact this)
    cases l' with
    | nil =>
      simp [lk_cons, h1, ↓hlen, hm, storeL, rs17]
      simpa using hq _
    | cons y l' =>
      have hp : (0 : Int) < ((y :: l').length : Int) := by simp only [List.length_cons]; omega
      obtain ⟨N, hN⟩ : ∃ N, (y :: l').length = N := ⟨_, rfl⟩
      simp only [hN] at hlen hp
      have hp' : 0 < N := by omega
      simp [lk_cons, h1, ↓hlen, hm, storeL, rs17, hp, hp']
      simpa using hq _
end Go.Proofs.YtieieknhhfallaaDoor.AM

/- A table's bytes are read as the table. -/
namespace Go.Proofs.YtieieknhhfallaaDoor.AM
open Go.RowKit
set_option maxRecDepth 100000
set_option linter.unusedVariables false
set_option linter.unusedSimpArgs false

theorem be_cons (x : UInt8) (l : List UInt8) : be (x :: l) = x.toNat * 256 ^ l.length + be l := by
  have gen : ∀ (l : List UInt8) (a : Nat), l.foldl (fun a b => a * 256 + b.toNat) a = a * 256 ^ l.length + be l := by
    intro l
    induction l with
    | nil => intro a; simp [be]
    | cons y l ih =>
      intro a
      simp only [be, List.foldl_cons, List.length_cons] at ih ⊢
      rw [ih, ih (0 * 256 + y.toNat), Nat.pow_succ]
      rw [Nat.add_mul, Nat.add_mul, Nat.mul_assoc, Nat.mul_comm 256]
      omega
  have := gen l (0 * 256 + x.toNat)
  simpa [be] using this
theorem be_beN (n : Nat) : ∀ k, be (beN k n) = n % 256 ^ k
  | 0 => by simp [beN, be, Nat.mod_one]
  | k + 1 => by
    rw [beN, be_cons, beN_len, be_beN n k, Nat.pow_succ]
    have h1 : (UInt8.ofNat (n / 256 ^ k)).toNat = n / 256 ^ k % 256 := by simp
    rw [h1, Nat.mod_mul, Nat.add_comm, Nat.mul_comm]
theorem pNum_beN {k n : Nat} (h : n < 256 ^ k) (l : List UInt8) : pNum k (beN k n ++ l) = .ok (n, l) := by
  have hl : (beN k n ++ l).length = k + l.length := by simp [beN_len]
  have h1 : (beN k n ++ l).take k = beN k n := by rw [List.take_append_of_le_length (by rw [beN_len]; exact Nat.le_refl _), List.take_of_length_le (by rw [beN_len]; exact Nat.le_refl _)]
  have h2 : (beN k n ++ l).drop k = l := by rw [List.drop_append_of_le_length (by rw [beN_len]; exact Nat.le_refl _), List.drop_of_length_le (by rw [beN_len]; exact Nat.le_refl _)]; rfl
  rw [pNum, if_neg (by omega), h1, h2, be_beN, Nat.mod_eq_of_lt h]
theorem pBytes_of {b : List UInt8} (h : b.length < 4294967296) (l : List UInt8) : pBytes (beN 4 b.length ++ (b ++ l)) = .ok (b, l) := by
  rw [pBytes, pNum_beN (by simpa using h)]
  simp
theorem pText_of {b : List UInt8} (h : b.length < 4294967296) (hv : vld b = true) (l : List UInt8) : pText (beN 4 b.length ++ (b ++ l)) = .ok (b, l) := by
  rw [pText, pBytes_of h]
  simp [hv]
/-- Names as they may be. -/
def NmOk (p : ByteArray × Ln) : Prop := 1 ≤ p.1.size ∧ p.1.size ≤ 64 ∧ vld p.1.data.toList = true
def topd (p : ByteArray × Ln) : ByteArray × Ln := (p.1, (p.2.2.1, p.2.2))
theorem pLine_of {x : ByteArray × Ln} (h : NmOk x) (hk : LnOk x) (l : List UInt8) : pLine (lnB x ++ l) = .ok (topd x, l) := by
  obtain ⟨n, a, d, g, e⟩ := x
  obtain ⟨h1, h2, h3⟩ := h
  obtain ⟨_, _, k2, k3, k4⟩ := hk
  simp only at h1 h2 h3 k2 k3 k4
  have hl : n.data.toList.length = n.size := by simp
  have e64 : (18446744073709551616 : Nat) = 256 ^ 8 := by decide
  rw [e64] at k2 k3 k4
  have e1 : lnB (n, a, d, g, e) ++ l = beN 4 n.data.toList.length ++ (n.data.toList ++ (beN 8 d ++ (beN 8 g ++ (beN 8 e ++ l)))) := by
    simp [lnB, hl, List.append_assoc]
  rw [e1, pLine, pText_of (by omega) h3]
  simp only [pNum_beN k2, pNum_beN k3, pNum_beN k4, topd]
theorem pLines_of : ∀ (xs : Tbl) (T : Tbl) (last : ByteArray) (l : List UInt8), (∀ x ∈ xs, NmOk x ∧ LnOk x ∧ x.2.2.1 ≠ 0) → (xs.Pairwise fun a b => lessB a.1 b.1 = true) → (∀ x ∈ xs, lessB last x.1 = true) → (∀ p ∈ T, ∀ x ∈ xs, lessB p.1 x.1 = true) → T.length + xs.length ≤ 16 →
    pLines xs.length T last (lnsB xs ++ l) = .ok (T ++ xs.map topd, l)
  | [], T, last, l, _, _, _, _, _ => by simp [pLines, lnsB]
  | x :: xs, T, last, l, hk, hp, hl, hT, hn => by
    simp only [List.length_cons] at hn
    obtain ⟨k1, k2, k3⟩ := hk x (by simp)
    have e1 : lnsB (x :: xs) ++ l = lnB x ++ (lnsB xs ++ l) := by simp [lnsB]
    rw [List.length_cons, pLines, e1, pLine_of k1 k2]
    have hb : lnBad T last (topd x) = false := by
      have h1 : decide (64 < (topd x).1.size) = false := decide_eq_false (by have := k1.2.1; show ¬ 64 < x.1.size; omega)
      have h2 : decide ((topd x).2.2.1 = 0) = false := decide_eq_false k3
      have h3 : decide (16 ≤ T.length) = false := decide_eq_false (by omega)
      have h4 : lessB last (topd x).1 = true := hl x (by simp)
      rw [lnBad, h1, h2, h3, h4]; rfl
    simp only [hb, Bool.false_eq_true, if_false]
    have hnew : lkB T (topd x).1 = none := by
      rw [lkB_none]
      intro hm
      obtain ⟨p, hp, he⟩ := List.mem_map.1 hm
      have := hT p hp x (by simp)
      rw [he] at this
      simp only [topd] at this
      rw [lessB_irrefl] at this; cases this
    rw [setB_new hnew]
    have hp' := List.pairwise_cons.1 hp
    have ih := pLines_of xs (T ++ [topd x]) (topd x).1 l (fun y hy => hk y (by simp [hy])) hp'.2 (fun y hy => hp'.1 y hy) (fun p hpm y hy => by
      rcases List.mem_append.1 hpm with hpm | hpm
      · exact hT p hpm y (by simp [hy])
      · simp at hpm; subst hpm; exact hp'.1 y hy) (by simp; omega)
    rw [List.append_assoc] at ih
    exact ih
theorem fgt_dn (T : Tbl) : fgt T = (dn T).map topd := rfl
theorem empty_less {n : ByteArray} (h : 1 ≤ n.size) : lessB ⟨#[]⟩ n = true := by
  have hl : n.data.toList.length = n.size := by simp
  unfold lessB
  cases hn : n.data.toList with
  | nil => rw [hn] at hl; simp at hl; omega
  | cons a t => simp
theorem ris_pair : ∀ {T : Tbl}, RisL T → (T.map (·.1)).Nodup → T.Pairwise fun a b => lessB a.1 b.1 = true
  | [], _, _ => List.Pairwise.nil
  | x :: T, h, hn => by
    simp only [List.map_cons, List.nodup_cons] at hn
    refine List.pairwise_cons.2 ⟨fun y hy => ?_, ris_pair h.tail hn.2⟩
    obtain ⟨j, hj⟩ := List.getElem?_of_mem hy
    have h1 := h 0 (j + 1) x y (by omega) rfl (by simpa using hj)
    cases h2 : lessB x.1 y.1 with
    | true => rfl
    | false => exact absurd (List.mem_map.2 ⟨y, hy, (lessB_tri h2 h1).symm⟩) hn.1
theorem ris_sub {S T : Tbl} (h : S.Sublist T) (hp : T.Pairwise fun a b => lessB a.1 b.1 = true) : S.Pairwise fun a b => lessB a.1 b.1 = true := hp.sublist h
/-- A table's bytes. -/
theorem pTab_enc {ys : Tbl} (hr : RisL ys) (hn : (ys.map (·.1)).Nodup) (hk : ∀ x ∈ ys, NmOk x ∧ LnOk x) (hl : ys.length ≤ 16) : pTab (encT ys) = .ok (fgt ys, []) := by
  have hdl := dn_len ys
  have hd : ∀ x ∈ dn ys, NmOk x ∧ LnOk x ∧ x.2.2.1 ≠ 0 := fun x hx => by
    obtain ⟨h1, h2⟩ := List.mem_filter.1 hx
    exact ⟨(hk x h1).1, (hk x h1).2, by simpa using h2⟩
  rw [pTab, encT, pNum_beN (by simp; omega)]
  have := pLines_of (dn ys) [] ⟨#[]⟩ [] hd (ris_sub List.filter_sublist (ris_pair hr hn)) (fun x hx => empty_less (hd x hx).1.1) (fun p hp => by cases hp) (by simp; omega)
  simp only [List.append_nil, List.nil_append] at this
  rw [fgt_dn]
  exact this
end Go.Proofs.YtieieknhhfallaaDoor.AM

/- One sender's table: what is begun, done, forgotten, written and taken. -/
namespace Go.Proofs.YtieieknhhfallaaDoor.AM
open Go.RowKit
set_option maxRecDepth 100000
set_option linter.unusedVariables false
set_option linter.unusedSimpArgs false

def pN : ByteArray := ⟨#[112]⟩
def onT (D P e : Nat) : Tbl := if P = 0 then [] else [(pN, (P, D, 0, e))]
theorem onT_lk (D P e : Nat) : lkB (onT D P e) pN = if P = 0 then none else some (P, D, 0, e) := by
  unfold onT
  split <;> simp [lkB]
theorem pN_size : pN.size = 1 := rfl
theorem onT_beg {D P e n : Nat} (hn : 1 ≤ n) (hD : D ≤ P) (hD0 : P = 0 → D = 0 ∧ e = 0) : begC (onT D P e) pN n = (if n ≤ D then 40 else if n ≤ P then 41 else 0) ∧ begT (onT D P e) pN n = onT D (max P n) e := by
  have h0 : ¬ (pN.size = 0 ∨ 64 < pN.size) := by rw [pN_size]; omega
  have hc : begC (onT D P e) pN n = (if n ≤ D then 40 else if n ≤ P then 41 else 0) := by
    rw [begC, if_neg h0, if_neg (by omega), onT_lk]
    by_cases hP : P = 0
    · have hl : ¬ 16 ≤ (onT D P e).length := by simp [onT, hP]
      simp only [if_pos hP, if_neg hl]
      rw [if_neg (by omega), if_neg (by omega)]
    · simp only [if_neg hP]
  refine ⟨hc, ?_⟩
  rw [begT, hc]
  by_cases h1 : n ≤ D
  · rw [if_pos h1, if_neg (by decide), Nat.max_eq_left (by omega)]
  · rw [if_neg h1]
    by_cases h2 : n ≤ P
    · rw [if_pos h2, if_neg (by decide), Nat.max_eq_left h2]
    · rw [if_neg h2, if_pos rfl, Nat.max_eq_right (by omega), onT_lk]
      by_cases hP : P = 0
      · obtain ⟨rfl, rfl⟩ := hD0 hP
        subst hP
        have : ¬ n = 0 := by omega
        simp [onT, setB, this]
      · have : ¬ n = 0 := by omega
        simp [onT, setB, hP, this]
theorem onT_done {D P e n : Nat} (hn : 1 ≤ n) (hnP : n ≤ P) : doneC (onT D P e) pN n = (if n ≤ D then 40 else 0) ∧ doneT (onT D P e) pN n (0, n) = onT (max D n) P (if n ≤ D then e else n) := by
  have hP : ¬ P = 0 := by omega
  have hc : doneC (onT D P e) pN n = (if n ≤ D then 40 else 0) := by
    rw [doneC, onT_lk, if_neg hP]
    simp only
    rw [if_neg (by omega)]
  refine ⟨hc, ?_⟩
  rw [doneT, hc]
  by_cases h1 : n ≤ D
  · rw [if_pos h1, if_neg (by decide), Nat.max_eq_left h1, if_pos h1]
  · rw [if_neg h1, if_pos rfl, Nat.max_eq_right (by omega), if_neg h1, onT_lk, if_neg hP]
    simp [onT, setB, hP]
theorem onT_fgt {D P e : Nat} (hD : D ≤ P) : fgt (onT D P e) = onT D D e := by
  by_cases hP : P = 0
  · have : D = 0 := by omega
    simp [onT, fgt, hP, this]
  · by_cases hD0 : D = 0
    · simp [onT, fgt, hP, hD0]
    · simp [onT, fgt, hP, hD0]
theorem onT_keys (D P e : Nat) : ((onT D P e).map (·.1)).Nodup := by
  unfold onT; split <;> simp
theorem onT_perm {D P e : Nat} {ys : Tbl} (h : ys.Perm (onT D P e)) : ys = onT D P e := by
  unfold onT at h ⊢
  split
  · rename_i hP; rw [if_pos hP] at h; exact h.eq_nil
  · rename_i hP; rw [if_neg hP] at h; exact List.perm_singleton.1 h
theorem pN_vld : vld pN.data.toList = true := vld_all fun x hx => by
  have : x = 112 := by simpa [pN] using hx
  subst this; decide
theorem onT_ok {D P e : Nat} (hP : P < 18446744073709551616) (hD : D ≤ P) (he : e < 18446744073709551616) : ∀ x ∈ onT D P e, NmOk x ∧ LnOk x := by
  intro x hx
  unfold onT at hx
  split at hx
  · cases hx
  · simp at hx; subst hx
    exact ⟨⟨by show 1 ≤ 1; omega, by show 1 ≤ 64; omega, pN_vld⟩, ⟨by show 1 ≤ 1000; omega, hP, by show D < _; omega, by show 0 < _; omega, he⟩⟩
theorem onT_len (D P e : Nat) : (onT D P e).length ≤ 1 := by unfold onT; split <;> simp

def rw16 : Rw Nat 1 := ⟨fun n => [.int .u16 (n : Int)], fun _ => rfl, fun _ => rfl⟩
/-- A slice that does not change. -/
def IS {α : Type} {k : Nat} (R : Rw α k) (v : AVal) (l : List α) : Prop := v = .nilsl ∧ l = [] ∨ ∃ t, v = .isl (rws R l) l.length t
theorem IS.len {α : Type} {k : Nat} {R : Rw α k} {v : AVal} {l : List α} (h : IS R v l) (ρ : St) : evalV ρ (.len 1 v) = some (.int .i64 (l.length : Int), ρ) := by
  rcases h with ⟨rfl, rfl⟩ | ⟨t, rfl⟩ <;> simp
theorem IS.at {α : Type} {k : Nat} {R : Rw α k} {v : AVal} {l : List α} (h : IS R v l) {i : Nat} {x : α} (hx : l[i]? = some x) (ρ : St) : evalV ρ (.idxAddr k v (.int .i64 (i : Int))) = some (.iptr (R.a x), ρ) := by
  have hi := (List.getElem?_eq_some_iff.1 hx).1
  rcases h with ⟨rfl, rfl⟩ | ⟨t, rfl⟩
  · simp at hx
  · have := rws_at R hx
    simp [hi, this]
/-- What Take gives to the variable. -/
theorem once1_c {T : AVal → St → Prop} {σ : St} {r tc : Nat} {l : List UInt8} {c : Option Nat} {K : AVal → St → Prop} (h : RR σ r l c) (hl : l.length ≤ 1000000000) {old : AVal} (htc : σ.mem.get tc = some (.cells 1 [old])) (htl : tc < σ.next) (hrt : tc ≠ r) (hct : c ≠ some tc) (hT : ∀ e σ', pTab l = .error e → RStp r σ σ' → T (thrownV (e : Int)) σ')
    (hK : ∀ S l' σ', pTab l = .ok (S, l') → RR σ' r l' c → (∃ t mp, TRep σ' t mp S ∧ σ'.mem.get tc = some (.cells 1 [.ptr t 0]) ∧ σ.next ≤ t ∧ σ.next ≤ mp) → σ.next ≤ σ'.next → (∀ a, a < σ.next → a ≠ r → a ≠ tc → σ'.mem.get a = σ.mem.get a) → K (.tup []) σ') : ACall (Env.th Tryd.prog T) 18 [.ptr r 0, .ptr tc 0] σ K := by
  refine ACall.of_compF hmx (fun a w => Tryd.call18 a w) Tryd.func18 cf18 (n := 2) (by decide) rfl ?_
  simp [ac18, rs18, lk_cons]
  refine dtake_c h hl hT fun S l' t mp σ1 h1 h2 h3 h4 h5 => ?_
  have hm := (h4.keep tc htl hrt).trans htc
  have hn := h4.next
  simp [lk_cons, hm, storeL]
  refine hK S l' _ h1 (h3.keep (by simp) fun a ha hac => ?_) ⟨t, mp, h2.frame (fun a ha => ?_) (by simp), by simp, h5.1, h5.2⟩ (by simp; omega) (fun a ha har hat => by simp [hat]; exact h4.keep a ha har)
  · have : a ≠ tc := by
      rcases hac with rfl | hac
      · exact fun e => hrt e.symm
      · exact fun e => hct (by rw [hac, e])
    simp [this]
  · have : a ≠ tc := by rcases ha with rfl | rfl <;> omega
    simp [this]
end Go.Proofs.YtieieknhhfallaaDoor.AM

/- What a table's changes keep. -/
namespace Go.Proofs.YtieieknhhfallaaDoor.AM
set_option maxRecDepth 100000
set_option linter.unusedVariables false
set_option linter.unusedSimpArgs false

theorem setB_mem {n : ByteArray} {y : Ln} {x : ByteArray × Ln} : ∀ {T : Tbl}, x ∈ setB T n y → x = (n, y) ∨ x ∈ T
  | [], h => by simp [setB] at h; exact .inl h
  | (k, z) :: T, h => by
    simp only [setB] at h
    split at h
    · rcases List.mem_cons.1 h with h | h
      · exact .inl h
      · exact .inr (List.mem_cons_of_mem _ h)
    · rcases List.mem_cons.1 h with h | h
      · exact .inr (h ▸ List.mem_cons_self)
      · exact (setB_mem h).imp id (List.mem_cons_of_mem _)
theorem lkB_mem {n : ByteArray} {y : Ln} : ∀ {T : Tbl}, lkB T n = some y → (n, y) ∈ T
  | (k, z) :: T, h => by
    simp only [lkB] at h
    split at h
    · rename_i hk; cases h; subst hk; exact List.mem_cons_self
    · exact List.mem_cons_of_mem _ (lkB_mem h)
theorem begT_ok {T : Tbl} {n : ByteArray} {q : Nat} (hq : q < 18446744073709551616) (h : ∀ x ∈ T, LnOk x) (hl : T.length ≤ 16) : (∀ x ∈ begT T n q, LnOk x) ∧ (begT T n q).length ≤ 16 := by
  unfold begT
  by_cases hc : begC T n q = 0
  · rw [if_pos hc]
    have hn : ¬ (n.size = 0 ∨ 64 < n.size) := fun he => by rw [begC, if_pos he] at hc; omega
    refine ⟨fun x hx => ?_, ?_⟩
    · rcases setB_mem hx with rfl | hx
      · cases hk : lkB T n with
        | none => exact ⟨by show n.size ≤ 1000; omega, hq, by show (0 : Nat) < _; omega, by show (0 : Nat) < _; omega, by show (0 : Nat) < _; omega⟩
        | some z =>
          have hz := h _ (lkB_mem hk)
          exact ⟨hz.1, hq, hz.2.2⟩
      · exact h x hx
    · rw [setB_len]
      split
      · rename_i hk
        rw [begC, if_neg hn] at hc
        split at hc
        · omega
        · rw [hk] at hc; simp at hc; omega
      · exact hl
  · rw [if_neg hc]; exact ⟨h, hl⟩
theorem doneT_ok {T : Tbl} {n : ByteArray} {q : Nat} {p : Nat × Nat} (hq : q < 18446744073709551616) (hp : p.1 < 18446744073709551616 ∧ p.2 < 18446744073709551616) (h : ∀ x ∈ T, LnOk x) (hl : T.length ≤ 16) : (∀ x ∈ doneT T n q p, LnOk x) ∧ (doneT T n q p).length ≤ 16 := by
  unfold doneT
  by_cases hc : doneC T n q = 0
  · rw [if_pos hc]
    cases hk : lkB T n with
    | none => rw [doneC, hk] at hc; simp at hc
    | some z =>
      have hz := h _ (lkB_mem hk)
      refine ⟨fun x hx => ?_, by rw [setB_len, hk]; simpa using hl⟩
      rcases setB_mem hx with rfl | hx
      · exact ⟨hz.1, hz.2.1, hq, hp⟩
      · exact h x hx
  · rw [if_neg hc]; exact ⟨h, hl⟩
theorem fgt_ok {T : Tbl} (h : ∀ x ∈ T, LnOk x) (hl : T.length ≤ 16) : (∀ x ∈ fgt T, LnOk x) ∧ (fgt T).length ≤ 16 := by
  refine ⟨fun x hx => ?_, Nat.le_trans (fgt_len T) hl⟩
  simp only [fgt, List.mem_map, List.mem_filter] at hx
  obtain ⟨p, ⟨hp, _⟩, rfl⟩ := hx
  have := h p hp
  exact ⟨this.1, this.2.2.1, this.2.2⟩

end Go.Proofs.YtieieknhhfallaaDoor.AM

/- A table taken, and all of it: DedupBack. -/
namespace Go.Proofs.YtieieknhhfallaaDoor.AM
open Go.RowKit
set_option maxRecDepth 100000
set_option linter.unusedVariables false
set_option linter.unusedSimpArgs false

theorem pLines_len : ∀ (n : Nat) (T : Tbl) (last : ByteArray) (l : List UInt8) (S : Tbl) (l' : List UInt8), pLines n T last l = .ok (S, l') → T.length ≤ 16 → S.length ≤ 16
  | 0, T, last, l, S, l', h, hT => by simp only [pLines, Except.ok.injEq, Prod.mk.injEq] at h; rw [← h.1]; exact hT
  | n + 1, T, last, l, S, l', h, hT => by
    rw [pLines] at h
    split at h
    · cases h
    · rename_i x l1 _
      split at h
      · cases h
      · rename_i hb
        refine pLines_len n _ _ _ S l' h ?_
        rw [setB_len]
        have : ¬ 16 ≤ T.length := fun h16 => hb (by simp [lnBad, h16])
        split <;> omega
theorem pTab_len {l : List UInt8} {S : Tbl} {l' : List UInt8} (h : pTab l = .ok (S, l')) : S.length ≤ 16 := by
  rw [pTab] at h
  split at h
  · cases h
  · exact pLines_len _ _ _ _ _ _ h (by simp)
theorem pText_err {l : List UInt8} {e : Nat} (h : pText l = .error e) : e ≠ 0 := by
  rw [pText] at h
  split at h
  · rename_i c hc
    cases h
    rw [pBytes] at hc
    split at hc
    · rename_i c' hc'
      cases hc
      rw [pNum] at hc'
      split at hc' <;> cases hc'
      decide
    · split at hc <;> cases hc
      decide
  · split at h <;> cases h
    decide
theorem pNum_err {k : Nat} {l : List UInt8} {e : Nat} (h : pNum k l = .error e) : e ≠ 0 := by
  rw [pNum] at h
  split at h <;> cases h
  decide
theorem pLine_err {l : List UInt8} {e : Nat} (h : pLine l = .error e) : e ≠ 0 := by
  rw [pLine] at h
  split at h
  · rename_i h1; cases h; exact pText_err h1
  · split at h
    · rename_i h1; cases h; exact pNum_err h1
    · split at h
      · rename_i h1; cases h; exact pNum_err h1
      · split at h
        · rename_i h1; cases h; exact pNum_err h1
        · cases h
theorem pLines_err : ∀ (n : Nat) (T : Tbl) (last : ByteArray) (l : List UInt8) (e : Nat), pLines n T last l = .error e → e ≠ 0
  | 0, T, last, l, e, h => by cases h
  | n + 1, T, last, l, e, h => by
    rw [pLines] at h
    split at h
    · rename_i h1; cases h; exact pLine_err h1
    · split at h
      · cases h; decide
      · exact pLines_err n _ _ _ e h
theorem pTab_err {l : List UInt8} {e : Nat} (h : pTab l = .error e) : e ≠ 0 := by
  rw [pTab] at h
  split at h
  · rename_i h1; cases h; exact pNum_err h1
  · exact pLines_err _ _ _ _ _ h

theorem taken1_c {T : AVal → St → Prop} {σ : St} {r tc : Nat} {l : List UInt8} {c : Option Nat} {K : AVal → St → Prop} (h : RR σ r l c) (hl : l.length ≤ 1000000000) {old : AVal} (htc : σ.mem.get tc = some (.cells 1 [old])) (htl : tc < σ.next) (hrt : tc ≠ r) (hct : c ≠ some tc) (hT : ∀ e σ', pTab l = .error e → RStp r σ σ' → T (thrownV (e : Int)) σ')
    (hK : ∀ S l' σ', pTab l = .ok (S, l') → RR σ' r l' c → (∃ v ys b', ys.Perm S ∧ RisL ys ∧ GS rwL σ' v ys b' ∧ (∀ x, b' = some x → σ.next ≤ x) ∧ σ'.mem.get tc = some (.cells 1 [v])) → σ.next ≤ σ'.next → (∀ a, a < σ.next → a ≠ r → a ≠ tc → σ'.mem.get a = σ.mem.get a) → K (.tup []) σ') : ACall (Env.th Tryd.prog T) 24 [.ptr r 0, .ptr tc 0] σ K := by
  refine ACall.of_compF hmx (fun a w => Tryd.call24 a w) Tryd.func24 cf24 (n := 2) (by decide) rfl ?_
  simp [ac24, rs24, lk_cons]
  refine dtake_c h hl hT fun S l' t mp σ1 h1 h2 h3 h4 h5 => ?_
  have hS := pTab_len h1
  simp [lk_cons]
  refine ACall.into (all_c h2 (by omega) _ fun v ys σ2 b' p1 p2 p3 p4 p5 => ?_)
  have hm := (p5.2 tc (by have := h4.next; omega)).trans ((h4.keep tc htl hrt).trans htc)
  have hn := h4.next
  have hn2 := p5.1
  simp [lk_cons, hm, storeL, p3.one]
  have hbt : b' ≠ some tc := fun e => by have := p4 tc e; omega
  refine hK S l' _ h1 ((h3.grow p5).keep (by simp) fun a ha hac => ?_) ⟨v, ys, b', p1, p2, p3.keep (by simp) fun a ha hb => ?_, fun x hx => by have := p4 x hx; omega, by simp⟩ (by simp; omega) (fun a ha har hat => by simp [hat]; rw [p5.2 a (by omega)]; exact h4.keep a ha har)
  · have : a ≠ tc := by
      rcases hac with rfl | hac
      · exact fun e => hrt e.symm
      · exact fun e => hct (by rw [hac, e])
    simp [this]
  · have : a ≠ tc := fun e => hbt (by rw [hb, e])
    simp [this]
theorem taken_c {σ : St} {bv : AVal} {l : List UInt8} {c : Option Nat} (hb : RdB σ bv l c) (hl : l.length ≤ 1000000000) (Q : AVal → St → Prop)
    (hE : ∀ e σ', pTab l = .error e → Grow σ σ' → Q (.tup [.nilsl, i64 (e : Nat)]) σ') (hR : ∀ S l' σ', pTab l = .ok (S, l') → l' ≠ [] → Grow σ σ' → Q (.tup [.nilsl, i64 5]) σ')
    (hO : ∀ S v ys b' σ', pTab l = .ok (S, []) → ys.Perm S → RisL ys → GS rwL σ' v ys b' → (∀ x, b' = some x → σ.next ≤ x) → Grow σ σ' → Q (.tup [v, i64 0]) σ') : ACall Tryd.prog 12 [bv] σ Q := by
  refine ACall.of_compF hmx (fun a w => Tryd.call12 a w) Tryd.func12 cf12 (n := 1) (by decide) rfl ?_
  simp [ac12, rs12, lk_cons]
  have hg0 : Grow σ ⟨σ.mem.set σ.next (.cells 1 [.nilsl]), σ.next + 1⟩ := ⟨by simp, fun a ha => by simp [show ¬ a = σ.next by omega]⟩
  refine read_g (X := Tbl) (res := pTab l) (Post := fun S σ1 σ' => ∃ v ys b', ys.Perm S ∧ RisL ys ∧ GS rwL σ' v ys b' ∧ (∀ x, b' = some x → σ1.next ≤ x) ∧ σ'.mem.get σ.next = some (.cells 1 [v])) (hb.keep (by simp) fun a ha _ => by simp [show ¬ a = σ.next by omega]) (cell := σ.next) (by simp) _ (fun T r σa K k1 k2 k3 k4 k5 => ?_) (fun e σb he hgb => ?_) (fun S l' σa σb σc hx hpost hga hna hmem hnx hnab hkeep => ?_)
  · have htc := k3.2 σ.next (by simp)
    simp at htc k2
    refine taken1_c k1 hl htc (by have := k3.1; simp at this; omega) (by omega) (fun ec => by have := hb.lt ec; omega) k4 fun S l' σ' h1 h2 h3 h4 h5 => k5 S l' σ' h1 h2 h3 h4 h5
  · have he0 := pTab_err he
    have he0' : ¬ (e : Int) = 0 := by omega
    have hm := hgb.2 σ.next (by simp)
    simp at hm
    have hq := fun b => hE e ⟨σb.mem.set σ.next b, σb.next⟩ he ⟨by have := hgb.1; simp at this; show σ.next ≤ σb.next; omega, fun a ha => by
      have := (hg0.trans hgb).2 a ha
      simp [show ¬ a = σ.next by omega]; exact this⟩
    simp [lk_cons, he0, he0', hm, storeL]
    exact hq _
  · obtain ⟨v, ys, b', z1, z2, z3, z4, z5⟩ := hpost
    have hm : σc.mem.get σ.next = some (.cells 1 [v]) := (hmem σ.next (by simp)).trans z5
    have hna' : σ.next + 1 < σa.next := by simpa using hna
    have gk : ∀ a, a < σ.next → σc.mem.get a = σ.mem.get a := fun a ha => by
      rw [hmem a (by simp; omega), hkeep a (by simp; omega) (by omega)]
      simp [show ¬ a = σ.next by omega]
    cases l' with
    | nil =>
      simp [lk_cons, hm, storeL, z3.one]
      have hbt : b' ≠ some σ.next := fun e => by have := z4 _ e; omega
      refine hO S v ys b' _ hx z1 z2 (z3.keep (by simp; omega) fun a ha hb => ?_) (fun x hx => by have := z4 x hx; omega) ⟨by simp; omega, fun a ha => by simp [show ¬ a = σ.next by omega]; exact gk a ha⟩
      have h1 : a ≠ σ.next := fun e => hbt (by rw [hb, e])
      have h2 : a ≠ σ.next + 1 := fun e => by have := z4 a hb; omega
      simp [h1]
      exact hmem a (by simpa using h2)
    | cons y l' =>
      simp [lk_cons, hm, storeL]
      exact hR S (y :: l') _ hx (by simp) ⟨by simp; omega, fun a ha => by simp [show ¬ a = σ.next by omega]; exact gk a ha⟩

theorem begT_nm {T : Tbl} {n : ByteArray} {q : Nat} (hn : ∀ y : Ln, NmOk (n, y)) (h : ∀ x ∈ T, NmOk x) : ∀ x ∈ begT T n q, NmOk x := by
  unfold begT
  split
  · intro x hx
    rcases setB_mem hx with rfl | hx
    · exact hn _
    · exact h x hx
  · exact h
theorem doneT_nm {T : Tbl} {n : ByteArray} {q : Nat} {p : Nat × Nat} (hn : ∀ y : Ln, NmOk (n, y)) (h : ∀ x ∈ T, NmOk x) : ∀ x ∈ doneT T n q p, NmOk x := by
  unfold doneT
  split
  · intro x hx
    rcases setB_mem hx with rfl | hx
    · exact hn _
    · exact h x hx
  · exact h
end Go.Proofs.YtieieknhhfallaaDoor.AM

/- A table that is written and taken has all that is done. -/
namespace Go.Proofs.YtieieknhhfallaaDoor.AM
open Go.RowKit
set_option maxRecDepth 100000
set_option linter.unusedVariables false
set_option linter.unusedSimpArgs false

def nB (c : Nat) : ByteArray := ⟨#[110, UInt8.ofNat c]⟩
theorem nB_ok {c : Nat} (h : c < 128) (y : Ln) : NmOk (nB c, y) := by
  refine ⟨by show 1 ≤ 2; omega, by show 2 ≤ 64; omega, vld_all fun x hx => ?_⟩
  have : x = 110 ∨ x = UInt8.ofNat c := by simpa [nB] using hx
  rcases this with rfl | rfl
  · decide
  · simp; omega
def BkJ (v : AVal) (L : List DAct) (t mp : Nat) (mm : Nat) (rg : Regs) (σ' : St) : Prop := ∃ (i : Nat) (T : Tbl), mm = L.length - i ∧ i ≤ L.length ∧ TRep σ' t mp T ∧ T.length ≤ 16 ∧ (∀ x ∈ T, NmOk x) ∧ (∀ x ∈ T, LnOk x) ∧ rg = [(3, .ptr t 0), (11, v), (12, i64 (L.length : Nat)), (13, i64 i)]
theorem fgt_perm {S T : Tbl} (h : S.Perm T) : (fgt S).Perm (fgt T) := (h.filter _).map _
theorem fgt_keys {T : Tbl} (h : (T.map (·.1)).Nodup) : ((fgt T).map (·.1)).Nodup := by
  have e : (fgt T).map (·.1) = (dn T).map (·.1) := by rw [fgt_dn, List.map_map]; rfl
  rw [e]
  exact h.sublist (List.filter_sublist.map _)
set_option maxHeartbeats 4000000 in
theorem back_c {v : AVal} {L : List DAct} (hv : IS rwA v L) (hok : ∀ a ∈ L, a.ok) (hn : ∀ a ∈ L, a.n.size ≤ 140737488355328) (hl : L.length ≤ 4611686018427387904) : ACall Tryd.prog 5 [v] σ0 fun v _ => v = .bool true := by
  refine ACall.of_compF hmx (fun a w => Tryd.call5 a w) Tryd.func5 cf5 (n := 1) (by decide) rfl ?_
  have hlen := hv.len
  simp [ac5, rs5, lk_cons]
  refine awake _ _ ?_
  simp [lk_cons]
  refine tnew_c _ _ fun t mp σ1 hr hn1 hk1 hge => ?_
  simp [lk_cons, ↓hlen]
  refine wp_loop (BkJ v L t mp) L.length ?_ ?_
  · exact ⟨0, [], rfl, Nat.zero_le _, hr, by simp, fun x h => (by cases h), fun x h => (by cases h), by simp [lk_cons]⟩
  · rintro mm rg σ2 ⟨i, T, rfl, hi, q1, q2, q3, q4, rfl⟩
    by_cases hc : i < L.length
    · obtain ⟨a, ha⟩ : ∃ a, L[i]? = some a := ⟨_, List.getElem?_eq_getElem hc⟩
      have e1 := hv.at ha
      have hak := hok a (List.mem_of_getElem? ha)
      have han := hn a (List.mem_of_getElem? ha)
      have w1 : IntKind.i64.wrap ((i : Int) + 1) = ((i + 1 : Nat) : Int) := by rw [IntWalk.i64_in] <;> omega
      have hlt := q1.lt
      have q1g : ∀ A B : Blk, TRep ⟨(σ2.mem.set σ2.next A).set σ2.next B, σ2.next + 1⟩ t mp T := fun A B => q1.frame (fun x hx => by
        have : x < σ2.next := by rcases hx with rfl | rfl <;> omega
        simp [show ¬ x = σ2.next by omega]) (by simp)
      simp only [rwA] at e1
      by_cases hi100 : i < 100
      · have hi100' : (i : Int) < 100 := by omega
        by_cases hn64 : a.n.size ≤ 64
        · have hn64' : (a.n.size : Int) ≤ 64 := by omega
          simp [lk_cons, hc, ↓e1, storeL, hi100, hi100', hn64, hn64']
          refine few_c a (by omega) _ _ ?_
          obtain ⟨f1, f2, f3⟩ := fewA_ok hak (by omega)
          revert f1 f2
          clear f3
          generalize fewA a = a'
          intro f1 f2
          obtain ⟨r, hr20⟩ : ∃ r, a'.n.size % 20 = r := ⟨_, rfl⟩
          have t2 : (a'.n.size : Int).tmod 20 = (r : Int) := by rw [Int.tmod_eq_emod_of_nonneg (by omega)]; omega
          obtain ⟨c, hcc⟩ : ∃ c, 97 + r = c := ⟨_, rfl⟩
          have hc128 : c < 128 := by omega
          have w2 : IntKind.i64.wrap (97 + (r : Int)) = (c : Int) := by rw [IntWalk.i64_in] <;> omega
          have w3 : IntKind.u8.wrap (c : Int) = (c : Int) := by rw [IntWalk.u8_in]; omega
          have os : byteOfA (.int .u8 (c : Int)) = some (UInt8.ofNat c) := by simp [byteOfA]
          have ad : abinS .add ⟨#[110]⟩ ⟨#[UInt8.ofNat c]⟩ = some (.str (nB c)) := by
            have hs : ¬ (((⟨#[110]⟩ : ByteArray).size + (⟨#[UInt8.ofNat c]⟩ : ByteArray).size : Nat) : Int) > IntKind.i64.max := by
              show ¬ ((2 : Nat) : Int) > IntKind.i64.max
              decide
            simp only [abinS, if_neg hs]
            rfl
          have z1 : ¬ σ2.next = σ2.next + 1 := by omega
          have hnm := fun y => nB_ok hc128 y
          have hns : (nB c).size ≤ 140737488355328 := by show (2 : Nat) ≤ _; omega
          simp [lk_cons, storeL, t2, w2, w3, fillL, repL, srcL, os, ad, z1]
          obtain ⟨S, hS⟩ : ∃ S : St, S = ⟨((((σ2.mem.set σ2.next (.cells 6 [.int .u8 0, .str ⟨#[]⟩, .int .u64 0, .int .u64 0, .int .u64 0, .bool false])).set σ2.next (.cells 6 (drow a))).set σ2.next (.cells 6 (drow a'))).set (σ2.next + 1) (.cells 1 [.int .u8 (c : Int)])).set σ2.next (.cells 6 [.int .u8 (a'.k : Int), .str (nB c), u64 (a'.q : Int), u64 (a'.l : Int), u64 (a'.e : Int), .bool a'.raw]), σ2.next + 1 + 1⟩ := ⟨_, rfl⟩
          have hmS : S.mem.get σ2.next = some (.cells 6 [.int .u8 (a'.k : Int), .str (nB c), u64 (a'.q : Int), u64 (a'.l : Int), u64 (a'.e : Int), .bool a'.raw]) := by rw [hS]; simp
          have hSn : σ2.next < S.next := by rw [hS]; simp; omega
          have hTS : TRep S t mp T := q1.frame (fun x hx => by
            have : x < σ2.next := by rcases hx with rfl | rfl <;> omega
            rw [hS]; simp [show ¬ x = σ2.next by omega, show ¬ x = σ2.next + 1 by omega]) (by rw [hS]; simp; omega)
          rw [← hS]
          refine begin_c hTS (nB c) hns a'.q _ fun σ3 u1 u2 => ?_
          have nmp : σ2.next ≠ mp := by omega
          have m3 := (u2.2 σ2.next hSn nmp).trans hmS
          have n3 := u2.1
          obtain ⟨b1, b2⟩ := begT_ok (n := nB c) f1.q q4 q2
          have b3 := begT_nm (q := a'.q) hnm q3
          revert u1 b1 b2 b3
          generalize begT T (nB c) a'.q = T1
          intro u1 b1 b2 b3
          obtain ⟨k2, hk2, hk2l⟩ : ∃ m : Nat, (a'.k : Int).tmod 2 = (m : Int) ∧ m < 2 := ⟨a'.k % 2, by rw [Int.tmod_eq_emod_of_nonneg (by omega)]; omega, by omega⟩
          rcases (by omega : k2 = 0 ∨ k2 = 1) with rfl | rfl
          · simp [lk_cons, m3, hk2]
            refine done_c u1 (nB c) a'.q (a'.l, a'.e) _ fun σ4 y1 y2 => ?_
            obtain ⟨d1, d2⟩ := doneT_ok (n := nB c) (q := a'.q) (p := (a'.l, a'.e)) f1.q ⟨f1.l, f1.e⟩ b1 b2
            simp [lk_cons, w1]
            exact ⟨_, by omega, i + 1, _, rfl, by omega, y1, d2, doneT_nm hnm b3, d1, rfl⟩
          · simp [lk_cons, m3, hk2, w1]
            exact ⟨_, by omega, i + 1, _, rfl, by omega, u1, b2, b3, b1, rfl⟩
        · have hn64' : ¬ (a.n.size : Int) ≤ 64 := by omega
          simp [lk_cons, hc, ↓e1, storeL, hi100, hi100', hn64, hn64', w1]
          exact ⟨_, by omega, i + 1, T, rfl, by omega, q1g _ _, q2, q3, q4, rfl⟩
      · have hi100' : ¬ (i : Int) < 100 := by omega
        simp [lk_cons, hc, ↓e1, storeL, hi100, hi100', w1]
        exact ⟨_, by omega, i + 1, T, rfl, by omega, q1g _ _, q2, q3, q4, rfl⟩
    · have : i = L.length := by omega
      subst this
      simp [lk_cons]
      refine tbytes_c q1 (by omega) q4 _ fun bv ys σ3 b' p1 p2 p3 p4 p5 => ?_
      have hyn : (ys.map (·.1)).Nodup := (p1.map (·.1)).nodup_iff.2 q1.keys
      have hpt := pTab_enc p2 hyn (fun x hx => ⟨q3 x (p1.subset hx), q4 x (p1.subset hx)⟩) (by have := p1.length_eq; omega)
      have hel : (encT ys).length ≤ 1000000000 := by
        have h1 := dn_len ys
        have h2 := p1.length_eq
        have := lnsB_len (T := dn ys) fun x hx => q4 x (p1.subset (List.mem_filter.1 hx).1)
        simp only [encT, List.length_append, beN_len]
        omega
      have hlt := q1.lt
      simp [lk_cons]
      refine taken_c (RdB.ofGS p3) hel _ (fun e σ' he => by rw [hpt] at he; cases he) (fun S l' σ' he hne => by rw [hpt] at he; cases he; exact absurd rfl hne) fun S w zs b2 σ4 hx r1 r2 r3 r4 r5 => ?_
      rw [hpt] at hx; cases hx
      have t4 : TRep σ4 t mp T := (q1.frame (fun x hx => p5.2 x (by rcases hx with rfl | rfl <;> omega)) p5.1).frame (fun x hx => r5.2 x (by have := p5.1; rcases hx with rfl | rfl <;> omega)) r5.1
      simp [lk_cons]
      refine forget_c t4 _ fun σ5 u1 u2 => ?_
      have hfl := fgt_len T
      simp [lk_cons]
      refine all_c u1 (by omega) _ fun w2 ws σ6 b3 x1 x2 x3 x4 x5 => ?_
      have hzw : zs = ws := RisL.uniq r2 x2 ((r1.map (·.1)).nodup_iff.2 (fgt_keys hyn)) (r1.trans ((fgt_perm p1).trans x1.symm))
      subst hzw
      have k5 : GS rwL σ5 w zs b2 := r3.keep u2.1 fun x hx hb => u2.2 x hx (by have := r4 x hb; have := p5.1; omega)
      simp [lk_cons]
      refine rsame_c (k5.keep x5.1 fun x hx _ => x5.2 x hx) x3 (by have := x1.length_eq; omega) _ ?_
      simp [lk_cons]
end Go.Proofs.YtieieknhhfallaaDoor.AM

/- The laws' acts, as arguments. -/
namespace Go.Proofs.YtieieknhhfallaaDoor.AM
open Go.RowKit
set_option maxRecDepth 100000
set_option linter.unusedVariables false
set_option linter.unusedSimpArgs false
theorem dacts_arg {ok : List AVal → Prop} (hok : ∀ x, ok x → ∃ a : DAct, (a.ok ∧ a.n.size ≤ 140737488351232) ∧ x = drow a) : ∀ xs : List (List AVal), (∀ x ∈ xs, x.length = 6 ∧ ok x) → ∃ l : List DAct, xs.flatten = rws rwA l ∧ l.length = xs.length ∧ ∀ a ∈ l, a.ok ∧ a.n.size ≤ 140737488351232
  | [], _ => ⟨[], rfl, rfl, fun a h => by cases h⟩
  | x :: xs, h => by
    obtain ⟨l, h1, h2, h3⟩ := dacts_arg hok xs (fun y hy => h y (by simp [hy]))
    obtain ⟨a, ha, rfl⟩ := hok x (h x (by simp)).2
    refine ⟨a :: l, by simp [h1, rws, rwA], by simp [h2], fun b hb => ?_⟩
    rcases List.mem_cons.1 hb with rfl | hb
    · exact ha
    · exact h3 b hb
theorem dact_of {ok5 ok9 ok29 ok32 ok4 : List AVal → Prop} (h5 : ∀ x, ok5 x → ∃ n, x = [.int .u8 n] ∧ (Lit.int .u8 n).wf = true) (h9 : ∀ x, ok9 x → ∃ s : ByteArray, x = [.str s] ∧ s.size ≤ 140737488351232) (h29 : ∀ x, ok29 x → ∃ n, x = [.int .u64 n] ∧ (Lit.int .u64 n).wf = true)
    (h32 : ∀ x, ok32 x → ∃ a b, x = a ++ b ∧ ok29 a ∧ ok29 b) (h4 : ∀ x, ok4 x → ∃ b, x = [.bool b]) (x : List AVal)
    (h : ∃ a b, x = a ++ b ∧ ok5 a ∧ ∃ c d, b = c ++ d ∧ ok9 c ∧ ∃ e f, d = e ++ f ∧ ok29 e ∧ ∃ g i, f = g ++ i ∧ ok32 g ∧ ok4 i) : ∃ a : DAct, (a.ok ∧ a.n.size ≤ 140737488351232) ∧ x = drow a := by
  obtain ⟨a, b, rfl, ha, c, d, rfl, hc, e, f, rfl, he, g, i, rfl, hg, hi⟩ := h
  obtain ⟨n, rfl, wn⟩ := h5 _ ha
  obtain ⟨n, rfl, hn⟩ := wf_u8 wn
  obtain ⟨s, rfl, hs⟩ := h9 _ hc
  obtain ⟨m, rfl, wm⟩ := h29 _ he
  obtain ⟨m, rfl, hm⟩ := wf_u64 wm
  obtain ⟨p, q, rfl, hp, hq⟩ := h32 _ hg
  obtain ⟨p, rfl, wp⟩ := h29 _ hp
  obtain ⟨p, rfl, hpl⟩ := wf_u64 wp
  obtain ⟨q, rfl, wq⟩ := h29 _ hq
  obtain ⟨q, rfl, hql⟩ := wf_u64 wq
  obtain ⟨t, rfl⟩ := h4 _ hi
  exact ⟨⟨n, s, m, p, q, t⟩, ⟨⟨hn, hm, hpl, hql⟩, hs⟩, rfl⟩
end Go.Proofs.YtieieknhhfallaaDoor.AM

/- The tables, in a world that holds them. -/
namespace Go.Proofs.YtieieknhhfallaaDoor.AM
open Go.RowKit
set_option linter.unusedVariables false
set_option maxRecDepth 100000
theorem gok_of {W : World} (h0 : ∀ r, r < 256 → W.cell? ⟨0, r, none⟩ = some (.int .u8 ((Go.Pinned.utf8FirstZ.getD r 0 : Nat) : Int))) (h1 : ∀ r, r < 32 → W.cell? ⟨1, r, none⟩ = some (.int .u8 ((utf8Acc.getD r 0 : Nat) : Int))) : GOk (immOf W) := by
  have gen : ∀ (g : Nat) (l : List Nat), (∀ r, r < l.length → W.cell? ⟨g, r, none⟩ = some (.int .u8 ((l.getD r 0 : Nat) : Int))) → CRel (fun _ => none) (immOf W) (l.map fun (n : Nat) => AVal.int .u8 (n : Int)) (fun j => icell (immOf W) ⟨g, j, none⟩) := fun g l h => by
    refine CRel.mk fun j v hv => ?_
    rw [List.getElem?_map, Option.map_eq_some_iff] at hv
    obtain ⟨n, hn, rfl⟩ := hv
    have hj := (List.getElem?_eq_some_iff.1 hn).1
    refine ⟨.int .u8 (n : Int), ?_, by simp [VRel]⟩
    rw [icell_immOf, h j hj, List.getD_eq_getElem?_getD, hn]; rfl
  have l0 : Go.Pinned.utf8FirstZ.length = 256 := by decide
  have l1 : utf8Acc.length = 32 := by decide
  have k0 := gen 0 Go.Pinned.utf8FirstZ fun r hr => h0 r (by omega)
  have k1 := gen 1 utf8Acc fun r hr => h1 r (by omega)
  intro g cs hg
  match g, hg with
  | 0, hg =>
    simp only [gloTab, gloRaw, Option.map_some, Option.some.injEq] at hg
    subst hg; exact k0
  | 1, hg =>
    simp only [gloTab, gloRaw, Option.map_some, Option.some.injEq] at hg
    subst hg; exact k1
  | g + 2, hg => simp [gloTab, gloRaw] at hg
end Go.Proofs.YtieieknhhfallaaDoor.AM

/- The document's Reader: what it says, told once for what is read and for a fault. -/
namespace Go.Proofs.YtieieknhhfallaaDoor.AM
open Go.RowKit
set_option maxRecDepth 100000
set_option linter.unusedVariables false
set_option linter.unusedSimpArgs false

abbrev RSt := Except Nat (List UInt8)
/-- The document's reader in memory. -/
def SR (σ : St) (r : Nat) (st : RSt) (c : Option Nat) : Prop := r < σ.next ∧ c ≠ some r ∧ (∀ x, c = some x → x < σ.next) ∧ match st with
  | .ok l => ∃ v, σ.mem.get r = some (.cells 2 [v, .int .i64 0]) ∧ RdB σ v l c ∧ l.length ≤ 1000000
  | .error e => e ≠ 0 ∧ ∃ v, v.one = true ∧ σ.mem.get r = some (.cells 2 [v, .int .i64 (e : Int)])
theorem SR.keep {σ σ' : St} {r : Nat} {st : RSt} {c : Option Nat} (h : SR σ r st c) (hn : σ.next ≤ σ'.next) (hm : ∀ a, a < σ.next → a = r ∨ c = some a → σ'.mem.get a = σ.mem.get a) : SR σ' r st c := by
  obtain ⟨h1, h2, h3, h4⟩ := h
  refine ⟨by omega, h2, fun x hx => by have := h3 x hx; omega, ?_⟩
  cases st with
  | ok l =>
    obtain ⟨v, k1, k2, k3⟩ := h4
    exact ⟨v, (hm r h1 (.inl rfl)).trans k1, k2.keep hn fun a ha hc => hm a ha (.inr hc), k3⟩
  | error e =>
    obtain ⟨k0, v, k1, k2⟩ := h4
    exact ⟨k0, v, k1, (hm r h1 (.inl rfl)).trans k2⟩
theorem SR.grow {σ σ' : St} {r : Nat} {st : RSt} {c : Option Nat} (h : SR σ r st c) (hg : Grow σ σ') : SR σ' r st c := h.keep hg.1 fun a ha _ => hg.2 a ha
def sNum (k : Nat) : RSt → Nat × RSt
  | .error e => (0, .error e)
  | .ok l => match pNum k l with
    | .error e => (0, .error e)
    | .ok (x, l') => (x, .ok l')
def sBytes (st : RSt) : List UInt8 × RSt := match sNum 4 st with
  | (_, .error e) => ([], .error e)
  | (n, .ok l) => if l.length < n then ([], .error 4) else (l.take n, .ok (l.drop n))
def sText (st : RSt) : List UInt8 × RSt := match sBytes st with
  | (b, .error e) => (b, .error e)
  | (b, .ok l) => if vld b then (b, .ok l) else (b, .error 6)
def sFail (e : Nat) : RSt → RSt
  | .error c => .error c
  | .ok _ => .error e
def sEnd : RSt → Nat
  | .error e => e
  | .ok l => if l = [] then 0 else 5

def SnJ (r k : Nat) (l : List UInt8) (σ0 : St) (mm : Nat) (rg : Regs) (σ' : St) : Prop := ∃ i, mm = k - i ∧ i ≤ k ∧ σ' = σ0 ∧ rg = [(0, .ptr r 0), (1, .int .i64 (k : Int)), (5, .int .u64 (be (l.take i) : Nat)), (6, .int .i64 (i : Nat))]
theorem snum_c {σ : St} {r : Nat} {st : RSt} {c : Option Nat} (h : SR σ r st c) {k : Nat} (hk : k ≤ 8) (Q : AVal → St → Prop)
    (hQ : ∀ σ', SR σ' r (sNum k st).2 c → σ'.next = σ.next → (∀ a, a ≠ r → σ'.mem.get a = σ.mem.get a) → Q (.int .u64 ((sNum k st).1 : Nat)) σ') : ACall Tryd.prog 25 [.ptr r 0, .int .i64 (k : Int)] σ Q := by
  refine ACall.of_compF hmx (fun a w => Tryd.call25 a w) Tryd.func25 cf25 (n := 2) (by decide) rfl ?_
  obtain ⟨h1, h2, h3, h4⟩ := h
  cases st with
  | error e =>
    obtain ⟨k0, v, k1, k2⟩ := h4
    have e0 : ¬ (e : Int) = 0 := by omega
    have hq := hQ σ ⟨h1, h2, h3, k0, v, k1, k2⟩ rfl fun _ _ => rfl
    simp only [sNum] at hq
    simp [ac25, rs25, lk_cons, k2, k0, e0]
    simpa using hq
  | ok l =>
    obtain ⟨v, k1, k2, k3⟩ := h4
    have hlen := k2.len
    by_cases hl : l.length < k
    · have hl' : (l.length : Int) < k := by omega
      have hp : pNum k l = .error 4 := by rw [pNum, if_pos hl]
      have hq := hQ ⟨σ.mem.set r (.cells 2 [v, .int .i64 4]), σ.next⟩
      simp only [sNum, hp] at hq
      simp [ac25, rs25, lk_cons, k1, ↓hlen, hl, hl', storeL]
      have := hq ⟨h1, h2, h3, by decide, v, k2.one.1, by simp⟩ (by trivial) (fun a ha => by simp [ha])
      simpa using this
    · have hl' : ¬ (l.length : Int) < k := by omega
      have hp : pNum k l = .ok (be (l.take k), l.drop k) := by rw [pNum, if_neg hl]
      obtain ⟨v2, s2, r2⟩ := k2.cut (n := k) (by omega) .i64 rfl
      have s2 := s2 σ (fun _ _ => rfl)
      have hkl : k ≤ l.length := by omega
      simp [ac25, rs25, lk_cons, k1, ↓hlen, hl, hl']
      refine wp_loop (SnJ r k l σ) k ?_ ?_
      · exact ⟨0, rfl, Nat.zero_le _, rfl, by simp [be_nil, lk_cons]⟩
      · rintro mm rg σ' ⟨i, rfl, hi, rfl, rfl⟩
        by_cases hc : i < k
        · obtain ⟨x, hx⟩ : ∃ x, l[i]? = some x := ⟨_, List.getElem?_eq_getElem (by omega)⟩
          obtain ⟨m, hm⟩ : ∃ m, i + 1 = m := ⟨_, rfl⟩
          have hc' : (i : Int) < k := by omega
          have w1 : IntKind.i64.wrap ((i : Int) + 1) = (m : Int) := by rw [IntWalk.i64_in] <;> omega
          have htk : l.take (i + 1) = l.take i ++ [x] := by rw [List.take_add_one, hx]; rfl
          have hbe : be (l.take m) = be (l.take i) * 256 + x.toNat := by rw [← hm, htk, be_snoc]
          have hbl : be (l.take m) < 18446744073709551616 := by
            have := be_lt (l.take m)
            have hle : (l.take m).length ≤ 8 := by simp; omega
            have := Nat.pow_le_pow_right (n := 256) (by decide) hle
            have e : 256 ^ 8 = 18446744073709551616 := by decide
            omega
          obtain ⟨p, a1, a2⟩ := k2.at hx rfl
          have a2 := a2 σ' (fun _ _ => rfl)
          have wx : IntKind.u64.wrap (x.toNat : Int) = x.toNat := by have := x.toNat_lt; rw [IntWalk.u64_in] <;> omega
          obtain ⟨y, hy⟩ : ∃ y, be (l.take i) = y := ⟨_, rfl⟩
          obtain ⟨z, hz⟩ : ∃ z, be (l.take m) = z := ⟨_, rfl⟩
          rw [hy, hz] at hbe
          rw [hz] at hbl
          have wm : IntKind.u64.wrap ((y : Int) * 256) = (y : Int) * 256 := by rw [IntWalk.u64_in] <;> omega
          have wa : IntKind.u64.wrap ((y : Int) * 256 + x.toNat) = (z : Int) := by rw [IntWalk.u64_in] <;> omega
          simp [lk_cons, hc, hc', w1, k1, ↓a1, ↓a2, wx, hy, wm, wa]
          exact ⟨k - m, by omega, m, rfl, by omega, rfl, by rw [hz]⟩
        · have : i = k := by omega
          subst this
          have hq := hQ ⟨σ'.mem.set r (.cells 2 [v2, .int .i64 0]), σ'.next⟩
          simp only [sNum, hp] at hq
          simp [lk_cons, k1, optM, ↓s2, r2.one, storeL]
          exact hq ⟨h1, h2, h3, v2, by simp, r2.keep (Nat.le_refl _) fun a _ hc => by
            have : a ≠ r := fun e => h2 (by rw [hc, e])
            simp [this], by rw [List.length_drop]; omega⟩ (by trivial) fun a ha => by simp [ha]
end Go.Proofs.YtieieknhhfallaaDoor.AM

/- The document's Reader: Bytes, Text, Fail, End. -/
namespace Go.Proofs.YtieieknhhfallaaDoor.AM
open Go.RowKit
set_option maxRecDepth 100000
set_option linter.unusedVariables false
set_option linter.unusedSimpArgs false

theorem sNum_len {k : Nat} {st : RSt} {n : Nat} {l : List UInt8} (h : sNum k st = (n, .ok l)) : ∃ l0, st = .ok l0 ∧ pNum k l0 = .ok (n, l) := by
  unfold sNum at h
  split at h
  · cases h
  · rename_i l0
    split at h
    · cases h
    · rename_i x l' hp
      cases h
      exact ⟨l0, rfl, hp⟩
theorem sbytes_c {σ : St} {r : Nat} {st : RSt} {c : Option Nat} (h : SR σ r st c) (Q : AVal → St → Prop)
    (hQ : ∀ σ' v c', SR σ' r (sBytes st).2 c → RdB σ' v (sBytes st).1 c' → (c' = c ∨ c' = none) → σ'.next = σ.next → (∀ a, a ≠ r → σ'.mem.get a = σ.mem.get a) → Q v σ') : ACall Tryd.prog 41 [.ptr r 0] σ Q := by
  refine ACall.of_compF hmx (fun a w => Tryd.call41 a w) Tryd.func41 cf41 (n := 1) (by decide) rfl ?_
  simp [ac41, rs41, lk_cons]
  refine snum_c h (k := 4) (by decide) _ fun σ1 h1 hn hm => ?_
  obtain ⟨n, st1, hs⟩ : ∃ n st1, sNum 4 st = (n, st1) := ⟨_, _, rfl⟩
  rw [hs] at h1
  simp only [hs]
  have hb : sBytes st = match (n, st1) with
    | (_, .error e) => ([], .error e)
    | (n, .ok l) => if l.length < n then ([], .error 4) else (l.take n, .ok (l.drop n)) := by rw [sBytes, hs] <;> rfl
  obtain ⟨g1, g2, g3, g4⟩ := h1
  cases st1 with
  | error e =>
    obtain ⟨k0, v, k1, k2⟩ := g4
    have e0 : ¬ (e : Int) = 0 := by omega
    simp only at hb
    rw [hb] at hQ
    simp [lk_cons, k2, k0, e0]
    exact hQ σ1 .nilsl none ⟨g1, g2, g3, k0, v, k1, k2⟩ (RdB.ofI (.inl ⟨rfl, rfl⟩) _) (.inr rfl) hn hm
  | ok l =>
    obtain ⟨v, k1, k2, k3⟩ := g4
    have hlen := k2.len
    have w1 : IntKind.u64.wrap (l.length : Int) = l.length := by rw [IntWalk.u64_in] <;> omega
    simp only at hb
    by_cases hl : l.length < n
    · have hl' : (l.length : Int) < n := by omega
      rw [if_pos hl] at hb
      rw [hb] at hQ
      simp [lk_cons, k1, ↓hlen, w1, hl, hl', storeL]
      exact hQ _ .nilsl none ⟨g1, g2, g3, by decide, v, k2.one.1, by simp⟩ (RdB.ofI (.inl ⟨rfl, rfl⟩) _) (.inr rfl) hn fun a ha => by simp [ha]; exact hm a ha
    · have hl' : ¬ (l.length : Int) < n := by omega
      rw [if_neg hl] at hb
      rw [hb] at hQ
      obtain ⟨v1, s1, r1⟩ := k2.pre (n := n) (by omega) .u64 rfl
      obtain ⟨v2, s2, r2⟩ := k2.cut (n := n) (by omega) .u64 rfl
      have s1 := s1 σ1 (fun _ _ => rfl)
      have s2 := s2 σ1 (fun _ _ => rfl)
      simp [lk_cons, k1, ↓hlen, w1, hl, hl', optM, ↓s1, ↓s2, r2.one, storeL]
      have kp : ∀ a, a ≠ r → (σ1.mem.set r (.cells 2 [v2, .int .i64 0])).get a = σ1.mem.get a := fun a ha => by simp [ha]
      have rk : ∀ {w : AVal} {m : List UInt8}, RdB σ1 w m c → RdB ⟨σ1.mem.set r (.cells 2 [v2, .int .i64 0]), σ1.next⟩ w m c := fun hw => hw.keep (Nat.le_refl _) fun a _ hc => kp a fun e => g2 (by rw [hc, e])
      exact hQ _ v1 c ⟨g1, g2, g3, v2, by simp, rk r2, by rw [List.length_drop]; omega⟩ (rk r1) (.inl rfl) hn fun a ha => by rw [kp a ha, hm a ha]
theorem stext_c {σ : St} {r : Nat} {st : RSt} {c : Option Nat} (h : SR σ r st c) (Q : AVal → St → Prop)
    (hQ : ∀ σ', SR σ' r (sText st).2 c → σ'.next = σ.next → (∀ a, a ≠ r → σ'.mem.get a = σ.mem.get a) → Q (.str ⟨(sText st).1.toArray⟩) σ') : ACall Tryd.prog 26 [.ptr r 0] σ Q := by
  refine ACall.of_compF hmx (fun a w => Tryd.call26 a w) Tryd.func26 cf26 (n := 1) (by decide) rfl ?_
  simp [ac26, rs26, lk_cons]
  refine sbytes_c h _ fun σ1 v c' h1 h2 hc hn hm => ?_
  obtain ⟨b, st1, hs⟩ : ∃ b st1, sBytes st = (b, st1) := ⟨_, _, rfl⟩
  rw [hs] at h1 h2
  simp only at h1 h2
  have hb : sText st = match (b, st1) with
    | (b, .error e) => (b, .error e)
    | (b, .ok l) => if vld b then (b, .ok l) else (b, .error 6) := by rw [sText, hs] <;> rfl
  have hstr := h2.str
  have h1' := h1
  obtain ⟨g1, g2, g3, g4⟩ := h1
  cases st1 with
  | error e =>
    obtain ⟨k0, v1, k1, k2⟩ := g4
    have e0 : ¬ (e : Int) = 0 := by omega
    simp only at hb
    rw [hb] at hQ
    simp [lk_cons, k2, k0, e0, ↓hstr]
    exact hQ σ1 h1' hn hm
  | ok l =>
    obtain ⟨v1, k1, k2, k3⟩ := g4
    have hbl : b.length ≤ 4611686018427387904 := by
      have h0 : (sBytes st).1.length ≤ 1000000 := by
        obtain ⟨n0, s0, e0⟩ : ∃ n0 s0, sNum 4 st = (n0, s0) := ⟨_, _, rfl⟩
        have hb0 : sBytes st = match (n0, s0) with
          | (_, .error e) => ([], .error e)
          | (n, .ok l) => if l.length < n then ([], .error 4) else (l.take n, .ok (l.drop n)) := by rw [sBytes, e0] <;> rfl
        rw [hb0]
        cases s0 with
        | error e => simp
        | ok l0 =>
          obtain ⟨l1, q1, q2⟩ := sNum_len e0
          have q3 := (pNum_len q2).1
          obtain ⟨_, _, _, q4⟩ := h
          rw [q1] at q4
          obtain ⟨_, _, _, q5⟩ := q4
          simp only
          split
          · simp
          · simp only [List.length_take]; omega
      rw [hs] at h0
      simp only at h0
      omega
    simp only at hb
    simp [lk_cons, k1]
    refine valid_c h2 hbl _ ?_
    cases hv : vld b with
    | true =>
      rw [hv, if_pos rfl] at hb
      rw [hb] at hQ
      simp [lk_cons, ↓hstr]
      exact hQ σ1 h1' hn hm
    | false =>
      rw [hv] at hb
      simp only [Bool.false_eq_true, if_false] at hb
      rw [hb] at hQ
      have h2' : RdB ⟨σ1.mem.set r (.cells 2 [v1, .int .i64 6]), σ1.next⟩ v b c' := h2.keep (Nat.le_refl _) fun a _ ha => by
        have : a ≠ r := fun e => by
          rcases hc with hc | hc
          · exact g2 (by rw [← hc, ha, e])
          · rw [hc] at ha; cases ha
        simp [this]
      have hstr2 := h2'.str
      simp [lk_cons, k1, storeL, ↓hstr2]
      exact hQ _ ⟨g1, g2, g3, by decide, v1, k2.one.1, by simp⟩ hn fun a ha => by simp [ha]; exact hm a ha
theorem sfail_c {σ : St} {r : Nat} {st : RSt} {c : Option Nat} (h : SR σ r st c) {e : Nat} (he : e ≠ 0) (Q : AVal → St → Prop)
    (hQ : ∀ σ', SR σ' r (sFail e st) c → σ'.next = σ.next → (∀ a, a ≠ r → σ'.mem.get a = σ.mem.get a) → Q (.tup []) σ') : ACall Tryd.prog 27 [.ptr r 0, .int .i64 (e : Int)] σ Q := by
  refine ACall.of_compF hmx (fun a w => Tryd.call27 a w) Tryd.func27 cf27 (n := 2) (by decide) rfl ?_
  have h' := h
  obtain ⟨g1, g2, g3, g4⟩ := h
  cases st with
  | error e1 =>
    obtain ⟨k0, v, k1, k2⟩ := g4
    have e0 : ¬ (e1 : Int) = 0 := by omega
    simp [ac27, rs27, lk_cons, k2, k0, e0]
    exact hQ σ h' rfl fun _ _ => rfl
  | ok l =>
    obtain ⟨v, k1, k2, k3⟩ := g4
    simp [ac27, rs27, lk_cons, k1, storeL]
    exact hQ _ ⟨g1, g2, g3, he, v, k2.one.1, by simp⟩ rfl fun a ha => by simp [ha]
theorem send_c {σ : St} {r : Nat} {st : RSt} {c : Option Nat} (h : SR σ r st c) (Q : AVal → St → Prop)
    (hQ : ∀ σ', σ'.next = σ.next → (∀ a, a ≠ r → σ'.mem.get a = σ.mem.get a) → Q (.int .i64 (sEnd st : Nat)) σ') : ACall Tryd.prog 14 [.ptr r 0] σ Q := by
  refine ACall.of_compF hmx (fun a w => Tryd.call14 a w) Tryd.func14 cf14 (n := 1) (by decide) rfl ?_
  obtain ⟨g1, g2, g3, g4⟩ := h
  cases st with
  | error e =>
    obtain ⟨k0, v, k1, k2⟩ := g4
    have e0 : ¬ (e : Int) = 0 := by omega
    simp [ac14, rs14, lk_cons, k2, k0, e0]
    exact hQ σ rfl fun _ _ => rfl
  | ok l =>
    obtain ⟨v, k1, k2, k3⟩ := g4
    have hlen := k2.len
    cases l with
    | nil =>
      simp [ac14, rs14, lk_cons, k1, ↓hlen]
      exact hQ σ rfl fun _ _ => rfl
    | cons y l =>
      obtain ⟨N, hN⟩ : ∃ N, (y :: l).length = N := ⟨_, rfl⟩
      have hp : (0 : Int) < (N : Int) := by rw [← hN]; simp only [List.length_cons]; omega
      have hp' : 0 < N := by omega
      simp only [hN] at hlen
      simp [ac14, rs14, lk_cons, k1, ↓hlen, hp, hp', storeL]
      have := hQ ⟨σ.mem.set r (.cells 2 [v, .int .i64 5]), σ.next⟩ (by trivial) fun a ha => by simp [ha]
      simpa [sEnd] using this
end Go.Proofs.YtieieknhhfallaaDoor.AM

/- The document's Take. -/
namespace Go.Proofs.YtieieknhhfallaaDoor.AM
open Go.RowKit
set_option maxRecDepth 100000
set_option linter.unusedVariables false
set_option linter.unusedSimpArgs false

theorem sBytes_st (l : List UInt8) : (∃ b r, pBytes l = .ok (b, r) ∧ sBytes (.ok l) = (b, .ok r)) ∨ ∃ e b, pBytes l = .error e ∧ sBytes (.ok l) = (b, .error e) := by
  cases hp : pNum 4 l with
  | error e => exact .inr ⟨e, [], by rw [pBytes, hp], by simp [sBytes, sNum, hp]⟩
  | ok x =>
    obtain ⟨n, r⟩ := x
    by_cases hl : r.length < n
    · exact .inr ⟨4, [], by rw [pBytes, hp]; simp [hl], by simp [sBytes, sNum, hp, hl]⟩
    · exact .inl ⟨r.take n, r.drop n, by rw [pBytes, hp]; simp [hl], by simp [sBytes, sNum, hp, hl]⟩
theorem sText_st (l : List UInt8) : (∃ b r, pText l = .ok (b, r) ∧ sText (.ok l) = (b, .ok r)) ∨ ∃ e b, pText l = .error e ∧ sText (.ok l) = (b, .error e) := by
  rcases sBytes_st l with ⟨b, r, h1, h2⟩ | ⟨e, b, h1, h2⟩
  · cases hv : vld b with
    | true => exact .inl ⟨b, r, by rw [pText, h1]; simp [hv], by rw [sText, h2]; simp [hv]⟩
    | false => exact .inr ⟨6, b, by rw [pText, h1]; simp [hv], by rw [sText, h2]; simp [hv]⟩
  · exact .inr ⟨e, b, by rw [pText, h1], by rw [sText, h2]⟩
theorem sNum_st (k : Nat) (l : List UInt8) : (∃ x r, pNum k l = .ok (x, r) ∧ sNum k (.ok l) = (x, .ok r)) ∨ ∃ e, pNum k l = .error e ∧ sNum k (.ok l) = (0, .error e) := by
  cases hp : pNum k l with
  | error e => exact .inr ⟨e, rfl, by simp [sNum, hp]⟩
  | ok x => exact .inl ⟨x.1, x.2, rfl, by simp [sNum, hp]⟩
theorem line_st (l : List UInt8) : ∃ (b : List UInt8) (d g e : Nat) (s1 s2 s3 s4 : RSt), sText (.ok l) = (b, s1) ∧ sNum 8 s1 = (d, s2) ∧ sNum 8 s2 = (g, s3) ∧ sNum 8 s3 = (e, s4) ∧
    ((∃ l', pLine l = .ok ((⟨b.toArray⟩, (d, d, g, e)), l') ∧ s4 = .ok l') ∨ ∃ c, pLine l = .error c ∧ s4 = .error c) := by
  rcases sText_st l with ⟨b, r, h1, h2⟩ | ⟨c, b, h1, h2⟩
  · rcases sNum_st 8 r with ⟨d, r1, k1, k2⟩ | ⟨c, k1, k2⟩
    · rcases sNum_st 8 r1 with ⟨g, r2, m1, m2⟩ | ⟨c, m1, m2⟩
      · rcases sNum_st 8 r2 with ⟨e, r3, n1, n2⟩ | ⟨c, n1, n2⟩
        · exact ⟨b, d, g, e, _, _, _, _, h2, k2, m2, n2, .inl ⟨r3, by rw [pLine, h1]; simp only [k1, m1, n1], rfl⟩⟩
        · exact ⟨b, d, g, 0, _, _, _, _, h2, k2, m2, n2, .inr ⟨c, by rw [pLine, h1]; simp only [k1, m1, n1], rfl⟩⟩
      · exact ⟨b, d, 0, 0, _, _, _, _, h2, k2, m2, rfl, .inr ⟨c, by rw [pLine, h1]; simp only [k1, m1], rfl⟩⟩
    · exact ⟨b, 0, 0, 0, _, _, _, _, h2, k2, rfl, rfl, .inr ⟨c, by rw [pLine, h1]; simp only [k1], rfl⟩⟩
  · exact ⟨b, 0, 0, 0, _, _, _, _, h2, rfl, rfl, rfl, .inr ⟨c, by rw [pLine, h1], rfl⟩⟩
def lastN (T : Tbl) : ByteArray := match T.getLast? with
  | some p => p.1
  | none => ⟨#[]⟩
theorem lastN_snoc (T : Tbl) (x : ByteArray × Ln) : lastN (T ++ [x]) = x.1 := by simp [lastN]
/-- The lines so far rise to the last one. -/
def RisT (T : Tbl) : Prop := (T.Pairwise fun a b => lessB a.1 b.1 = true) ∧ ∀ p ∈ T, p.1 = lastN T ∨ lessB p.1 (lastN T) = true
theorem RisT.snoc {T : Tbl} {x : ByteArray × Ln} (h : RisT T) (hx : lessB (lastN T) x.1 = true) : RisT (T ++ [x]) ∧ lkB T x.1 = none := by
  have hall : ∀ p ∈ T, lessB p.1 x.1 = true := fun p hp => by
    rcases h.2 p hp with e | e
    · rw [e]; exact hx
    · exact lessB_trans e hx
  refine ⟨⟨List.pairwise_append.2 ⟨h.1, by simp, fun a ha b hb => by simp at hb; subst hb; exact hall a ha⟩, fun p hp => ?_⟩, ?_⟩
  · rw [lastN_snoc]
    rcases List.mem_append.1 hp with hp | hp
    · exact .inr (hall p hp)
    · simp at hp; subst hp; exact .inl rfl
  · rw [lkB_none]
    intro hm
    obtain ⟨p, hp, he⟩ := List.mem_map.1 hm
    have := hall p hp
    rw [he, lessB_irrefl] at this; cases this
theorem RisT.ris {T : Tbl} (h : T.Pairwise fun a b => lessB a.1 b.1 = true) : RisL T ∧ (T.map (·.1)).Nodup := by
  constructor
  · intro i j x y hij hx hy
    have := List.pairwise_iff_getElem.1 h i j (List.getElem?_eq_some_iff.1 hx).1 (List.getElem?_eq_some_iff.1 hy).1 hij
    rw [(List.getElem?_eq_some_iff.1 hx).2, (List.getElem?_eq_some_iff.1 hy).2] at this
    exact lessB_asymm this
  · rw [List.Nodup, List.pairwise_map]
    exact h.imp fun h e => by rw [e, lessB_irrefl] at h; cases h
/-- Is a line bad, as the document says? -/
def rBad (i : Nat) (T : Tbl) (nm : ByteArray) (d : Nat) : Bool := decide (nm = ⟨#[]⟩) || decide (64 < nm.size) || decide (d = 0) || decide (i = 16) || (decide (0 < i) && !lessB (lastN T) nm)
theorem less_empty (a : ByteArray) : lessB a ⟨#[]⟩ = false := by
  unfold lessB
  simp
theorem rBad_ln {i : Nat} {T : Tbl} (hi : T.length = i) (h16 : i ≤ 16) (nm : ByteArray) (d g e : Nat) : lnBad T (lastN T) (nm, (d, d, g, e)) = rBad i T nm d := by
  have h16' : decide (16 ≤ T.length) = decide (i = 16) := by
    rw [hi]
    by_cases h : i = 16
    · simp [h]
    · have : ¬ 16 ≤ i := by omega
      simp [h, this]
  unfold lnBad rBad
  simp only [h16']
  by_cases hi0 : i = 0
  · have hT : T = [] := List.eq_nil_of_length_eq_zero (by omega)
    have hl : lastN T = ⟨#[]⟩ := by rw [hT]; rfl
    rw [hl]
    have he : (!lessB ⟨#[]⟩ nm) = decide (nm = ⟨#[]⟩) := by
      by_cases h : nm = ⟨#[]⟩
      · subst h; simp [lessB_irrefl]
      · have h1 : 1 ≤ nm.size := Nat.pos_of_ne_zero fun h0 => h ((ba_empty nm).2 h0)
        simp [empty_less h1, h]
    rw [he]
    simp [hi0]
  · have hp : decide (0 < i) = true := decide_eq_true (by omega)
    rw [hp, Bool.true_and]
    by_cases h : nm = ⟨#[]⟩
    · subst h; simp [less_empty]
    · cases lessB (lastN T) nm <;> simp [h]
end Go.Proofs.YtieieknhhfallaaDoor.AM

/- The document's Take, walked. -/
namespace Go.Proofs.YtieieknhhfallaaDoor.AM
open Go.RowKit
set_option maxRecDepth 100000
set_option linter.unusedVariables false
set_option linter.unusedSimpArgs false

/-- What the lines so far and the reader's state have to do with the whole. -/
def TkOk (n i : Nat) (T : Tbl) (st : RSt) (res : Except Nat (Tbl × List UInt8)) : Prop := T.length = i ∧ match st with
  | .ok l => i ≤ 16 ∧ RisT T ∧ pLines (n - i) T (lastN T) l = res
  | .error e => res = .error e
def TsJ (r n : Nat) (res : Except Nat (Tbl × List UInt8)) (c : Option Nat) (σ0 : St) (mm : Nat) (rg : Regs) (σ' : St) : Prop := ∃ (i : Nat) (T : Tbl) (v : AVal) (b : Option Nat) (st : RSt), mm = n - i ∧ i ≤ n ∧ n < 256 ∧ TkOk n i T st res ∧ GS rwL σ' v T b ∧ (∀ x, b = some x → σ0.next ≤ x) ∧ SR σ' r st c ∧ RStp r σ0 σ' ∧ rg = [(0, .ptr r 0), (3, v), (4, i64 n), (5, i64 i)]
set_option maxHeartbeats 4000000 in
theorem take13_c {σ : St} {r : Nat} {l : List UInt8} {c : Option Nat} (h : SR σ r (.ok l) c) (Q : AVal → St → Prop)
    (hQ : ∀ v T b st σ', GS rwL σ' v T b → (∀ x, b = some x → σ.next ≤ x) → SR σ' r st c → RStp r σ σ' → ((∃ l', st = .ok l' ∧ pTab l = .ok (T, l') ∧ RisT T ∧ T.length ≤ 16) ∨ ∃ e, st = .error e ∧ pTab l = .error e) → Q v σ') : ACall Tryd.prog 13 [.ptr r 0] σ Q := by
  refine ACall.of_compF hmx (fun a w => Tryd.call13 a w) Tryd.func13 cf13 (n := 1) (by decide) rfl ?_
  simp [ac13, rs13, lk_cons]
  refine snum_c h (k := 1) (by decide) _ fun σ1 h1 hn1 hm1 => ?_
  obtain ⟨n, st1, hs⟩ : ∃ n st1, sNum 1 (.ok l) = (n, st1) := ⟨_, _, rfl⟩
  rw [hs] at h1
  simp only [hs]
  have hrlt := h.1
  have hcl := h.2.2.1
  have hn256 : n < 256 ∧ TkOk n 0 [] st1 (pTab l) := by
    rcases sNum_st 1 l with ⟨x, r', k1, k2⟩ | ⟨e, k1, k2⟩
    · rw [hs] at k2; cases k2
      exact ⟨by have := (pNum_len k1).2; omega, rfl, by omega, ⟨List.Pairwise.nil, fun p hp => by cases hp⟩, by rw [pTab, k1]; rfl⟩
    · rw [hs] at k2; cases k2
      exact ⟨by omega, rfl, by show pTab l = _; rw [pTab, k1]⟩
  have wn : IntKind.i64.wrap (n : Int) = n := by rw [IntWalk.i64_in] <;> omega
  have st01 : RStp r σ σ1 := ⟨by omega, fun a _ ha => hm1 a ha⟩
  simp [lk_cons, wn]
  refine wp_loop (TsJ r n (pTab l) c σ) n ?_ ?_
  · exact ⟨0, [], .nilsl, none, st1, rfl, Nat.zero_le _, hn256.1, hn256.2, GS.nil _, by simp, h1, st01, by simp [lk_cons]⟩
  · rintro mm rg σ2 ⟨i, T, v, b, st, rfl, hi, _, htk, hg, hb, hsr, hst, rfl⟩
    obtain ⟨hTi, htk⟩ := htk
    obtain ⟨g1, g2, g3, g4⟩ := id hsr
    by_cases hc : i < n
    · have hc' : (i : Int) < n := by omega
      cases st with
      | error e =>
        obtain ⟨k0, v', k1, k2⟩ := g4
        have e0 : ¬ (e : Int) = 0 := by omega
        simp [lk_cons, hc, hc', k2, k0, e0]
        exact hQ v T b _ σ2 hg hb hsr hst (.inr ⟨e, rfl, htk⟩)
      | ok l3 =>
        obtain ⟨v', k1, k2, k3⟩ := g4
        obtain ⟨h16, hris, hpl⟩ := htk
        have hlenT := hg.len
        have w1 : IntKind.i64.wrap ((i : Int) + 1) = ((i + 1 : Nat) : Int) := by rw [IntWalk.i64_in] <;> omega
        obtain ⟨nb, d, g, e, s1, s2, s3, s4, t1, t2, t3, t4, hline⟩ := line_st l3
        simp [lk_cons, hc, hc', k1]
        refine stext_c hsr _ fun σ3 p1 p2 p3 => ?_
        rw [t1] at p1
        simp only [t1]
        obtain ⟨nm, hnm⟩ : ∃ nm : ByteArray, (⟨nb.toArray⟩ : ByteArray) = nm := ⟨_, rfl⟩
        rw [hnm] at hline ⊢
        have q0 : r < σ3.next := p1.1
        have sk : ∀ (A B : Blk), SR ⟨(σ3.mem.set σ3.next A).set σ3.next B, σ3.next + 1⟩ r s1 c := fun A B => p1.keep (by simp) fun a ha _ => by simp [show ¬ a = σ3.next by omega]
        have e6 : σ3.next ≠ r := by omega
        simp [lk_cons, fillL, storeL]
        refine snum_c (sk _ _) (k := 8) (by decide) _ fun σ4 q1 q2 q3 => ?_
        rw [t2] at q1
        simp only [t2]
        have m4 := q3 σ3.next e6
        simp at m4 q2
        have e4 : σ3.next ≠ σ4.next := by omega
        simp [lk_cons, m4, storeL]
        refine snum_c (st := s2) (c := c) (q1.keep (by simp) fun a ha hac => ?_) (k := 8) (by decide) _ fun σ5 u1 u2 u3 => ?_
        · have : a ≠ σ3.next := by
            rcases hac with rfl | hac
            · exact Ne.symm e6
            · have := p1.2.2.1 a hac; omega
          simp [this]
        rw [t3] at u1
        simp only [t3]
        have m5 := u3 σ3.next e6
        simp at m5 u2
        simp [lk_cons, m5, storeL]
        refine snum_c (st := s3) (c := c) (u1.keep (by simp) fun a ha hac => ?_) (k := 8) (by decide) _ fun σ6 x1 x2 x3 => ?_
        · have : a ≠ σ3.next := by
            rcases hac with rfl | hac
            · exact Ne.symm e6
            · have := p1.2.2.1 a hac; omega
          simp [this]
        rw [t4] at x1
        simp only [t4]
        have m6 := x3 σ3.next e6
        simp at m6 x2
        simp [lk_cons, m6, storeL, -wp_seq]
        rw [wp_seq]
        simp [lk_cons, storeL, -wp_seq]
        obtain ⟨S, hS⟩ : ∃ S : St, S = ⟨(σ6.mem.set σ3.next (.cells 5 [.str nm, .int .u64 0, .int .u64 (d : Int), .int .u64 (g : Int), .int .u64 (e : Int)])).set σ3.next (.cells 5 [.str nm, .int .u64 (d : Int), .int .u64 (d : Int), .int .u64 (g : Int), .int .u64 (e : Int)]), σ6.next⟩ := ⟨_, rfl⟩
        have mS : S.mem.get σ3.next = some (.cells 5 [.str nm, .int .u64 (d : Int), .int .u64 (d : Int), .int .u64 (g : Int), .int .u64 (e : Int)]) := by rw [hS]; simp
        have kS : ∀ a, a < σ2.next → a ≠ r → S.mem.get a = σ2.mem.get a := fun a ha har => by
          have z : ¬ a = σ3.next := by omega
          rw [hS]
          simp only [Mem.get_set, if_neg z]
          rw [x3 a har]
          simp only [Mem.get_set, if_neg z]
          rw [u3 a har]
          simp only [Mem.get_set, if_neg z]
          rw [q3 a har]
          simp only [Mem.get_set, if_neg z]
          exact p3 a har
        have nS : S.next = σ2.next + 1 := by rw [hS]; show σ6.next = _; omega
        have srS : SR S r s4 c := x1.keep (by rw [hS]; exact Nat.le_refl _) fun a ha hac => by
          have : a ≠ σ3.next := by
            rcases hac with rfl | hac
            · exact Ne.symm e6
            · have := p1.2.2.1 a hac; omega
          rw [hS]; simp [this]
        have hbr : b ≠ some r := fun eb => by have := hb r eb; omega
        have gS : GS rwL S v T b := hg.keep (by omega) fun a ha hab => kS a ha (fun ea => hbr (by rw [hab, ea]))
        have stS : RStp r σ S := hst.trans ⟨by omega, kS⟩
        rw [← hS]
        refine wp_cutE (fun rr σ' => rr.lookup 0 = some (.ptr r 0) ∧ rr.lookup 3 = some v ∧ rr.lookup 4 = some (i64 n) ∧ rr.lookup 5 = some (i64 i) ∧ rr.lookup 6 = some (.ptr σ3.next 0) ∧ SR σ' r (if rBad i T nm d then sFail 23 s4 else s4) c ∧ σ'.next = S.next ∧ ∀ a, a ≠ r → σ'.mem.get a = S.mem.get a) ?_ ?_
        · have bad : rBad i T nm d = true → ∀ Q : AVal → St → Prop, (∀ σ', SR σ' r (if rBad i T nm d then sFail 23 s4 else s4) c → σ'.next = S.next → (∀ a, a ≠ r → σ'.mem.get a = S.mem.get a) → Q (.tup []) σ') → ACall Tryd.prog 27 [.ptr r 0, .int .i64 23] S Q := fun hb Q hq => by
            refine sfail_c srS (e := 23) (by decide) Q fun σ' y1 y2 y3 => hq σ' (by rw [hb]; exact y1) y2 y3
          have strE : ∀ a b : ByteArray, abinS .eql a b = some (.bool (decide (a = b))) := strEq
          by_cases c1 : nm = ⟨#[]⟩
          · have hb1 : rBad i T nm d = true := by simp [rBad, c1]
            simp [lk_cons, mS, strE, c1]
            refine bad hb1 _ fun σ' y1 y2 y3 => ?_
            simp [lk_cons]
            simp only [c1] at y1
            exact ⟨y1, y2, y3⟩
          by_cases c2 : 64 < nm.size
          · have hb1 : rBad i T nm d = true := by simp [rBad, c2]
            have c2' : (64 : Int) < nm.size := by omega
            simp [lk_cons, mS, strE, c1, c2, c2']
            refine bad hb1 _ fun σ' y1 y2 y3 => ?_
            simp [lk_cons]
            exact ⟨y1, y2, y3⟩
          have c2' : ¬ (64 : Int) < nm.size := by omega
          by_cases c3 : d = 0
          · have hb1 : rBad i T nm d = true := by simp [rBad, c3]
            have c3' : (d : Int) = 0 := by omega
            simp [lk_cons, mS, strE, c1, c2, c2', c3, c3']
            refine bad hb1 _ fun σ' y1 y2 y3 => ?_
            simp [lk_cons]
            simp only [c3] at y1
            exact ⟨y1, y2, y3⟩
          have c3' : ¬ (d : Int) = 0 := by omega
          by_cases c4 : i = 16
          · have hb1 : rBad i T nm d = true := by simp [rBad, c4]
            have c4' : (i : Int) = 16 := by omega
            simp [lk_cons, mS, strE, c1, c2, c2', c3, c3', c4, c4']
            refine bad hb1 _ fun σ' y1 y2 y3 => ?_
            simp [lk_cons]
            exact ⟨by rw [← c4]; exact y1, y2, y3⟩
          have c4' : ¬ (i : Int) = 16 := by omega
          by_cases c5 : 0 < i
          · have c5' : (0 : Int) < i := by omega
            have hTl : 0 < T.length := by omega
            have hTl' : (0 : Int) < T.length := by omega
            obtain ⟨p, hp⟩ : ∃ p, T[T.length - 1]? = some p := ⟨_, List.getElem?_eq_getElem (by omega)⟩
            have hlast : lastN T = p.1 := by rw [lastN, List.getLast?_eq_getElem?, hp]
            have wl : IntKind.i64.wrap ((T.length : Int) - 1) = ((T.length - 1 : Nat) : Int) := by rw [IntWalk.i64_in] <;> omega
            obtain ⟨o, ho1, ho2, mo, io⟩ := gS.idx (i := T.length - 1) (by omega)
            obtain ⟨r0, _⟩ := rwL_row hp
            have geq : abinS .geq p.1 nm = some (.bool (!lessB p.1 nm)) := by simp only [abinS, bLess]
            revert wl io r0
            generalize T.length - 1 = k
            intro wl io r0
            cases hls : lessB p.1 nm with
            | false =>
              have hb1 : rBad i T nm d = true := by simp [rBad, hlast, hls, c5]
              rw [hls] at geq
              simp [lk_cons, mS, strE, c1, c2, c2', c3, c3', c4, c4', c5, c5', ↓hlenT, hTl, hTl', wl, ↓io, mo, r0, geq]
              refine bad hb1 _ fun σ' y1 y2 y3 => ?_
              simp [lk_cons]
              exact ⟨y1, y2, y3⟩
            | true =>
              have hb1 : rBad i T nm d = false := by
                have : ¬ 64 < nm.size := c2
                simp [rBad, hlast, hls, c1, c3, c4]; omega
              rw [hls] at geq
              simp [lk_cons, mS, strE, c1, c2, c2', c3, c3', c4, c4', c5, c5', ↓hlenT, hTl, hTl', wl, ↓io, mo, r0, geq]
              rw [hb1]; exact srS
          · have c5' : ¬ (0 : Int) < i := by omega
            have hb1 : rBad i T nm d = false := by
              simp [rBad, c1, c3, c4, c5]; omega
            simp [lk_cons, mS, strE, c1, c2, c2', c3, c3', c4, c4', c5, c5']
            rw [hb1]; exact srS
        · rintro rr σ7 ⟨l0, l3', l4, l5, l6, y1, y2, y3⟩
          have m7 := (y3 σ3.next e6).trans mS
          have g7 : GS rwL ⟨σ7.mem.set σ7.next (.cells 5 [.str nm, .int .u64 (d : Int), .int .u64 (d : Int), .int .u64 (g : Int), .int .u64 (e : Int)]), σ7.next + 1⟩ v T b := gS.keep (by simp; omega) fun a ha hab => by
            simp [show ¬ a = σ7.next by omega]
            exact y3 a fun ea => hbr (by rw [hab, ea])
          obtain ⟨σ8, f1, f2, f3, f4⟩ := gs_app1 g7 (nb := σ7.next) (by_ := 48) (t := true) (x := (nm, (d, d, g, e))) (by decide) (by simp [rwL]) (fun ea => by have := hg.lt ea; omega) (by omega) (by omega)
          simp [lk_cons, l0, l3', l4, l5, l6, m7, fillL, repL, storeL, ↓f1, w1]
          have w2 : ((i : Int) + 1) = ((i + 1 : Nat) : Int) := by omega
          have nx : ∀ x, some (σ7.next + 1) = some x → σ.next ≤ x := fun x hx => by cases hx; have := stS.1; omega
          have srF : SR σ8 r (if rBad i T nm d then sFail 23 s4 else s4) c := y1.keep (by rw [f3]; show _ ≤ _ + 1 + 1; omega) fun a ha hac => by
            have hba : b ≠ some a := by
              intro eb
              rcases hac with rfl | hac
              · exact hbr eb
              · have h1 := hb a eb; have h2 := hcl a hac; omega
            rw [f4 a (by show a < σ7.next + 1; omega) hba]
            have : ¬ a = σ7.next := by omega
            simp [this]
          have stF : RStp r σ σ8 := ⟨by rw [f3]; show _ ≤ σ7.next + 1 + 1; have := stS.1; omega, fun a ha har => by
            have hba : b ≠ some a := fun eb => by have := hb a eb; omega
            have hn := stS.1
            rw [f4 a (by show a < σ7.next + 1; omega) hba]
            have : ¬ a = σ7.next := by omega
            simp [this]
            exact (y3 a har).trans (stS.2 a ha har)⟩
          refine ⟨n - (i + 1), by omega, i + 1, T ++ [(nm, (d, d, g, e))], _, some (σ7.next + 1), (if rBad i T nm d then sFail 23 s4 else s4), rfl, by omega, hn256.1, ⟨by simp [hTi], ?_⟩, f2, nx, srF, stF, by rw [w2]⟩
          have hk : n - i = (n - (i + 1)) + 1 := by omega
          rw [hk, pLines] at hpl
          rcases hline with ⟨l', hp1, rfl⟩ | ⟨c1, hp1, rfl⟩
          · rw [hp1] at hpl
            simp only [rBad_ln hTi h16] at hpl
            cases hbad : rBad i T nm d with
            | true => rw [hbad] at hpl; exact hpl.symm
            | false =>
              rw [hbad] at hpl
              have hln := rBad_ln hTi h16 nm d g e
              rw [hbad] at hln
              simp only [lnBad, Bool.or_eq_false_iff, Bool.not_eq_false', decide_eq_false_iff_not] at hln
              obtain ⟨r1, r2⟩ := hris.snoc (x := (nm, (d, d, g, e))) hln.1.1.1
              refine ⟨by omega, r1, ?_⟩
              rw [setB_new r2] at hpl
              rw [lastN_snoc]
              exact hpl
          · rw [hp1] at hpl
            cases hbad : rBad i T nm d with
            | true => exact hpl.symm
            | false => exact hpl.symm
    · have : i = n := by omega
      subst this
      simp [lk_cons]
      cases st with
      | error e => exact hQ v T b _ σ2 hg hb hsr hst (.inr ⟨e, rfl, htk⟩)
      | ok l3 =>
        obtain ⟨h16, hris, hpl⟩ := htk
        rw [Nat.sub_self, pLines] at hpl
        exact hQ v T b _ σ2 hg hb hsr hst (.inl ⟨l3, rfl, hpl.symm, hris, by omega⟩)
end Go.Proofs.YtieieknhhfallaaDoor.AM

/- One bit turned. -/
namespace Go.Proofs.YtieieknhhfallaaDoor.AM
open Go.RowKit
set_option maxRecDepth 100000
set_option linter.unusedVariables false
set_option linter.unusedSimpArgs false

theorem xor8 {a b : Nat} (ha : a < 256) (hb : b < 256) : abits .xor .u8 (a : Int) (b : Int) = some (.int .u8 ((a ^^^ b : Nat) : Int)) := by
  have h2 : ((BitVec.ofInt IntKind.u8.bits (a : Int)) ^^^ (BitVec.ofInt IntKind.u8.bits (b : Int))).toNat = a ^^^ b := by
    have e : IntKind.u8.bits = 8 := rfl
    rw [e]
    simp only [BitVec.ofInt_natCast, BitVec.toNat_xor, BitVec.toNat_ofNat]
    rw [Nat.mod_eq_of_lt ha, Nat.mod_eq_of_lt hb]
  have h3 : a ^^^ b < 256 := Nat.xor_lt_two_pow (n := 8) ha hb
  simp only [abits, h2]
  rw [IntWalk.u8_in]; omega
theorem shl8t {s : Nat} (hs : s ≤ 8) : ∃ m : Nat, m < 256 ∧ ashift .shl .u8 1 (s : Int) = some (.int .u8 (m : Int)) := by
  rcases (by omega : s = 0 ∨ s = 1 ∨ s = 2 ∨ s = 3 ∨ s = 4 ∨ s = 5 ∨ s = 6 ∨ s = 7 ∨ s = 8) with rfl | rfl | rfl | rfl | rfl | rfl | rfl | rfl | rfl
  · exact ⟨1, by decide, rfl⟩
  · exact ⟨2, by decide, rfl⟩
  · exact ⟨4, by decide, rfl⟩
  · exact ⟨8, by decide, rfl⟩
  · exact ⟨16, by decide, rfl⟩
  · exact ⟨32, by decide, rfl⟩
  · exact ⟨64, by decide, rfl⟩
  · exact ⟨128, by decide, rfl⟩
  · exact ⟨0, by decide, rfl⟩
theorem gsB_at {σ : St} {v : AVal} {l : List UInt8} {b : Option Nat} (h : GS rwB σ v l b) {k : Nat} (hk : k < l.length) : ∃ (o x : Nat), b = some o ∧ o < σ.next ∧ x < 256 ∧ (∀ ρ, evalV ρ (.idxAddr 1 v (.int .i64 (k : Int))) = some (.ptr o k, ρ)) ∧ evalV σ (.ld1 (.ptr o k)) = some (.int .u8 (x : Int), σ) ∧
    ∀ y : Nat, y < 256 → ∃ σ', evalV σ (.st 1 (.ptr o k) (.int .u8 (y : Int))) = some (.nilp, σ') ∧ GS rwB σ' v (l.set k (UInt8.ofNat y)) b ∧ σ'.next = σ.next ∧ ∀ a, a ≠ o → σ'.mem.get a = σ.mem.get a := by
  obtain ⟨o, h1, h2, h3, h4⟩ := h.idx hk
  obtain ⟨x, hx⟩ : ∃ x, l[k]? = some x := ⟨_, List.getElem?_eq_getElem hk⟩
  rw [rwsB] at h3
  have h9 : (bytesV l)[k]? = some (.int .u8 (x.toNat : Int)) := by simp [bytesV, hx]
  have hlen : (bytesV l).length = l.length := bytesV_len l
  rw [Nat.mul_one] at h4
  refine ⟨o, x.toNat, h1, h2, x.toNat_lt, h4, by simp [h3, h9], fun y hy => ?_⟩
  refine ⟨⟨σ.mem.set o (.cells 1 (bytesV (l.set k (UInt8.ofNat y)))), σ.next⟩, ?_, ?_, rfl, fun a ha => by simp [ha]⟩
  · simp [h3, storeL, hlen]
    refine ⟨hk, ?_⟩
    have hy' : ((UInt8.ofNat y).toNat : Int) = (y : Int) := by simp; omega
    have : (bytesV l).set k (.int .u8 (y : Int)) = bytesV (l.set k (UInt8.ofNat y)) := by
      simp only [bytesV, List.map_set, hy']
    rw [this]
  · rcases h with ⟨_, rfl, _⟩ | ⟨o', t, q1, q2, q3, q4⟩
    · simp at hk
    · rw [h1] at q1; cases q1
      refine .inr ⟨o, t, h1, ?_, h2, ?_⟩
      · rw [List.length_set]; exact q2
      · rw [rwsB]; simp
/-- What taken gives, in one. -/
def TkRel (σ σ' : St) (l : List UInt8) (gv : AVal) (code : Nat) : Prop := (pTab l = .error code ∧ gv = .nilsl) ∨ (∃ S l', pTab l = .ok (S, l') ∧ l' ≠ [] ∧ gv = .nilsl ∧ code = 5) ∨ ∃ S ys b', pTab l = .ok (S, []) ∧ ys.Perm S ∧ RisL ys ∧ GS rwL σ' gv ys b' ∧ (∀ x, b' = some x → σ.next ≤ x) ∧ code = 0
theorem taken_k {σ : St} {bv : AVal} {l : List UInt8} {c : Option Nat} (hb : RdB σ bv l c) (hl : l.length ≤ 1000000000) (Q : AVal → St → Prop) (hQ : ∀ gv code σ', TkRel σ σ' l gv code → Grow σ σ' → Q (.tup [gv, i64 (code : Nat)]) σ') : ACall Tryd.prog 12 [bv] σ Q :=
  taken_c hb hl Q (fun e σ' h g => hQ _ e σ' (.inl ⟨h, rfl⟩) g) (fun S l' σ' h hn g => hQ _ 5 σ' (.inr (.inl ⟨S, l', h, hn, rfl, rfl⟩)) g) fun S v ys b' σ' h1 h2 h3 h4 h5 g => hQ _ 0 σ' (.inr (.inr ⟨S, ys, b', h1, h2, h3, h4, h5, rfl⟩)) g
def TkB (v : AVal) (L : List DAct) (b v0 : AVal) (at' bit : AVal) (t mp : Nat) (mm : Nat) (rg : Regs) (σ' : St) : Prop := ∃ (i : Nat) (T : Tbl), mm = L.length - i ∧ i ≤ L.length ∧ TRep σ' t mp T ∧ T.length ≤ 16 ∧ (∀ x ∈ T, LnOk x) ∧ rg = [(0, b), (2, at'), (3, bit), (9, .ptr t 0), (26, v), (27, i64 (L.length : Nat)), (28, i64 i)]
def TkL (S : St) (sb : Nat) (mm : Nat) (rg : Regs) (σ' : St) : Prop := ∃ i, mm = 2 - i ∧ i ≤ 2 ∧ Grow S σ' ∧ rg = [(80, .sl sb 0 2 2 true), (81, i64 2), (82, i64 i)]
set_option maxHeartbeats 4000000 in
theorem takes_c {v : AVal} {L : List DAct} {bv : AVal} {bl : List UInt8} {z : Int} {y : Nat} (hb : BytesOf bv bl) (hv : IS rwA v L) (hok : ∀ a ∈ L, a.ok) (hn : ∀ a ∈ L, a.n.size ≤ 140737488355328) (hl : L.length ≤ 4611686018427387904) (hbl : bl.length ≤ 4611686018427387904) (hy : y < 256) : ACall Tryd.prog 3 [bv, v, .int .i64 z, .int .u8 (y : Int)] σ0 fun v _ => v = .bool true := by
  refine ACall.of_compF hmx (fun a w => Tryd.call3 a w) Tryd.func3 cf3 (n := 4) (by decide) rfl ?_
  have hlen := hv.len
  have hblen := (RdB.ofI hb σ0).len
  simp [ac3, rs3, lk_cons]
  refine awake _ _ ?_
  by_cases h3 : 3000 < bl.length
  · have h3' : (3000 : Int) < bl.length := by omega
    simp [lk_cons, ↓hblen, h3, h3']
  have h3' : ¬ (3000 : Int) < bl.length := by omega
  simp [lk_cons, ↓hblen, h3, h3']
  refine tnew_c _ _ fun t mp σ1 hr hn1 hk1 hge => ?_
  simp [lk_cons, ↓hlen]
  refine wp_loop (TkB v L bv v (.int .i64 z) (.int .u8 (y : Int)) t mp) L.length ?_ ?_
  · exact ⟨0, [], rfl, Nat.zero_le _, hr, by simp, fun x h => (by cases h), by simp [lk_cons]⟩
  · rintro mm rg σ2 ⟨i, T, rfl, hi, q1, q2, q4, rfl⟩
    by_cases hc : i < L.length
    · obtain ⟨a, ha⟩ : ∃ a, L[i]? = some a := ⟨_, List.getElem?_eq_getElem hc⟩
      have e1 := hv.at ha
      have hak := hok a (List.mem_of_getElem? ha)
      have han := hn a (List.mem_of_getElem? ha)
      have w1 : IntKind.i64.wrap ((i : Int) + 1) = ((i + 1 : Nat) : Int) := by rw [IntWalk.i64_in] <;> omega
      have hlt := q1.lt
      have q1g : ∀ A B : Blk, TRep ⟨(σ2.mem.set σ2.next A).set σ2.next B, σ2.next + 1⟩ t mp T := fun A B => q1.frame (fun x hx => by
        have : x < σ2.next := by rcases hx with rfl | rfl <;> omega
        simp [show ¬ x = σ2.next by omega]) (by simp)
      simp only [rwA] at e1
      by_cases hi100 : i < 60
      · have hi100' : (i : Int) < 60 := by omega
        by_cases hn64 : a.n.size ≤ 64
        · have hn64' : (a.n.size : Int) ≤ 64 := by omega
          simp [lk_cons, hc, ↓e1, storeL, hi100, hi100', hn64, hn64']
          refine few_c a (by omega) _ _ ?_
          obtain ⟨f1, f2, f3⟩ := fewA_ok hak (by omega)
          revert f1 f2
          clear f3
          generalize fewA a = a'
          intro f1 f2
          simp [lk_cons, storeL]
          obtain ⟨S, hS⟩ : ∃ S : St, S = ⟨((σ2.mem.set σ2.next (.cells 6 [.int .u8 0, .str ⟨#[]⟩, .int .u64 0, .int .u64 0, .int .u64 0, .bool false])).set σ2.next (.cells 6 (drow a))).set σ2.next (.cells 6 (drow a')), σ2.next + 1⟩ := ⟨_, rfl⟩
          have hmS : S.mem.get σ2.next = some (.cells 6 (drow a')) := by rw [hS]; simp
          have hSn : σ2.next < S.next := by rw [hS]; simp
          have hTS : TRep S t mp T := q1.frame (fun x hx => by
            have : x < σ2.next := by rcases hx with rfl | rfl <;> omega
            rw [hS]; simp [show ¬ x = σ2.next by omega]) (by rw [hS]; simp)
          rw [← hS]
          refine begin_c hTS a'.n (by omega) a'.q _ fun σ3 u1 u2 => ?_
          have nmp : σ2.next ≠ mp := by omega
          have m3 := (u2.2 σ2.next hSn nmp).trans hmS
          have n3 := u2.1
          obtain ⟨b1, b2⟩ := begT_ok (n := a'.n) f1.q q4 q2
          revert u1 b1 b2
          generalize begT T a'.n a'.q = T1
          intro u1 b1 b2
          simp [lk_cons, m3]
          refine done_c u1 a'.n a'.q (a'.l, a'.e) _ fun σ4 y1 y2 => ?_
          obtain ⟨d1, d2⟩ := doneT_ok (n := a'.n) (q := a'.q) (p := (a'.l, a'.e)) f1.q ⟨f1.l, f1.e⟩ b1 b2
          simp [lk_cons, w1]
          exact ⟨_, by omega, i + 1, _, rfl, by omega, y1, d2, d1, rfl⟩
        · have hn64' : ¬ (a.n.size : Int) ≤ 64 := by omega
          simp [lk_cons, hc, ↓e1, storeL, hi100, hi100', hn64, hn64', w1]
          exact ⟨_, by omega, i + 1, T, rfl, by omega, q1g _ _, q2, q4, rfl⟩
      · have hi100' : ¬ (i : Int) < 60 := by omega
        simp [lk_cons, hc, ↓e1, storeL, hi100, hi100', w1]
        exact ⟨_, by omega, i + 1, T, rfl, by omega, q1g _ _, q2, q4, rfl⟩
    · have : i = L.length := by omega
      subst this
      simp [lk_cons]
      refine tbytes_c q1 (by omega) q4 _ fun cv ys σ3 b' p1 p2 p3 p4 p5 => ?_
      have hel : (encT ys).length ≤ 1000000 := by
        have h1 := dn_len ys
        have h2 := p1.length_eq
        have := lnsB_len (T := dn ys) fun x hx => q4 x (p1.subset (List.mem_filter.1 hx).1)
        simp only [encT, List.length_append, beN_len]
        omega
      revert p3 hel
      generalize encT ys = cl
      intro p3 hel
      have hclen := p3.len
      simp [lk_cons, -wp_seq]
      refine wp_cutE (fun rr σ' => rr.lookup 0 = some bv ∧ rr.lookup 12 = some cv ∧ ∃ cl', GS rwB σ' cv cl' b' ∧ cl'.length ≤ 1000000) ?_ ?_
      · by_cases h0 : 0 < cl.length
        · have h0' : (0 : Int) < cl.length := by omega
          have hne : ¬ cl = [] := fun e => by rw [e] at h0; simp at h0
          obtain ⟨zz, hz0, hz1⟩ : ∃ zz : Nat, IntKind.u64.wrap z = (zz : Int) ∧ zz < 18446744073709551616 := by
            refine ⟨(IntKind.u64.wrap z).toNat, ?_, ?_⟩ <;> simp only [IntKind.wrap, IntKind.bits, IntKind.signed] <;> simp <;> omega
          obtain ⟨k, hk⟩ : ∃ k, zz % cl.length = k := ⟨_, rfl⟩
          have hkl : k < cl.length := by rw [← hk]; exact Nat.mod_lt _ h0
          have t1 : (zz : Int).tmod (cl.length : Int) = (k : Int) := by rw [Int.tmod_eq_emod_of_nonneg (by omega)]; omega
          have wl : IntKind.u64.wrap (cl.length : Int) = (cl.length : Int) := by rw [IntWalk.u64_in] <;> omega
          have wk : IntKind.i64.wrap (k : Int) = (k : Int) := by rw [IntWalk.i64_in] <;> omega
          have wk' : IntKind.u64.wrap (k : Int) = (k : Int) := by rw [IntWalk.u64_in] <;> omega
          obtain ⟨s9, hs9⟩ : ∃ s9, y % 9 = s9 := ⟨_, rfl⟩
          have t2 : (y : Int).tmod 9 = (s9 : Int) := by rw [Int.tmod_eq_emod_of_nonneg (by omega)]; omega
          have ws : IntKind.u8.wrap (s9 : Int) = (s9 : Int) := by rw [IntWalk.u8_in]; omega
          obtain ⟨m, hm, hsh⟩ := shl8t (s := s9) (by omega)
          obtain ⟨o, x, g1, g2, g3, g4, g5, g6⟩ := gsB_at p3 hkl
          have hxo := xor8 g3 hm
          obtain ⟨σ', j1, j2, j3, j4⟩ := g6 (x ^^^ m) (Nat.xor_lt_two_pow (n := 8) g3 hm)
          simp [lk_cons, ↓hclen, h0, h0', hne, hz0, wl, t1, wk, wk', t2, ws, ↓g4, ↓g5, hsh, hxo, ↓j1]
          exact ⟨_, j2, by rw [List.length_set]; exact hel⟩
        · have h0' : ¬ (0 : Int) < cl.length := by omega
          simp [lk_cons, ↓hclen, h0, h0']
          exact ⟨cl, p3, hel⟩
      · rintro rr σ4 ⟨l0, l12, cl', hg4, hcl'⟩
        have rb : RdB σ4 bv bl none := RdB.ofI hb σ4
        have rc := RdB.ofGS hg4
        obtain ⟨o1, o2⟩ := rb.one
        obtain ⟨o3, o4⟩ := rc.one
        have hclt : ∀ x, b' = some x → x < σ4.next := fun x hx => hg4.lt hx
        simp [lk_cons, l0, l12, fillL, repL, storeL, o1, o2, o3, o4]
        obtain ⟨S, hS⟩ : ∃ S : St, S = ⟨σ4.mem.set σ4.next (.cells 1 [bv, cv]), σ4.next + 1⟩ := ⟨_, rfl⟩
        have mS : S.mem.get σ4.next = some (.cells 1 [bv, cv]) := by rw [hS]; simp
        have nS : S.next = σ4.next + 1 := by rw [hS]
        have rcS : RdB S cv cl' b' := rc.keep (by omega) fun a ha hb => by rw [hS]; simp [show ¬ a = σ4.next by omega]
        rw [← hS]
        obtain ⟨cs, hcs⟩ : ∃ cs : List AVal, cs = [bv, cv] := ⟨_, rfl⟩
        refine wp_loop (TkL S σ4.next) 2 ?_ ?_
        · exact ⟨0, rfl, by omega, Grow.refl _, by simp [lk_cons]⟩
        · rintro mm rg σ5 ⟨i, rfl, hi2, gr, rfl⟩
          have m5 := (gr.2 σ4.next (by omega)).trans mS
          by_cases hi' : i < 2
          · have hi'' : (i : Int) < 2 := by omega
            obtain ⟨xv, xl, xc, hx1, hx2, hx3, hx4⟩ : ∃ (xv : AVal) (xl : List UInt8) (xc : Option Nat), ([bv, cv] : List AVal)[i]? = some xv ∧ RdB σ5 xv xl xc ∧ xl.length ≤ 1000000 ∧ ∀ x, xc = some x → x < S.next := by
              rcases (by omega : i = 0 ∨ i = 1) with rfl | rfl
              · exact ⟨bv, bl, none, rfl, RdB.ofI hb σ5, by omega, by simp⟩
              · exact ⟨cv, cl', b', rfl, rcS.keep gr.1 fun a ha hab => gr.2 a (by have := hclt a hab; omega), hcl', fun x hx => by have := hclt x hx; omega⟩
            have w1 : IntKind.i64.wrap ((i : Int) + 1) = ((i + 1 : Nat) : Int) := by rw [IntWalk.i64_in] <;> omega
            have le2 : i + 1 ≤ 2 := by omega
            have m5' : σ5.mem.get σ4.next = some (.cells 1 cs) := by rw [hcs]; exact m5
            rw [← hcs] at hx1
            simp [lk_cons, hi', hi'', m5', hx1]
            refine taken_k hx2 (by omega) _ fun gv code σ6 tk g6 => ?_
            obtain ⟨o5, o6⟩ := hx2.one
            have hS6 : S.next ≤ σ6.next := Nat.le_trans gr.1 g6.1
            simp [lk_cons, fillL, repL, storeL, o5, o6]
            have sr : SR ⟨σ6.mem.set σ6.next (.cells 2 [xv, .int .i64 0]), σ6.next + 1⟩ σ6.next (.ok xl) xc := ⟨by simp, fun e => by have := hx4 _ e; omega, fun x hx => by have := hx4 x hx; show x < σ6.next + 1; omega, xv, by simp, hx2.keep (by have := g6.1; simp; omega) fun a ha _ => by
              have := g6.1
              simp [show ¬ a = σ6.next by omega]
              exact g6.2 a ha, hx3⟩
            refine take13_c sr _ fun wv T b st σ7 t1 t2 t3 t4 t5 => ?_
            simp [lk_cons]
            refine send_c t3 _ fun σ8 s1 s2 => ?_
            have n7 := t4.next
            simp at n7
            have hG : Grow S σ8 := gr.trans (g6.trans ⟨by omega, fun a ha => by
              have ne : a ≠ σ6.next := by omega
              refine (s2 a ne).trans ((t4.keep a (by show a < σ6.next + 1; omega) ne).trans ?_)
              simp [ne]⟩)
            have hend : ∃ m', m' < 2 - i ∧ TkL S σ4.next m' [(80, .sl σ4.next 0 2 2 true), (81, i64 2), (82, i64 ((i + 1 : Nat) : Int))] σ8 := ⟨2 - (i + 1), by omega, i + 1, rfl, by omega, hG, rfl⟩
            rcases t5 with ⟨l', rfl, hp, hris, h16⟩ | ⟨e, rfl, hp⟩
            · by_cases hl' : l' = []
              · subst hl'
                rcases tk with ⟨k1, _⟩ | ⟨_, l2, k1, k2, _⟩ | ⟨S', zs, b6, k1, k2, k3, k4, k5, rfl⟩
                · rw [hp] at k1; cases k1
                · rw [hp] at k1; cases k1; exact absurd rfl k2
                · rw [hp] at k1; cases k1
                  have hzT : zs = T := by
                    obtain ⟨r1, r2⟩ := RisT.ris hris.1
                    exact RisL.uniq k3 r1 ((k2.map (·.1)).nodup_iff.2 r2) k2
                  subst hzT
                  have kk : GS rwL σ8 gv zs b6 := k4.keep (by omega) fun a ha hab => by
                    have ne : a ≠ σ6.next := by omega
                    refine (s2 a ne).trans ((t4.keep a (by show a < σ6.next + 1; omega) ne).trans ?_)
                    simp [ne]
                  have kt : GS rwL σ8 wv zs b := t1.keep (by omega) fun a ha hab => s2 a (by have := t2 a hab; simp at this; omega)
                  simp [lk_cons, sEnd]
                  refine rsame_c kk kt (by omega) _ ?_
                  simp [lk_cons, w1]
                  exact hend
              · rcases tk with ⟨k1, _⟩ | ⟨_, l2, k1, k2, rfl, rfl⟩ | ⟨S', zs, b6, k1, k2, k3, k4, k5, rfl⟩
                · rw [hp] at k1; cases k1
                · simp [lk_cons, sEnd, hl']
                  refine rsame_c (T := []) (b := none) (c := none) (GS.nil _) (GS.nil _) (by simp) _ ?_
                  simp [lk_cons, w1]
                  exact hend
                · rw [hp] at k1; cases k1; exact absurd rfl hl'
            · have e0 : e ≠ 0 := t3.2.2.2.1
              have e0' : ¬ (e : Int) = 0 := by omega
              rcases tk with ⟨k1, rfl⟩ | ⟨_, l2, k1, k2, rfl, rfl⟩ | ⟨S', zs, b6, k1, k2, k3, k4, k5, rfl⟩
              · rw [hp] at k1; cases k1
                simp [lk_cons, sEnd, e0, e0']
                refine rsame_c (T := []) (b := none) (c := none) (GS.nil _) (GS.nil _) (by simp) _ ?_
                simp [lk_cons, w1]
                exact hend
              · rw [hp] at k1; cases k1
              · rw [hp] at k1; cases k1
          · have : i = 2 := by omega
            subst this
            simp [lk_cons]
end Go.Proofs.YtieieknhhfallaaDoor.AM
