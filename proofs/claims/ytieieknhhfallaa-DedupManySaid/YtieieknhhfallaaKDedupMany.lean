/- As many senders as may be. -/
import Derived.Test.YtieieknhhfallaaCt15
import Derived.Test.YtieieknhhfallaaAm3
import Derived.Test.YtieieknhhfallaaOkDedupMany
namespace Go.Proofs.Ytieieknhhfallaa.AM
open Go.RowKit
set_option maxRecDepth 100000
set_option linter.unusedVariables false
set_option linter.unusedSimpArgs false

def nm (i : Nat) : ByteArray := ⟨#[UInt8.ofNat (97 + i)]⟩
def bitD (d i : Nat) : Bool := d.testBit i
def manyT (d i : Nat) : Tbl := (List.range i).map fun j => (nm j, (1, (if bitD d j then 1 else 0), 0, 0))
def ManyJ (t mp d : Nat) (s : ByteArray) (mm : Nat) (r : Regs) (σ' : St) : Prop := ∃ i : Nat, mm = 16 - i ∧ i ≤ 16 ∧ TRep σ' t mp (manyT d i) ∧ r = [(0, .int .u16 d), (1, .str s), (5, .ptr t 0), (6, .bool true), (22, i64 i)]

theorem nm_inj {i j : Nat} (hi : i < 16) (hj : j < 16) (h : nm i = nm j) : i = j := by
  have h1 := congrArg (fun b : ByteArray => b.data.toList) h
  simp [nm] at h1
  have h2 := congrArg UInt8.toNat h1
  simp at h2
  omega
theorem many_lk {d i : Nat} {n : ByteArray} (h : ∀ j, j < i → n ≠ nm j) : lkB (manyT d i) n = none := by
  rw [lkB_none]
  intro hm
  simp only [manyT, List.map_map, List.mem_map, List.mem_range, Function.comp] at hm
  obtain ⟨j, hj, e⟩ := hm
  exact h j hj e.symm
theorem oneB {n : Nat} (hn : n < 256) : bytesV [UInt8.ofNat n] = [.int .u8 (n : Int)] := by
  simp [bytesV, UInt8.toNat_ofNat_of_lt' (by simpa using hn)]
theorem oneByte {σ : St} {b n : Nat} (hn : n < 256) (hm : σ.mem.get b = some (.cells 1 [.int .u8 (n : Int)])) : evalV σ (.bytesStr (.sl b 0 1 1 true)) = some (.str ⟨#[UInt8.ofNat n]⟩, σ) := by
  have hb : bytesV [UInt8.ofNat n] = [.int .u8 (n : Int)] := by
    simp [bytesV, UInt8.toNat_ofNat_of_lt' (by simpa using hn)]
  have h2 := bytesV_bytes [UInt8.ofNat n]
  rw [hb] at h2
  simp [evalV, srcL, hm, h2]

theorem sh16 (d i : Nat) (hi : i < 16) : ashift .shr .u16 (d : Int) (i : Int) = some (.int .u16 ((d / 2 ^ i : Nat) : Int)) := by
  have h1 : ¬ ((i : Int) < 0) := by omega
  have h2 : min (i : Int).toNat (IntKind.bits .u16) = i := by
    have : IntKind.bits .u16 = 16 := rfl
    rw [this, Int.toNat_natCast]; omega
  simp only [ashift, if_neg h1, h2]
  rw [Int.fdiv_eq_ediv_of_nonneg _ (Int.pow_nonneg (by omega))]
  simp
theorem an16 (x : Nat) (hx : x < 65536) : abits .and .u16 (x : Int) 1 = some (.int .u16 ((x % 2 : Nat) : Int)) := by
  have hb : IntKind.bits .u16 = 16 := rfl
  have e : ((BitVec.ofInt (IntKind.bits .u16) (x : Int)) &&& (BitVec.ofInt (IntKind.bits .u16) 1)).toNat = x % 2 := by
    rw [BitVec.toNat_and, BitVec.toNat_ofInt, BitVec.toNat_ofInt, hb]
    have h1 : ((x : Int) % ((2 ^ 16 : Nat) : Int)).toNat = x := by
      have : ((2 ^ 16 : Nat) : Int) = 65536 := rfl
      rw [this]; omega
    have h2 : ((1 : Int) % ((2 ^ 16 : Nat) : Int)).toNat = 1 := rfl
    rw [h1, h2, Nat.and_one_is_mod]
  simp only [abits, e]
  congr 2
  rw [IntWalk.u16_in]; omega
theorem setB_last {n : ByteArray} {x y : Ln} : ∀ {T : Tbl}, lkB T n = none → setB (T ++ [(n, x)]) n y = T ++ [(n, y)]
  | [], _ => by simp [setB]
  | (k, z) :: T, h => by
    simp only [lkB] at h
    by_cases hk : n = k
    · rw [if_pos hk] at h; cases h
    · rw [if_neg hk] at h
      simp only [List.cons_append, setB, if_neg hk, setB_last h]
theorem dmany_c (d : Nat) (hd : d < 65536) (s : ByteArray) : ACall Try.prog 3 [.int .u16 d, .str s] σ0 fun v _ => v = .bool true := by
  refine ACall.of_compF hmx (fun a w => Try.call3 a w) Try.func3 cf3 (n := 2) (by decide) rfl ?_
  simp [ac3, rs3, lk_cons]
  refine awake _ _ ?_
  by_cases h2 : s.size < 2
  · have h2' : (s.size : Int) < 2 := by omega
    simp [lk_cons, h2, h2']
  by_cases h64 : 64 < s.size
  · have h2' : ¬ (s.size : Int) < 2 := by omega
    have h64' : (64 : Int) < s.size := by omega
    simp [lk_cons, h2, h2', h64, h64']
  have h2' : ¬ (s.size : Int) < 2 := by omega
  have h64' : ¬ (64 : Int) < s.size := by omega
  simp [lk_cons, h2, h2', h64, h64']
  refine tnew_c _ _ fun t mp σ1 hr hn1 hk1 hge => ?_
  simp [lk_cons]
  refine wp_loop (ManyJ t mp d s) 16 ?_ ?_
  · exact ⟨0, rfl, by omega, hr, rfl⟩
  · rintro mm r σ2 ⟨i, rfl, hi, hr2, rfl⟩
    by_cases hlt : i < 16
    · have hlt' : (i : Int) < 16 := by omega
      obtain ⟨c, hc⟩ : ∃ c, 97 + i = c := ⟨_, rfl⟩
      have w1 : IntKind.i64.wrap (97 + (i : Int)) = (c : Int) := by rw [IntWalk.i64_in] <;> omega
      have w2 : IntKind.u8.wrap (c : Int) = (c : Int) := by rw [IntWalk.u8_in]; omega
      obtain ⟨k, hk⟩ : ∃ k, i + 1 = k := ⟨_, rfl⟩
      have hwi : IntKind.i64.wrap ((i : Int) + 1) = (k : Int) := by rw [IntWalk.i64_in] <;> omega
      have hlt2 := hr2.lt
      have hr3 : TRep ⟨σ2.mem.set σ2.next (.cells 1 [.int .u8 (c : Int)]), σ2.next + 1⟩ t mp (manyT d i) := hr2.frame (fun a ha => by simp [show ¬ a = σ2.next by omega]) (by simp)
      have os := bytesV_bytes [UInt8.ofNat c]
      rw [oneB (by omega)] at os
      have hnm : (⟨[UInt8.ofNat c].toArray⟩ : ByteArray) = nm i := by rw [nm, hc]
      simp at os hnm
      have hnone : lkB (manyT d i) (nm i) = none := many_lk fun j hj e => by have := nm_inj (by omega) (by omega) e; omega
      have hlen : (manyT d i).length = i := by simp [manyT]
      have hns : (nm i).size = 1 := rfl
      have hb : begC (manyT d i) (nm i) 1 = 0 := by
        rw [begC, hnone, hlen]; simp [hns]; omega
      have r1 : repL 1 [AVal.int .u8 0] = [AVal.int .u8 0] := rfl
      simp [lk_cons, hlt, hlt', fillL, storeL, r1, w1, w2, os, hnm, srcL]
      refine begin_c hr3 (nm i) (by rw [hns]; omega) 1 _ fun σ3 hr4 hk3 => ?_
      rw [begT, if_pos hb, hnone] at hr4
      have hr4 : TRep σ3 t mp (manyT d i ++ [(nm i, (1, 0, 0, 0))]) := by rw [← setB_new hnone]; exact hr4
      rw [hb]
      have s1 := sh16 d i hlt
      have s2 := an16 (d / 2 ^ i) (Nat.lt_of_le_of_lt (Nat.div_le_self _ _) hd)
      have hbit : bitD d i = decide (d / 2 ^ i % 2 = 1) := by rw [bitD, Nat.testBit_eq_decide_div_mod_eq]
      generalize d / 2 ^ i = xt at hbit s1 s2
      generalize xt % 2 = bt at hbit s2
      have hmk : manyT d k = manyT d i ++ [(nm i, (1, (if bitD d i then 1 else 0), 0, 0))] := by
        rw [← hk, manyT, List.range_succ, List.map_append]; rfl
      by_cases hbt : bt = 1
      · subst hbt
        simp at hbit
        simp [lk_cons, s1, s2, fillL]
        have hget : lkB (manyT d i ++ [(nm i, (1, 0, 0, 0))]) (nm i) = some (1, 0, 0, 0) := by
          rw [← setB_new hnone, setB_get]; simp
        have hdc : doneC (manyT d i ++ [(nm i, (1, 0, 0, 0))]) (nm i) 1 = 0 := by rw [doneC, hget]; rfl
        refine done_c hr4 (nm i) 1 (0, 0) _ fun σ4 hr5 hk4 => ?_
        rw [doneT, if_pos hdc, hget, setB_last hnone] at hr5
        rw [hdc]
        simp [lk_cons, hwi]
        refine ⟨16 - k, by omega, k, rfl, by omega, ?_, rfl⟩
        rw [hmk, hbit]; exact hr5
      · have hbt' : ¬ (bt : Int) = 1 := by omega
        simp [hbt] at hbit
        simp [lk_cons, s1, s2, fillL, hbt, hbt', hwi]
        refine ⟨16 - k, by omega, k, rfl, by omega, ?_, rfl⟩
        rw [hmk, hbit]; exact hr4
    · have : i = 16 := by omega
      subst this
      have hsz : s.size ≤ 64 ∧ 2 ≤ s.size := by omega
      have hnn : ∀ j, s ≠ nm j := fun j e => by
        have := congrArg ByteArray.size e
        have h1 : (nm j).size = 1 := rfl
        omega
      have hnone : lkB (manyT d 16) s = none := many_lk fun j _ => hnn j
      have hno : ¬ (s.size = 0 ∨ 64 < s.size) := by omega
      have hb : begC (manyT d 16) s 1 = 14 := by
        rw [begC, hnone, if_neg hno]; simp [manyT]
      simp [lk_cons]
      refine begin_c hr2 s (by omega) 1 _ fun σ3 hr4 hk3 => ?_
      rw [begT, if_neg (by rw [hb]; omega)] at hr4
      rw [hb]
      simp [lk_cons]
      refine forget_c hr4 _ fun σ4 hr5 hk4 => ?_
      simp [lk_cons]
      have hnone2 : lkB (fgt (manyT d 16)) s = none := by
        rw [lkB_none]
        intro hm
        simp only [fgt, List.map_map, List.mem_map, List.mem_filter, Function.comp] at hm
        obtain ⟨p, ⟨hp, _⟩, e⟩ := hm
        simp only [manyT, List.mem_map, List.mem_range] at hp
        obtain ⟨j, hj, rfl⟩ := hp
        exact hnn j e.symm
      have hlen : (16 ≤ (fgt (manyT d 16)).length) ↔ d = 65535 := by
        have hf : (fgt (manyT d 16)).length = (List.range 16).countP fun j => bitD d j := by
          have gen : ∀ l : List Nat, (fgt (l.map fun j => (nm j, ((1, (if bitD d j then 1 else 0), 0, 0) : Ln)))).length = l.countP fun j => bitD d j := by
            intro l
            induction l with
            | nil => rfl
            | cons a l ih =>
              simp only [fgt, List.map_cons, List.filter_cons, List.countP_cons, List.length_map] at ih ⊢
              cases hb : bitD d a
              · simp; simpa using ih
              · simp; simpa using ih
          exact gen _
        rw [hf]
        constructor
        · intro h
          have hc : (List.range 16).countP (fun j => bitD d j) = (List.range 16).length := Nat.le_antisymm List.countP_le_length (by simpa using h)
          rw [List.countP_eq_length] at hc
          refine Nat.eq_of_testBit_eq fun j => ?_
          rw [show 65535 = 2 ^ 16 - 1 from rfl, Nat.testBit_two_pow_sub_one]
          by_cases hj : j < 16
          · rw [decide_eq_true hj]; exact hc j (List.mem_range.2 hj)
          · rw [decide_eq_false hj]
            exact Nat.testBit_lt_two_pow (Nat.lt_of_lt_of_le (show d < 2 ^ 16 from hd) (Nat.pow_le_pow_right (Nat.succ_pos 1) (Nat.le_of_not_lt hj)))
        · rintro rfl
          decide
      refine begin_c hr5 s (by omega) 1 _ fun σ5 hr6 hk5 => ?_
      by_cases hd2 : d = 65535
      · have hb2 : begC (fgt (manyT d 16)) s 1 = 14 := by
          rw [begC, hnone2, if_neg hno]; simp [hlen.2 hd2]
        rw [hb2]
        simp [lk_cons, hd2]
      · have hd3 : ¬ (d : Int) = 65535 := by omega
        have hb2 : begC (fgt (manyT d 16)) s 1 = 0 := by
          have h16 : ¬ 16 ≤ (fgt (manyT d 16)).length := fun h => hd2 (hlen.1 h)
          rw [begC, hnone2, if_neg hno]; simp [h16]
        rw [hb2]
        simp [lk_cons, hd2, hd3]

open OkDedupMany in
theorem lawDedupMany (a0 : AVal) (o0 : ok22 [a0]) (a1 : AVal) (o1 : ok9 [a1]) : ACall Try.prog 3 [a0, a1] σ0 fun v _ => v = .bool true := by
  obtain ⟨n, h0, w0⟩ := o0
  cases h0
  obtain ⟨n, rfl, hn⟩ := wf_u16 w0
  obtain ⟨s, h1, w1⟩ := o1
  cases h1
  exact dmany_c n hn s
end Go.Proofs.Ytieieknhhfallaa.AM
