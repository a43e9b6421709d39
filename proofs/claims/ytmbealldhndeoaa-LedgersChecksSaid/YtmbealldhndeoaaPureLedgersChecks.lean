/- LedgersChecks: any ledgers are checked as the reference does; what is opened and closed is as the chapter says. It holds for all arguments, without further conditions. -/
import Derived.Test.YtmbealldhndeoaaLLedgersChecks
import Derived.Test.YtmbealldhndeoaaOkLedgersChecks
namespace Go.Proofs.Ytmbealldhndeoaa.Pure
open Go.Proofs.Ytmbealldhndeoaa.OkLedgersChecks Go.RowKit Go.IntWalk Go.Proofs.Ytmbealldhndeoaa.PLedgersChecks Go.Proofs.YtmbealldhndeoaaW.PrintWords Go.Proofs.YtmbealldhndeoaaW.PrintLast Go.Proofs.YtmbealldhndeoaaW.PrintMore
set_option linter.unusedVariables false

namespace L13
theorem checks_close {l : List S32} {m : List S32} {x : S32} {c : Int} (hl : l = m ++ [x]) (hm : m.length ≤ 12) (k : Nat) (hk : 30 ≤ k) {n : Int} (hn : n = (l.length : Int)) {b : List S32} (hb : b = m ++ [⟨x.f0, true, c⟩]) :
    ((some (([] : List (S32)) : List (S32))).bind fun y200 => (if 0 ≤ (wrap64 (n - 1)) then (if (wrap64 (n - 1)) ≤ (l.length : Int) then ((some (l.take ((wrap64 (n - 1)) : Int).toNat : List (S32))).bind fun y203 => (if y200.length + y203.length < 5864062014805 then ((some (y200 ++ y203 : List (S32))).bind fun y207 => (if (wrap64 (n - 1)) < (l.length : Int) then ((some (([(⟨(rd_T32 l (wrap64 (n - 1))).f0, true, c⟩ : S32)] : List (S32)) : List (S32))).bind fun y211 => (if y207.length + y211.length < 5864062014805 then ((mailcoachref13_SameLedgers.f k b (y207 ++ y211)).bind fun t217 => (some t217)) else (none))) else (none))) else (none))) else (none)) else (none))) = some true := by
  subst hl hn hb
  have hw := last_wrap m x (by omega)
  have hl' : (((m ++ [x]).length : Nat) : Int) = (m.length : Int) + 1 := by simp
  rw [hw, rd_last]
  simp only [Option.bind_some]
  rw [if_pos (by omega), if_pos (by omega), show ((m.length : Int)).toNat = m.length by omega]
  have e1 : List.take m.length (m ++ [x]) = m := by simp
  rw [e1, if_pos (by simp; omega), if_pos (by omega), if_pos (by simp; omega), List.nil_append, same_f _ (by simp; omega) k (by simp; omega)]
  rfl
end L13

theorem LedgersChecks : ∀ (l0 : List S32) (l1 : List Int) (a2 : Bool) (a3 : Int) (a4 : Int), ((∀ y ∈ l0, ok32 y) ∧ (l0).length ≤ maxLen ∧ (l0).length * Try.prog.bytesOf 32 ≤ 140737488351232) → ((∀ y ∈ l1, (Lit.int .u8 y).wf = true) ∧ (l1).length ≤ maxLen ∧ (l1).length * Try.prog.bytesOf 5 ≤ 140737488351232) → (Lit.int .u64 a3).wf = true → (Lit.int .u64 a4).wf = true → ∃ k, mailcoachlaw13_LedgersChecks.f k l0 l1 a2 a3 a4 = some true := by
  intro raw l isOpen id c hraw hl hid hc
  have hb5 : Try.prog.bytesOf 5 = 1 := by kernel_rfl
  have hl3 : l.length ≤ 140737488351232 := by have := hl.2.2; rw [hb5] at this; omega
  obtain ⟨t, hmade, hmk⟩ := L13.made_f (l := l) isOpen (fun x hx => L13.u8_of (hl.1 x hx)) (by omega) 300 (by omega)
  have htl := hmk.2.1
  refine ⟨301, ?_⟩
  unfold mailcoachlaw13_LedgersChecks.f
  rw [L13.awake 301 (by omega)]
  simp only [Option.bind_some, if_true]
  by_cases h1 : (raw.length : Int) > 200
  · rw [if_pos h1]
    simp only [mailcoachlaw13_LedgersChecks.j0]
    rw [if_pos trivial]; simp [h1]
  · rw [if_neg h1, L13.check_f raw (fun x hx => (L13.u64_of (hraw.1 x hx).2.2).1) 301 (by omega), L13.right_f raw 301 (by omega)]
    simp only [Option.bind_some, bne_self_eq_false, mailcoachlaw13_LedgersChecks.j0, Bool.false_eq_true, if_false]
    rw [hmade]
    simp only [Option.bind_some]
    rcases List.eq_nil_or_concat t with rfl | ⟨m, x, rfl⟩
    · rw [L13.open_nil 300 (by omega), L13.close_nil 300 (by omega)]
      simp only [Option.bind_some, List.length_nil]
      rw [if_neg (by omega)]
      simp only [mailcoachlaw13_LedgersChecks.j1, Bool.false_eq_true, if_false]
      by_cases h2 : id = 0
      · simp [h2, mailcoachlaw13_LedgersChecks.j2, mailcoachlaw13_LedgersChecks.j3, mailcoachlaw13_LedgersChecks.j4, mailcoachlaw13_LedgersChecks.j5]
      · simp only [h2, if_false]
        rw [if_neg (by omega)]
        simp only [mailcoachlaw13_LedgersChecks.j2, mailcoachlaw13_LedgersChecks.j3, mailcoachlaw13_LedgersChecks.j4, mailcoachlaw13_LedgersChecks.j5]
        have hs := L13.same_f [(⟨id, false, 0⟩ : S32)] (by simp) 295 (by simp)
        simp [hs]
    · rw [List.concat_eq_append] at *
      have hm : m.length ≤ 12 := by simp at htl; omega
      have hw := L13.last_wrap m x (by omega)
      have hl' : (((m ++ [x]).length : Nat) : Int) = (m.length : Int) + 1 := by simp
      rw [L13.open_snoc (by omega) 300 (by omega), L13.close_snoc (by omega) 300 (by omega)]
      simp only [Option.bind_some]
      rw [if_pos (by omega), hw, if_pos (by omega), if_pos (by omega), L13.rd_last]
      simp only [mailcoachlaw13_LedgersChecks.j1]
      cases hf : x.f1 with
      | false =>
        simp only [Bool.not_false, if_true, Bool.false_eq_true, if_false]
        simp only [mailcoachlaw13_LedgersChecks.j2]
        rw [if_neg (by omega), hw, if_pos (by omega), if_pos (by omega), L13.rd_last]
        simp only [mailcoachlaw13_LedgersChecks.j3, hf, Bool.false_eq_true, if_false]
        by_cases h2 : c > 1048576
        · simp [h2, mailcoachlaw13_LedgersChecks.j4, mailcoachlaw13_LedgersChecks.j5]
        · have hcl := L13.checks_close (l := m ++ [x]) (m := m) (x := x) (c := c) rfl hm 295 (by omega) rfl rfl
          simp only [h2, if_false, mailcoachlaw13_LedgersChecks.j4]
          rw [if_pos trivial, if_pos trivial, if_neg (by omega), if_neg (by simp), if_pos trivial]
          simp only [mailcoachlaw13_LedgersChecks.j5, Bool.false_eq_true, if_false]
          rw [if_neg (by omega), if_pos trivial]
          exact hcl
      | true =>
        simp only [Bool.not_true, Bool.false_eq_true, if_false, if_true]
        have hj2 : ∀ (a : List S32) (e q : Int), mailcoachlaw13_LedgersChecks.j2 299 id c (m ++ [x]) ((m ++ [x]).length : Int) a e [] 23 q 0 = mailcoachlaw13_LedgersChecks.j4 297 id c (m ++ [x]) ((m ++ [x]).length : Int) a e [] 23 q 23 := by
          intro a e q
          simp only [mailcoachlaw13_LedgersChecks.j2]
          rw [if_neg (by omega), hw, if_pos (by omega), if_pos (by omega), L13.rd_last]
          simp only [mailcoachlaw13_LedgersChecks.j3]
          rw [if_pos hf]
        have hend : ∀ (a : List S32) (e : Int), (e ≠ 0 → a = []) → (e = 0 → a = m ++ [x] ++ [⟨id, false, 0⟩]) → mailcoachlaw13_LedgersChecks.j4 297 id c (m ++ [x]) ((m ++ [x]).length : Int) a e [] 23 e 23 = some true := by
          intro a e h3 h4
          simp only [mailcoachlaw13_LedgersChecks.j4]
          rw [if_pos trivial, if_pos trivial]
          by_cases h5 : e = 0
          · rw [if_pos h5, if_neg (by omega)]
            simp only [mailcoachlaw13_LedgersChecks.j5]
            rw [if_neg (by simp), if_pos h5, h4 h5]
            have hs := L13.same_f (m ++ [x] ++ [(⟨id, false, 0⟩ : S32)]) (by simp; omega) 295 (by simp; omega)
            simp only [Option.bind_some, List.nil_append]
            rw [if_pos (by simp; omega), if_pos (by simp; omega), hs]
            simp
          · rw [if_neg h5, h3 h5, if_neg (by simp), if_neg (by omega)]
            simp only [mailcoachlaw13_LedgersChecks.j5]
            rw [if_neg (by simp), if_neg h5, if_neg (by omega)]
        by_cases h2 : id = 0
        · rw [if_pos h2, hj2, if_pos (show id = 0 ∨ x.f0 ≥ id from .inl h2)]
          exact hend [] 30 (fun _ => rfl) (fun h => by omega)
        · rw [if_neg h2, if_pos (by omega), hw, if_pos (by omega), if_pos (by omega), L13.rd_last]
          by_cases h3 : id ≤ x.f0
          · rw [if_pos h3, hj2, if_pos (show id = 0 ∨ x.f0 ≥ id from .inr h3)]
            exact hend [] 30 (fun _ => rfl) (fun h => by omega)
          · rw [if_neg h3, hj2, if_neg (show ¬ (id = 0 ∨ x.f0 ≥ id) from fun h => h.elim h2 h3), if_neg (show ¬ (m.length + 1 ≥ 64) by omega)]
            exact hend _ 0 (fun h => absurd rfl h) (fun _ => rfl)

end Go.Proofs.Ytmbealldhndeoaa.Pure
