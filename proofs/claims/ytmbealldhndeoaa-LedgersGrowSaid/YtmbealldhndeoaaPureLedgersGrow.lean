/- LedgersGrow: ledgers that are opened, filled, closed have all their entries in a row; what is trimmed from the beginning changes no place. It holds for all arguments, without further conditions. -/
import Derived.Test.YtmbealldhndeoaaLLedgersGrow
namespace Go.Proofs.Ytmbealldhndeoaa.Pure
open Go.RowKit Go.IntWalk Go.Proofs.Ytmbealldhndeoaa.PLedgersGrow Go.Proofs.YtmbealldhndeoaaW.PrintWords Go.Proofs.YtmbealldhndeoaaW.PrintLast Go.Proofs.YtmbealldhndeoaaW.PrintMore
set_option linter.unusedVariables false

namespace L13
theorem next_el {o pl pe : Int} : ∀ (l : List S32) (el ee el' ee' : Int), (nextM o pl pe el ee l).2.2 = (nextM o pl pe el' ee' l).2.2 ∧ ((nextM o pl pe el ee l).2.2 = true → nextM o pl pe el ee l = nextM o pl pe el' ee' l)
  | [], _, _, _, _ => by simp [nextM]
  | x :: l, el, ee, el', ee' => by
    simp only [nextM]
    by_cases h : atM pl pe x.f0 < szM x o
    · rw [if_pos h]; simp
    · rw [if_neg h]; simp

theorem next_trim {o pl pe : Int} : ∀ (l : List S32) (el ee el' ee' : Int), (∀ x ∈ l, x.f2 ≤ 18446744073709551615) →
    (nextM o pl pe el ee l).2.2 = (nextM o pl pe el' ee' (trimM pl pe l)).2.2 ∧ ((nextM o pl pe el ee l).2.2 = true → nextM o pl pe el ee l = nextM o pl pe el' ee' (trimM pl pe l))
  | [], _, _, _, _, _ => by simp [nextM, trimM]
  | x :: l, el, ee, el', ee', hx => by
    by_cases h : x.f1 = true ∧ ordM x.f0 x.f2 pl pe ≤ 0
    · have h1 := gone_at (o := o) h (hx x List.mem_cons_self)
      have e1 : nextM o pl pe el ee (x :: l) = nextM o pl pe x.f0 (szM x o) l := by simp only [nextM]; rw [if_neg (by omega)]
      have e2 : trimM pl pe (x :: l) = trimM pl pe l := by simp only [trimM]; rw [if_pos h]
      rw [e1, e2]
      exact next_trim l _ _ _ _ fun y hy => hx y (List.mem_cons_of_mem _ hy)
    · have e2 : trimM pl pe (x :: l) = x :: l := by simp only [trimM]; rw [if_neg h]
      rw [e2]
      exact next_el (x :: l) _ _ _ _

/-- Ledgers that grew: closed, rising, of small numbers. -/
def Gr (id : Int) (l : List S32) : Prop := RisingP l ∧ ∀ x ∈ l, x.f1 = true ∧ (1 ≤ x.f0 ∧ x.f0 ≤ id) ∧ 0 ≤ x.f2 ∧ x.f2 ≤ 4

theorem sumB_grown : ∀ (l : List S32), (∀ x ∈ l, x.f1 = true ∧ (1 ≤ x.f0 ∧ x.f0 ≤ 10000) ∧ 0 ≤ x.f2 ∧ x.f2 ≤ 4) → sumB 0 0 0 18446744073709551615 0 l = sumE 0 0 0 l
  | [], _ => rfl
  | x :: l, h => by
    have i1 := sumB_grown l fun y hy => h y (List.mem_cons_of_mem _ hy)
    obtain ⟨h1, h2, h3, h4⟩ := h x List.mem_cons_self
    simp only [sumB, sumE, i1]
    congr 1
    have e1 : atM 18446744073709551615 0 x.f0 = 18446744073709551615 := by unfold atM; rw [if_neg (by omega), if_pos (by omega)]
    have e2 : atM 0 0 x.f0 = 0 := by unfold atM; rw [if_pos (by omega)]
    have e3 : szM x 0 = x.f2 := by unfold szM; rw [if_pos h1]
    unfold con conE
    rw [e1, e2, e3]
    unfold mn
    (repeat' split) <;> omega

theorem sumE_snoc {o pl pe : Int} (x : S32) : ∀ l : List S32, sumE o pl pe (l ++ [x]) = sumE o pl pe l + conE o pl pe x
  | [] => by simp [sumE]
  | y :: l => by
    have := sumE_snoc (o := o) (pl := pl) (pe := pe) x l
    simp only [List.cons_append, sumE, this]
    omega

theorem grow_j2 {l : List S32} {total id : Int} (hg : Gr id l) (hid : id ≤ 10000) (hl : l.length ≤ 21) (ht : total = sumE 0 0 0 l) (k : Nat) (hk : 200 ≤ k) : mailcoachlaw13_LedgersGrow.j2 (k + 1) l total = some true := by
  obtain ⟨hr, hx⟩ := hg
  have hsz : ∀ x ∈ l, szM x 0 = x.f2 := fun x hx' => by unfold szM; rw [if_pos (hx x hx').1]
  have hs : ∀ x ∈ l, 0 ≤ szM x 0 ∧ szM x 0 ≤ 1099511627776 := fun x hx' => by have := hx x hx'; rw [hsz x hx']; omega
  have hsm : ∀ x ∈ l, Sm 0 4 x := fun x hx' => by have := hx x hx'; refine ⟨by omega, ?_⟩; rw [hsz x hx']; omega
  have hx2 : ∀ x ∈ l, x.f2 ≤ 18446744073709551615 := fun x hx' => by have := hx x hx'; omega
  simp only [mailcoachlaw13_LedgersGrow.j2]
  rw [between_f' (by omega) hs (by omega) (by omega) k (by omega)]
  simp only [Option.bind_some]
  rw [sumB_grown l (fun x hx' => by have := hx x hx'; refine ⟨this.1, by omega, by omega⟩), if_pos ht.symm, next_f (by omega) k (by omega)]
  simp only [Option.bind_some]
  obtain ⟨a, b, c, hnx⟩ : ∃ a b c, nextM 0 0 0 0 0 l = (a, b, c) := ⟨_, _, _, rfl⟩
  rw [hnx]
  cases c with
  | false =>
    have := next_none l 0 0 a b hnx
    simp only [Bool.false_eq_true, if_false]
    rw [ht, this]; rfl
  | true =>
    obtain ⟨⟨y, hy, hya, hyb⟩, h2, h3, h4, h5, h6, h7, h8⟩ := next_true (B := 4) (by omega) (by omega) l 0 0 a b hr hsm hnx
    simp only [if_true]
    rw [behind_f (by omega)]
    simp only [Option.bind_some]
    rw [next_f (by omega) k (by omega)]
    simp only [Option.bind_some]
    rw [trim_f (by omega) k (by omega)]
    simp only [Option.bind_some]
    have hlt : (trimM a (b + 1) l).length ≤ l.length := by
      obtain ⟨j, _, e, _⟩ := trim_drop a (b + 1) l
      rw [e, List.length_drop]; omega
    rw [next_f (by omega) k (by omega)]
    simp only [Option.bind_some]
    obtain ⟨n1, n2⟩ := next_trim (o := 0) (pl := a) (pe := b + 1) l 0 0 0 0 hx2
    rw [← n1]
    simp only [beq_self_eq_true, if_true]
    by_cases h9 : (nextM 0 a (b + 1) 0 0 l).2.2 = true
    · rw [if_pos h9, ← n2 h9]; simp
    · rw [if_neg h9]

theorem grow_round {l : List S32} {ids : List Int} {counts : List Int} {id total c n i : Int} (hg : ∀ x ∈ l, x.f1 = true ∧ (1 ≤ x.f0 ∧ x.f0 < id) ∧ 0 ≤ x.f2 ∧ x.f2 ≤ 4) (hr : RisingP l) (hl : l.length ≤ 20) (hid : 1 ≤ id ∧ id ≤ 9000) (ht : 0 ≤ total ∧ total ≤ 1000) (hc : 0 ≤ c ∧ c ≤ 255) (k : Nat) (hk : 200 ≤ k) :
    mailcoachlaw13_LedgersGrow.j1 (k + 1) ids l id total c counts n i = mailcoachlaw13_LedgersGrow.l0 k ids (l ++ [⟨id, true, c % 5⟩]) id (total + c % 5) counts n (wrap64 (i + 1)) := by
  have hopen : ledgers_Open.f k l id = some (l ++ [⟨id, false, 0⟩], 0) := by
    rcases List.eq_nil_or_concat l with rfl | ⟨m, x, rfl⟩
    · rw [open_nil k (by omega), if_neg (by omega)]; rfl
    · rw [List.concat_eq_append] at *
      have hx := hg x (by simp)
      have hm : m.length ≤ 19 := by simp at hl; omega
      rw [open_snoc (by omega) k (by omega), if_neg (by rw [hx.1]; decide), if_neg (by omega), if_neg (by omega)]
  simp only [mailcoachlaw13_LedgersGrow.j1]
  rw [hopen]
  simp only [Option.bind_some]
  have e1 : IntKind.u64.wrap (Int.tmod c 5) = c % 5 := by rw [Int.tmod_eq_emod_of_nonneg (by omega), u64_in _ (by omega)]
  rw [e1, close_snoc (by omega) k (by omega), if_neg (show ¬ ((⟨id, false, 0⟩ : S32).f1 = true) by simp), if_neg (by omega)]
  simp only [Option.bind_some]
  rw [open_snoc (by omega) k (by omega), if_pos rfl]
  simp only [Option.bind_some]
  rw [close_snoc (by omega) k (by omega), if_pos rfl]
  simp only [Option.bind_some, if_true]
  have hp : ∀ y ∈ l, y.f0 < id := fun y hy => (hg y hy).2.1.2
  have ra : rightM (l ++ [(⟨id, false, 0⟩ : S32)]) = true := right_open (by omega) (rising_snoc hr hp) (fun y hy => by have := hg y hy; exact ⟨this.1, by omega, by omega⟩) ⟨by show id ≠ 0; omega, rfl⟩
  have rb : rightM (l ++ [(⟨id, true, c % 5⟩ : S32)]) = true := right_closed (by simp; omega) (rising_snoc hr hp) (fun y hy => by
    rw [List.mem_append, List.mem_singleton] at hy
    rcases hy with hy | rfl
    · have := hg y hy; exact ⟨this.1, by omega, by omega⟩
    · exact ⟨rfl, by show id ≠ 0; omega, by show c % 5 ≤ 1048576; omega⟩)
  have wa : ∀ x ∈ l ++ [(⟨id, false, 0⟩ : S32)], 0 ≤ x.f2 := fun y hy => by
    rw [List.mem_append, List.mem_singleton] at hy
    rcases hy with hy | rfl
    · exact (hg y hy).2.2.1
    · exact Int.le_refl 0
  have wb : ∀ x ∈ l ++ [(⟨id, true, c % 5⟩ : S32)], 0 ≤ x.f2 := fun y hy => by
    rw [List.mem_append, List.mem_singleton] at hy
    rcases hy with hy | rfl
    · exact (hg y hy).2.2.1
    · show 0 ≤ c % 5; omega
  rw [check_f _ wa k (by omega), ra]
  simp only [Option.bind_some, if_true]
  rw [check_f _ wb k (by omega), rb]
  simp only [Option.bind_some, if_true]
  rw [u64_in (total + c % 5) (by omega)]

theorem grow_l0 {ids counts : List Int} (hi : ∀ x ∈ ids, 0 ≤ x ∧ x ≤ 255) (hc : ∀ x ∈ counts, 0 ≤ x ∧ x ≤ 255) (hil : ids.length ≤ 9223372036854775806) (hcl : counts.length ≤ 9223372036854775806) (d : Nat) : ∀ (k : Nat) (l : List S32) (id total : Int) (i : Nat), i + d = min counts.length 21 → 2 * d + 300 ≤ k → l.length = i → Gr id l → 0 ≤ id → id ≤ 300 * i →
    total = sumE 0 0 0 l → 0 ≤ total → total ≤ 4 * i → mailcoachlaw13_LedgersGrow.l0 k ids l id total counts (counts.length : Int) i = some true := by
  induction d with
  | zero =>
    intro k l id total i h hk ha hg h0 h1 ht h2 h3
    obtain ⟨k, rfl⟩ : ∃ m, k = m + 2 := ⟨k - 2, by omega⟩
    have he := grow_j2 (k := k) (total := total) hg (by omega) (by omega) ht (by omega)
    simp only [mailcoachlaw13_LedgersGrow.l0]
    by_cases h4 : (i : Int) < (counts.length : Int)
    · rw [if_pos h4, if_pos (by omega), if_pos h4, if_pos (by omega)]; exact he
    · rw [if_neg h4]; exact he
  | succ d ih =>
    intro k l id total i h hk ha hg h0 h1 ht h2 h3
    obtain ⟨k, rfl⟩ : ∃ m, k = m + 2 := ⟨k - 2, by omega⟩
    have hlt : i < counts.length := by omega
    have hrd : rd counts (i : Int) = counts[i] := by simp [rd, List.getD_eq_getElem?_getD, List.getElem?_eq_getElem hlt]
    have hb := hc counts[i] (List.getElem_mem hlt)
    obtain ⟨hr, hx⟩ := hg
    simp only [mailcoachlaw13_LedgersGrow.l0]
    rw [if_pos (by omega), if_pos (by omega), if_pos (by omega), if_neg (by omega), hrd, u64_in (id + 1) (by omega)]
    have key : ∀ id' : Int, id + 1 ≤ id' → id' ≤ id + 256 → mailcoachlaw13_LedgersGrow.j1 (k + 1) ids l id' total counts[i] counts (counts.length : Int) (i : Int) = some true := by
      intro id' a1 a2
      have hg' : ∀ x ∈ l, x.f1 = true ∧ (1 ≤ x.f0 ∧ x.f0 < id') ∧ 0 ≤ x.f2 ∧ x.f2 ≤ 4 := fun x hx' => by have := hx x hx'; exact ⟨this.1, by omega, by omega⟩
      rw [grow_round hg' hr (by omega) (by omega) (by omega) hb k (by omega), wrap64_in _ (by omega), show ((i : Int) + 1) = ((i + 1 : Nat) : Int) by omega]
      refine ih k _ id' _ (i + 1) (by omega) (by omega) (by simp; omega) ⟨rising_snoc hr fun y hy => (hg' y hy).2.1.2, fun y hy => ?_⟩ (by omega) (by omega) ?_ (by omega) (by omega)
      · rw [List.mem_append, List.mem_singleton] at hy
        rcases hy with hy | rfl
        · have := hg' y hy; exact ⟨this.1, by omega, by omega⟩
        · exact ⟨rfl, ⟨by show 1 ≤ id'; omega, Int.le_refl _⟩, by show 0 ≤ counts[i] % 5; omega, by show counts[i] % 5 ≤ 4; omega⟩
      · rw [sumE_snoc, ht]
        congr 1
        have e2 : atM 0 0 id' = 0 := by unfold atM; rw [if_pos (by omega)]
        show counts[i] % 5 = conE 0 0 0 ⟨id', true, counts[i] % 5⟩
        unfold conE
        show counts[i] % 5 = if atM 0 0 id' < szM (⟨id', true, counts[i] % 5⟩ : S32) 0 then szM (⟨id', true, counts[i] % 5⟩ : S32) 0 - atM 0 0 id' else 0
        have e3 : szM (⟨id', true, counts[i] % 5⟩ : S32) 0 = counts[i] % 5 := by unfold szM; rw [if_pos rfl]
        rw [e2, e3]
        split <;> omega
    by_cases h5 : (i : Int) < (ids.length : Int)
    · have hir : rd ids (i : Int) = ids[i]'(by omega) := by simp [rd, List.getD_eq_getElem?_getD, List.getElem?_eq_getElem (show i < ids.length by omega)]
      have hib := hi (ids[i]'(by omega)) (List.getElem_mem _)
      rw [if_pos h5, hir, u64_in (ids[i]'(by omega)) (by omega), u64_in _ (by omega)]
      exact key _ (by omega) (by omega)
    · rw [if_neg h5]
      exact key _ (by omega) (by omega)
end L13

theorem LedgersGrow : mailcoachlaw13_LedgersGrow.Pure := by
  intro counts ids _ hcl hc _ hil hi
  refine ⟨400, ?_⟩
  unfold mailcoachlaw13_LedgersGrow.f
  rw [L13.awake 400 (by omega)]
  simp only [Option.bind_some, if_true]
  exact L13.grow_l0 (fun x hx => L13.u8_of (hi x hx)) (fun x hx => L13.u8_of (hc x hx)) (by omega) (by omega) (min counts.length 21) 400 [] 0 0 0 (by omega) (by omega) rfl ⟨by simp [L13.RisingP], by simp⟩ (by omega) (by omega) rfl (by omega) (by omega)

end Go.Proofs.Ytmbealldhndeoaa.Pure
