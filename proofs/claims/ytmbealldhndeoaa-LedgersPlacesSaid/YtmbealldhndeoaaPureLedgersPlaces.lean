/- LedgersPlaces: places among ledgers of few entries, and any places, are as the reference tells. It holds for all arguments, without further conditions. -/
import Derived.Test.YtmbealldhndeoaaLLedgersPlaces
import Derived.Test.YtmbealldhndeoaaOkLedgersPlaces
namespace Go.Proofs.Ytmbealldhndeoaa.Pure
open Go.Proofs.Ytmbealldhndeoaa.OkLedgersPlaces Go.RowKit Go.IntWalk Go.Proofs.Ytmbealldhndeoaa.PLedgersPlaces Go.Proofs.YtmbealldhndeoaaW.PrintWords Go.Proofs.YtmbealldhndeoaaW.PrintLast Go.Proofs.YtmbealldhndeoaaW.PrintMore
set_option linter.unusedVariables false

namespace L13
theorem rord_f (al ae bl be : Int) (k : Nat) (hk : 2 ≤ k) : mailcoachref13_Order.f k al ae bl be = some (ordM al ae bl be) := by
  obtain ⟨k, rfl⟩ : ∃ m, k = m + 1 := ⟨k - 1, by omega⟩
  unfold mailcoachref13_Order.f ordM cmpM
  simp only [mailcoachref13_Order.j0]
  by_cases h1 : al < bl
  · simp [h1]
  · by_cases h2 : al = bl
    · subst h2
      by_cases h3 : ae < be
      · simp [h3]
      · by_cases h4 : ae = be
        · simp [h4]
        · have h5 : ae > be := by omega
          simp [h3, h4, h5]
    · have h5 : al > bl := by omega
      simp [h1, h2, h5]

theorem size2_f (x : S32) (o : Int) : mailcoachref13_Size.f x.f0 x.f1 x.f2 o = some (szM x o) := by
  unfold mailcoachref13_Size.f szM; split <;> rfl

def row1 (o : Int) (x : S32) : List S36 := (List.range (szM x o).toNat).map fun e : Nat => (⟨x.f0, (e : Int)⟩ : S36)
def allM (o : Int) : List S32 → List S36
  | [] => []
  | x :: l => row1 o x ++ allM o l

theorem all_l1 {l : List S32} {o : Int} {i : Nat} (hi : i < l.length) (hl : l.length ≤ 100) {sz : Int} (d : Nat) : ∀ (k : Nat) (acc : List S36) (e : Nat), (e : Int) + d = sz → sz ≤ 1000 → acc.length + d < 100000 →
    mailcoachref13_All.l1 (k + d + 1) l o acc i sz e = mailcoachref13_All.l0 k l o (acc ++ (List.range d).map fun j : Nat => (⟨l[i].f0, ((e + j : Nat) : Int)⟩ : S36)) ((i + 1 : Nat) : Int) := by
  induction d with
  | zero =>
    intro k acc e h hs ha
    rw [mailcoachref13_All.l1, if_neg (by omega), wrap64_in ((i : Int) + 1) (by omega)]
    simp
  | succ d ih =>
    intro k acc e h hs ha
    rw [show k + (d + 1) + 1 = (k + d + 1) + 1 by omega, mailcoachref13_All.l1, if_pos (by omega), if_pos (by omega), if_pos (by omega), if_pos (by omega), rd_at l i hi, u64_in _ (by omega), show ((e : Int) + 1) = ((e + 1 : Nat) : Int) by omega]
    rw [ih k _ (e + 1) (by omega) hs (by simp; omega), List.append_assoc]
    congr 2
    rw [List.range_succ_eq_map, List.map_cons, List.map_map]
    simp only [List.singleton_append, Nat.add_zero, List.cons.injEq, true_and]
    apply List.map_congr_left
    intro j _
    simp only [Function.comp]
    congr 2
    omega

def fuelA (o : Int) : List S32 → Nat
  | [] => 0
  | x :: l => (szM x o).toNat + 2 + fuelA o l

theorem all_l0 {l : List S32} {o : Int} (hl : l.length ≤ 100) (hs : ∀ x ∈ l, 0 ≤ szM x o ∧ szM x o ≤ 100) (d : Nat) : ∀ (k : Nat) (acc : List S36) (i : Nat), i + d = l.length → fuelA o (l.drop i) < k → acc.length ≤ 100 * i →
    mailcoachref13_All.l0 k l o acc i = some (acc ++ allM o (l.drop i)) := by
  induction d with
  | zero =>
    intro k acc i h hk ha
    obtain ⟨k, rfl⟩ : ∃ m, k = m + 1 := ⟨k - 1, by omega⟩
    rw [mailcoachref13_All.l0, if_neg (by omega), List.drop_eq_nil_of_le (by omega)]; simp [allM]
  | succ d ih =>
    intro k acc i h hk ha
    have hi : i < l.length := by omega
    have hd : l.drop i = l[i] :: l.drop (i + 1) := List.drop_eq_getElem_cons hi
    have hx := hs l[i] (List.getElem_mem hi)
    rw [hd] at hk ⊢
    simp only [fuelA] at hk
    obtain ⟨k, rfl⟩ : ∃ m, k = (m + (szM l[i] o).toNat + 1) + 1 := ⟨k - (szM l[i] o).toNat - 2, by omega⟩
    rw [mailcoachref13_All.l0, if_pos (by omega), if_pos (by omega), rd_at l i hi, size2_f]
    simp only [Option.bind_some, allM]
    rw [show (0 : Int) = ((0 : Nat) : Int) from rfl, all_l1 hi hl (szM l[i] o).toNat k acc 0 (by omega) (by omega) (by omega), ih k _ (i + 1) (by omega) (by omega) (by simp; omega), List.append_assoc]
    congr 3
    unfold row1
    apply List.map_congr_left
    intro j _
    simp

theorem fuel_le {o : Int} : ∀ (l : List S32), (∀ x ∈ l, 0 ≤ szM x o ∧ szM x o ≤ 100) → fuelA o l ≤ 102 * l.length
  | [], _ => by simp [fuelA]
  | x :: l, h => by
    have := fuel_le l fun y hy => h y (List.mem_cons_of_mem _ hy)
    have := h x List.mem_cons_self
    simp only [fuelA, List.length_cons]
    omega

theorem all_f {l : List S32} {o : Int} (hl : l.length ≤ 13) (hs : ∀ x ∈ l, 0 ≤ szM x o ∧ szM x o ≤ 100) (k : Nat) (hk : 1400 ≤ k) : mailcoachref13_All.f k l o = some (allM o l) := by
  unfold mailcoachref13_All.f
  have hf := fuel_le l hs
  have := all_l0 (by omega) hs l.length k [] 0 (by omega) (by simpa using (by omega : fuelA o l < k)) (by simp)
  simpa using this

theorem ord_at {id e pl pe : Int} (he : 0 ≤ e ∧ e < 18446744073709551615) : (0 ≤ ordM id e pl pe ↔ atM pl pe id ≤ e) := by
  unfold ordM cmpM atM
  (repeat' split) <;> omega

theorem find_range (f : Nat → S36) (p : S36 → Bool) (t : Nat) : ∀ n : Nat, (∀ e, e < n → (p (f e) = true ↔ t ≤ e)) → ((List.range n).map f).find? p = if t < n then some (f t) else none
  | 0, _ => by simp
  | n + 1, h => by
    rw [List.range_succ, List.map_append, List.find?_append, find_range f p t n (fun e he => h e (by omega))]
    by_cases h1 : t < n
    · rw [if_pos h1, if_pos (by omega)]; rfl
    · rw [if_neg h1]
      have hn := h n (by omega)
      by_cases h2 : t < n + 1
      · have : t = n := by omega
        subst this
        rw [if_pos h2]
        simp [hn]
      · rw [if_neg h2]
        have : ¬ p (f n) = true := fun h3 => by have := hn.1 h3; omega
        simp [this]

theorem find_row {o pl pe : Int} {x : S32} (hs : 0 ≤ szM x o ∧ szM x o ≤ 100) (hp : 0 ≤ pe) :
    (row1 o x).find? (fun q => decide (0 ≤ ordM q.f0 q.f1 pl pe)) = if atM pl pe x.f0 < szM x o then some ⟨x.f0, atM pl pe x.f0⟩ else none := by
  have ha := atM_bd (pl := pl) (id := x.f0) hp
  unfold row1
  rw [find_range _ _ (atM pl pe x.f0).toNat (szM x o).toNat (fun e he => by
    simp only [decide_eq_true_eq]
    rw [ord_at (by omega)]
    omega)]
  by_cases h : atM pl pe x.f0 < szM x o
  · rw [if_pos h, if_pos (by omega), show (((atM pl pe x.f0).toNat : Nat) : Int) = atM pl pe x.f0 by omega]
  · rw [if_neg h, if_neg (by omega)]

def endM (o el ee : Int) : List S32 → Int × Int × Bool
  | [] => (el, ee, false)
  | x :: l => endM o x.f0 (szM x o) l
def pickM (r : Option S36) (e : Int × Int × Bool) : Int × Int × Bool := match r with | some q => (q.f0, q.f1, true) | none => e

theorem next_find {o pl pe : Int} (hp : 0 ≤ pe) : ∀ (l : List S32) (el ee : Int), (∀ x ∈ l, 0 ≤ szM x o ∧ szM x o ≤ 100) →
    nextM o pl pe el ee l = pickM ((allM o l).find? (fun q => decide (0 ≤ ordM q.f0 q.f1 pl pe))) (endM o el ee l)
  | [], el, ee, _ => rfl
  | x :: l, el, ee, h => by
    simp only [nextM, allM, List.find?_append, endM]
    rw [find_row (h x List.mem_cons_self) hp]
    by_cases h1 : atM pl pe x.f0 < szM x o
    · rw [if_pos h1, if_pos h1]; rfl
    · rw [if_neg h1, if_neg h1, next_find hp l _ _ fun y hy => h y (List.mem_cons_of_mem _ hy)]; rfl

theorem end_snoc {o : Int} (x : S32) : ∀ (m : List S32) (el ee : Int), endM o el ee (m ++ [x]) = (x.f0, szM x o, false)
  | [], _, _ => rfl
  | y :: m, _, _ => end_snoc x m _ _

theorem rd36_at (l : List S36) (i : Nat) (h : i < l.length) : rd_T36 l (i : Int) = l[i] := by
  simp [rd_T36, List.getD_eq_getElem?_getD, List.getElem?_eq_getElem h]

theorem rnext_l0 {l : List S32} {o pl pe : Int} {all : List S36} (hl : l.length ≤ 13) (ha : all.length ≤ 100000) (d : Nat) : ∀ (k : Nat) (i : Nat), i + d = all.length → d + 3 < k →
    mailcoachref13_Next.l0 k l o all i pl pe = some (pickM ((all.drop i).find? (fun q => decide (0 ≤ ordM q.f0 q.f1 pl pe))) (endM o 0 0 l)) := by
  induction d with
  | zero =>
    intro k i h hk
    obtain ⟨k, rfl⟩ : ∃ m, k = m + 1 := ⟨k - 1, by omega⟩
    rw [mailcoachref13_Next.l0, if_neg (by omega), List.drop_eq_nil_of_le (by omega)]
    rcases List.eq_nil_or_concat l with rfl | ⟨m, x, rfl⟩
    · rfl
    · rw [List.concat_eq_append] at *
      have hl' : (((m ++ [x]).length : Nat) : Int) = (m.length : Int) + 1 := by simp
      rw [if_neg (by omega), last_wrap m x (by simp at hl; omega), if_pos (by omega), if_pos (by omega), rd_last, size2_f, end_snoc]
      rfl
  | succ d ih =>
    intro k i h hk
    obtain ⟨k, rfl⟩ : ∃ m, k = m + 1 := ⟨k - 1, by omega⟩
    have hi : i < all.length := by omega
    have hd : all.drop i = all[i] :: all.drop (i + 1) := List.drop_eq_getElem_cons hi
    rw [mailcoachref13_Next.l0, if_pos (by omega), if_pos (by omega), rd36_at all i hi, rord_f _ _ _ _ k (by omega), wrap64_in _ (by omega), show ((i : Int) + 1) = ((i + 1 : Nat) : Int) by omega, ih k (i + 1) (by omega) (by omega), hd]
    simp only [Option.bind_some]
    by_cases h1 : 0 ≤ ordM all[i].f0 all[i].f1 pl pe
    · rw [if_pos h1, List.find?_cons_of_pos (by simp [h1])]; rfl
    · rw [if_neg h1, List.find?_cons_of_neg (by simp [h1])]

theorem all_len {o : Int} : ∀ (l : List S32), (∀ x ∈ l, 0 ≤ szM x o ∧ szM x o ≤ 100) → (allM o l).length ≤ 100 * l.length
  | [], _ => by simp [allM]
  | x :: l, h => by
    have := all_len l fun y hy => h y (List.mem_cons_of_mem _ hy)
    have := h x List.mem_cons_self
    simp only [allM, List.length_append, List.length_cons, row1, List.length_map, List.length_range]
    omega

theorem rnext_f {l : List S32} {o pl pe : Int} (hl : l.length ≤ 13) (hs : ∀ x ∈ l, 0 ≤ szM x o ∧ szM x o ≤ 100) (hp : 0 ≤ pe) (k : Nat) (hk : 1400 ≤ k) : mailcoachref13_Next.f k l o pl pe = some (nextM o pl pe 0 0 l) := by
  unfold mailcoachref13_Next.f
  have ha := all_len l hs
  rw [all_f hl hs k hk]
  simp only [Option.bind_some]
  have := rnext_l0 (o := o) (pl := pl) (pe := pe) hl (all := allM o l) (by omega) (allM o l).length k 0 (by omega) (by omega)
  rw [show ((0 : Nat) : Int) = 0 from rfl] at this
  rw [this, next_find hp l 0 0 hs, List.drop_zero]

theorem count_range (lo hi : Nat) (p : S36 → Bool) (f : Nat → S36) : ∀ n : Nat, (∀ e, e < n → (p (f e) = true ↔ lo ≤ e ∧ e < hi)) → ((List.range n).map f).countP p = min hi n - min lo n
  | 0, _ => by simp
  | n + 1, h => by
    rw [List.range_succ, List.map_append, List.countP_append, count_range lo hi p f n (fun e he => h e (by omega))]
    have hn := h n (by omega)
    by_cases h1 : lo ≤ n ∧ n < hi
    · have : p (f n) = true := hn.2 h1
      simp only [List.map_cons, List.map_nil, List.countP_cons, List.countP_nil, this, if_true]
      omega
    · have : ¬ p (f n) = true := fun h2 => h1 (hn.1 h2)
      simp only [List.map_cons, List.map_nil, List.countP_cons, List.countP_nil, this]
      simp only [Bool.false_eq_true, if_false]
      omega

def inP (al ae bl be : Int) (q : S36) : Bool := decide (0 ≤ ordM q.f0 q.f1 al ae) && decide (ordM q.f0 q.f1 bl be < 0)
theorem count_row {o al ae bl be : Int} {x : S32} (hs : 0 ≤ szM x o ∧ szM x o ≤ 100) (ha : 0 ≤ ae) (hb : 0 ≤ be) : (((row1 o x).countP (inP al ae bl be) : Nat) : Int) = con o al ae bl be x := by
  have h1 := atM_bd (pl := al) (id := x.f0) ha
  have h2 := atM_bd (pl := bl) (id := x.f0) hb
  unfold row1
  rw [count_range (atM al ae x.f0).toNat (atM bl be x.f0).toNat _ _ (szM x o).toNat (fun e he => by
    unfold inP
    simp only [Bool.and_eq_true, decide_eq_true_eq]
    rw [ord_at (by omega)]
    have := ord_at (id := x.f0) (e := (e : Int)) (pl := bl) (pe := be) (by omega)
    omega)]
  unfold con mn
  (repeat' split) <;> omega
theorem count_all {o al ae bl be : Int} (ha : 0 ≤ ae) (hb : 0 ≤ be) : ∀ (l : List S32), (∀ x ∈ l, 0 ≤ szM x o ∧ szM x o ≤ 100) → (((allM o l).countP (inP al ae bl be) : Nat) : Int) = sumB o al ae bl be l
  | [], _ => rfl
  | x :: l, h => by
    have i1 := count_all (al := al) (bl := bl) ha hb l fun y hy => h y (List.mem_cons_of_mem _ hy)
    have i2 := count_row (al := al) (bl := bl) (h x List.mem_cons_self) ha hb
    simp only [allM, List.countP_append, sumB]
    omega

theorem rbetween_l0 {al ae bl be : Int} {all : List S36} (ha : all.length ≤ 100000) (d : Nat) : ∀ (k : Nat) (i : Nat) (n : Int), i + d = all.length → d + 3 < k → 0 ≤ n → n ≤ i →
    mailcoachref13_Between.l0 k all n i al ae bl be = some (n + (((all.drop i).countP (inP al ae bl be) : Nat) : Int)) := by
  induction d with
  | zero =>
    intro k i n h hk h0 h1
    obtain ⟨k, rfl⟩ : ∃ m, k = m + 1 := ⟨k - 1, by omega⟩
    rw [mailcoachref13_Between.l0, if_neg (by omega), List.drop_eq_nil_of_le (by omega)]; simp
  | succ d ih =>
    intro k i n h hk h0 h1
    obtain ⟨k, rfl⟩ : ∃ m, k = m + 1 := ⟨k - 1, by omega⟩
    have hi : i < all.length := by omega
    have hd : all.drop i = all[i] :: all.drop (i + 1) := List.drop_eq_getElem_cons hi
    rw [mailcoachref13_Between.l0, if_pos (by omega), if_pos (by omega), rd36_at all i hi, rord_f _ _ _ _ k (by omega), rord_f _ _ _ _ k (by omega), wrap64_in _ (by omega), u64_in (n + 1) (by omega), show ((i : Int) + 1) = ((i + 1 : Nat) : Int) by omega]
    simp only [Option.bind_some]
    rw [ih k (i + 1) (n + 1) (by omega) (by omega) (by omega) (by omega), ih k (i + 1) n (by omega) (by omega) (by omega) (by omega), hd, List.countP_cons]
    by_cases h2 : 0 ≤ ordM all[i].f0 all[i].f1 al ae
    · rw [if_pos h2]
      by_cases h3 : ordM all[i].f0 all[i].f1 bl be < 0
      · rw [if_pos h3]
        have : inP al ae bl be all[i] = true := by unfold inP; simp [h2, h3]
        rw [this, if_pos rfl]
        congr 1; omega
      · rw [if_neg h3]
        have : inP al ae bl be all[i] = false := by unfold inP; simp [h3]
        rw [this]; simp
    · rw [if_neg h2]
      have : inP al ae bl be all[i] = false := by unfold inP; simp [h2]
      rw [this]; simp

theorem rbetween_f {l : List S32} {o al ae bl be : Int} (hl : l.length ≤ 13) (hs : ∀ x ∈ l, 0 ≤ szM x o ∧ szM x o ≤ 100) (ha : 0 ≤ ae) (hb : 0 ≤ be) (k : Nat) (hk : 1400 ≤ k) : mailcoachref13_Between.f k l o al ae bl be = some (sumB o al ae bl be l) := by
  unfold mailcoachref13_Between.f
  have hn := all_len l hs
  rw [all_f hl hs k hk]
  simp only [Option.bind_some]
  have := rbetween_l0 (al := al) (ae := ae) (bl := bl) (be := be) (all := allM o l) (by omega) (allM o l).length k 0 0 (by omega) (by omega) (by omega) (by omega)
  rw [show ((0 : Nat) : Int) = 0 from rfl] at this
  rw [this, List.drop_zero, count_all ha hb l hs]
  simp

theorem rtrim_l0 {l : List S32} {pl pe : Int} (hl : l.length ≤ 4096) (d : Nat) : ∀ (k : Nat) (i : Nat), i + d = l.length → d + 10 < k → mailcoachref13_Trim.l0 k l i pl pe = some (trimM pl pe (l.drop i)) := by
  induction d with
  | zero =>
    intro k i h hk
    obtain ⟨k, rfl⟩ : ∃ m, k = m + 1 := ⟨k - 1, by omega⟩
    simp only [mailcoachref13_Trim.l0]; rw [if_neg (by omega), if_pos (by omega), if_pos (by omega), show ((i : Int)).toNat = i by omega, List.drop_eq_nil_of_le (by omega)]; rfl
  | succ d ih =>
    intro k i h hk
    obtain ⟨k, rfl⟩ : ∃ m, k = m + 1 := ⟨k - 1, by omega⟩
    have hi : i < l.length := by omega
    have hd : l.drop i = l[i] :: l.drop (i + 1) := List.drop_eq_getElem_cons hi
    have hcut : some (l.drop ((i : Int)).toNat) = some (l.drop i) := by rw [show ((i : Int)).toNat = i by omega]
    simp only [mailcoachref13_Trim.l0]
    rw [if_pos (by omega), if_pos (by omega), rd_at l i hi, rord_f _ _ _ _ k (by omega), wrap64_in ((i : Int) + 1) (by omega), show ((i : Int) + 1) = ((i + 1 : Nat) : Int) by omega]
    have htr : trimM pl pe (l.drop i) = if l[i].f1 = true ∧ ordM l[i].f0 l[i].f2 pl pe ≤ 0 then trimM pl pe (l.drop (i + 1)) else l.drop i := by
      rw [hd]; rfl
    rw [htr]
    simp only [Option.bind_some]
    by_cases h1 : l[i].f1 = true
    · rw [if_pos h1]
      by_cases h2 : ordM l[i].f0 l[i].f2 pl pe ≤ 0
      · rw [if_pos h2, if_pos ⟨h1, h2⟩]
        exact ih k (i + 1) (by omega) (by omega)
      · rw [if_neg h2, if_pos (by omega), if_neg (fun h => h2 h.2)]
        exact hcut
    · rw [if_neg h1, if_pos (by omega), if_neg (fun h => h1 h.1)]
      exact hcut
theorem rtrim_f {l : List S32} {pl pe : Int} (hl : l.length ≤ 4096) (k : Nat) (hk : l.length + 11 ≤ k) : mailcoachref13_Trim.f k l pl pe = some (trimM pl pe l) := by
  unfold mailcoachref13_Trim.f
  have := rtrim_l0 (pl := pl) (pe := pe) hl l.length k 0 (by omega) (by omega)
  simpa using this

theorem place_f {a b : Int} (raw : Bool) (ha : 0 ≤ a) (hb : 0 ≤ b) : ∃ pl pe, mailcoachlaw13_Place.f a b raw = some (pl, pe) ∧ 0 ≤ pl ∧ 0 ≤ pe := by
  unfold mailcoachlaw13_Place.f
  cases raw with
  | true => exact ⟨a, b, rfl, ha, hb⟩
  | false =>
    refine ⟨_, _, rfl, ?_, ?_⟩
    · rw [Int.tmod_eq_emod_of_nonneg ha]; omega
    · rw [Int.tmod_eq_emod_of_nonneg hb]; omega
end L13

theorem LedgersPlaces : ∀ (l0 : List Int) (a1 : Bool) (a2 : Int) (a3 : S36) (a4 : S36) (a5 : Bool), ((∀ y ∈ l0, (Lit.int .u8 y).wf = true) ∧ (l0).length ≤ maxLen ∧ (l0).length * Try.prog.bytesOf 5 ≤ 140737488351232) → (Lit.int .u8 a2).wf = true → ok36 a3 → ok36 a4 → ∃ k, mailcoachlaw13_LedgersPlaces.f k l0 a1 a2 a3.f0 a3.f1 a4.f0 a4.f1 a5 = some true := by
  intro l isOpen op p q raw hl hop hp hq
  have hb5 : Try.prog.bytesOf 5 = 1 := by kernel_rfl
  have hl3 : l.length ≤ 140737488351232 := by have := hl.2.2; rw [hb5] at this; omega
  have hop' := L13.u8_of hop
  obtain ⟨t, hmade, hmk⟩ := L13.made_f (l := l) isOpen (fun x hx => L13.u8_of (hl.1 x hx)) (by omega) 2000 (by omega)
  have htl := hmk.2.1
  obtain ⟨pl, pe, hpl, p1, p2⟩ := L13.place_f raw (L13.u64_of hp.1).1 (L13.u64_of hp.2).1
  obtain ⟨ql, qe, hql, q1, q2⟩ := L13.place_f raw (L13.u64_of hq.1).1 (L13.u64_of hq.2).1
  refine ⟨2000, ?_⟩
  unfold mailcoachlaw13_LedgersPlaces.f
  rw [L13.awake 2000 (by omega)]
  simp only [Option.bind_some, if_true]
  rw [hmade, hpl, hql]
  simp only [Option.bind_some]
  have ho : IntKind.u64.wrap (Int.tmod op 6) = op % 6 := by rw [Int.tmod_eq_emod_of_nonneg (by omega), u64_in _ (by omega)]
  rw [ho]
  have hs : ∀ x ∈ t, 0 ≤ L13.szM x (op % 6) ∧ L13.szM x (op % 6) ≤ 100 := fun x hx => by
    have := hmk.2.2 x hx
    unfold L13.szM
    split <;> omega
  have hs' : ∀ x ∈ t, 0 ≤ L13.szM x (op % 6) ∧ L13.szM x (op % 6) ≤ 1099511627776 := fun x hx => by have := hs x hx; omega
  rw [L13.next_f (by omega) 2000 (by omega), L13.rnext_f (by omega) hs p2 2000 (by omega)]
  simp only [Option.bind_some, beq_self_eq_true, Bool.and_self, if_true]
  rw [L13.order_f _ _ _ _ 2000 (by omega), L13.rord_f _ _ _ _ 2000 (by omega)]
  simp only [Option.bind_some, if_true]
  have hrh : mailcoachref13_Has.f 2000 t (op % 6) pl pe = some (L13.hasM (op % 6) pl pe t) := by
    unfold mailcoachref13_Has.f L13.hasM
    rw [L13.rnext_f (by omega) hs p2 2000 (by omega)]
    simp only [Option.bind_some]
    cases (L13.nextM (op % 6) pl pe 0 0 t).2.2 <;> simp
  rw [L13.has_f (by omega) 2000 (by omega), hrh]
  simp only [Option.bind_some, beq_self_eq_true, if_true]
  rw [L13.between_f' (by omega) hs' p2 q2 2000 (by omega), L13.rbetween_f (by omega) hs p2 q2 2000 (by omega)]
  simp only [Option.bind_some, if_true]
  have hbh : ledgers_Behind.f pl pe = mailcoachref13_Behind.f pl pe := rfl
  obtain ⟨bb, hbb⟩ : ∃ bb, mailcoachref13_Behind.f pl pe = some bb := by unfold mailcoachref13_Behind.f; split <;> exact ⟨_, rfl⟩
  rw [hbh, hbb]
  simp only [Option.bind_some, beq_self_eq_true, Bool.and_self, if_true]
  rw [L13.trim_f (by omega) 2000 (by omega), L13.rtrim_f (by omega) 2000 (by omega)]
  simp only [Option.bind_some]
  have htt : (L13.trimM pl pe t).length ≤ t.length := by
    obtain ⟨j, _, e, _⟩ := L13.trim_drop pl pe t
    rw [e, List.length_drop]; omega
  rw [L13.same_f _ (by omega) 2000 (by omega)]
  rfl

end Go.Proofs.Ytmbealldhndeoaa.Pure
