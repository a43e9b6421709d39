/- What the functions of this chapter give: their contracts over the machine. -/
import Derived.Test.YtiikaajopgjliaaC18
import Derived.Test.YtiikaajopgjliaaAm3
import Derived.Shelf.SlGeneric
import Derived.Ground.SlsfProg
import Derived.Shelf.SlSortCmp.NoneTotal
/- Maps of numbers; slices of numbers. -/
namespace Go.Proofs.Ytiikaajopgjliaa.AM
set_option maxRecDepth 100000
set_option linter.unusedVariables false
set_option linter.unusedSimpArgs false

abbrev i64 (n : Int) : AVal := .int .i64 n
abbrev u64 (n : Int) : AVal := .int .u64 n
def Grow (σ σ' : St) : Prop := σ.next ≤ σ'.next ∧ ∀ a, a < σ.next → σ'.mem.get a = σ.mem.get a
theorem Grow.refl (σ : St) : Grow σ σ := ⟨Nat.le_refl _, fun _ _ => rfl⟩

/-! ### Maps -/

section
variable {β : Type} (f : β → AVal)
def EN (e : Entry) (p : Nat × β) : Prop := e.2.1 = u64 (p.1 : Int) ∧ e.2.2 = f p.2
end
def lkN {β : Type} : List (Nat × β) → Nat → Option β
  | [], _ => none
  | (k, x) :: T, n => if n = k then some x else lkN T n
def setN {β : Type} : List (Nat × β) → Nat → β → List (Nat × β)
  | [], n, y => [(n, y)]
  | (k, x) :: T, n, y => if n = k then (n, y) :: T else (k, x) :: setN T n y
theorem setN_new {β : Type} {n : Nat} {y : β} : ∀ {T : List (Nat × β)}, lkN T n = none → setN T n y = T ++ [(n, y)]
  | [], _ => rfl
  | (k, x) :: T, h => by
    simp only [lkN] at h
    by_cases hk : n = k
    · rw [if_pos hk] at h; cases h
    · rw [if_neg hk] at h
      simp only [setN]
      rw [if_neg hk, setN_new h]; rfl
theorem findN {β : Type} {f : β → AVal} {k : Nat} : ∀ {ents : List Entry} {T : List (Nat × β)}, All2 (EN f) ents T → (findA (u64 (k : Int)) ents = some none ∧ lkN T k = none) ∨ ∃ i x, findA (u64 (k : Int)) ents = some (some (i, f x)) ∧ lkN T k = some x ∧ ∀ y, All2 (EN f) (ents.modify i fun e => (e.1, u64 (k : Int), f y)) (setN T k y)
  | [], [], _ => .inl ⟨rfl, rfl⟩
  | (st, y, d) :: ents, (n, x) :: T, h => by
    obtain ⟨⟨hy, hd⟩, ht⟩ := h
    simp only at hy hd
    subst hy hd
    by_cases hnk : k = n
    · subst hnk
      refine .inr ⟨0, x, by simp [findA, keyEqA, keyEq], by simp [lkN], fun y => ?_⟩
      simp only [List.modify_zero_cons, setN, if_true]
      exact ⟨⟨rfl, rfl⟩, ht⟩
    · have hkn : ¬ (k : Int) = (n : Int) := by omega
      have hf : keyEqA (u64 (k : Int)) (u64 (n : Int)) = some false := by simp [keyEqA, keyEq, hkn]
      rcases findN (k := k) ht with ⟨h1, h2⟩ | ⟨i, x1, h1, h2, h3⟩
      · exact .inl ⟨by simp only [findA]; rw [hf]; simp only; rw [h1]; rfl, by simp [lkN, hnk, h2]⟩
      · refine .inr ⟨i + 1, x1, by simp only [findA]; rw [hf]; simp only; rw [h1]; rfl, by simp [lkN, hnk, h2], fun y => ?_⟩
        simp only [List.modify_succ_cons, setN, if_neg hnk]
        exact ⟨⟨rfl, rfl⟩, h3 y⟩
  | [], _ :: _, h => h.elim
  | _ :: _, [], h => h.elim
/-- A map of numbers in memory. -/
def MapN {β : Type} (f : β → AVal) (σ : St) (mp : Nat) (T : List (Nat × β)) : Prop := ∃ clock ents, σ.mem.get mp = some (.map clock ents) ∧ All2 (EN f) ents T ∧ (∀ e ∈ ents, e.1 < clock) ∧ (ents.map (·.1)).Nodup
theorem MapN.frame {β : Type} {f : β → AVal} {σ σ' : St} {mp : Nat} {T : List (Nat × β)} (h : MapN f σ mp T) (hm : σ'.mem.get mp = σ.mem.get mp) : MapN f σ' mp T := by
  obtain ⟨c, e, h1, h2⟩ := h
  exact ⟨c, e, hm.trans h1, h2⟩
theorem stamps_modify (f : Entry → Entry) (hf : ∀ e, (f e).1 = e.1) : ∀ (ents : List Entry) (i : Nat), (ents.modify i f).map (·.1) = ents.map (·.1)
  | [], 0 => rfl
  | [], i + 1 => rfl
  | e :: es, 0 => by simp [hf]
  | e :: es, i + 1 => by simp [stamps_modify f hf es i]
theorem stamps_lt {ents : List Entry} {c : Nat} : (∀ e ∈ ents, e.1 < c) ↔ ∀ s ∈ ents.map (·.1), s < c := by simp
/-- Set: what the map is then. -/
theorem MapN.put {β : Type} {f : β → AVal} {clock : Nat} {ents : List Entry} {T : List (Nat × β)} (ha : All2 (EN f) ents T) (hs : ∀ e ∈ ents, e.1 < clock) (hd : (ents.map (·.1)).Nodup) (k : Nat) (y : β) :
    (findA (u64 (k : Int)) ents = some none ∧ lkN T k = none ∧ ∀ (σ : St) (mp : Nat), σ.mem.get mp = some (.map (clock + 1) (ents ++ [(clock, u64 (k : Int), f y)])) → MapN f σ mp (setN T k y)) ∨
    ∃ i x, findA (u64 (k : Int)) ents = some (some (i, f x)) ∧ lkN T k = some x ∧ ∀ (σ : St) (mp : Nat), σ.mem.get mp = some (.map clock (ents.modify i fun e => (e.1, u64 (k : Int), f y))) → MapN f σ mp (setN T k y) := by
  rcases findN (k := k) ha with ⟨f1, f2⟩ | ⟨i, x, f1, f2, f3⟩
  · refine .inl ⟨f1, f2, fun σ mp hm => ⟨_, _, hm, ?_, ?_, ?_⟩⟩
    · rw [setN_new f2]; exact All2.snoc ⟨rfl, rfl⟩ ha
    · intro e he
      rcases List.mem_append.1 he with he | he
      · have := hs e he; omega
      · simp at he; subst he; simp
    · rw [List.map_append, List.nodup_append]
      refine ⟨hd, by simp, ?_⟩
      rintro a ha b hb rfl
      simp at hb; subst hb
      have := stamps_lt.1 hs _ ha
      omega
  · refine .inr ⟨i, x, f1, f2, fun σ mp hm => ⟨_, _, hm, f3 y, ?_, ?_⟩⟩
    · rw [stamps_lt, stamps_modify (fun e => (e.1, u64 (k : Int), f y)) (fun e => rfl), ← stamps_lt]; exact hs
    · rw [stamps_modify (fun e => (e.1, u64 (k : Int), f y)) (fun e => rfl)]; exact hd

/-- A map that isn't changed, walked: what the next step may be. -/
theorem next_fix {σ : St} {it mp clock : Nat} {S : List Nat} {ents : List Entry} (hi : σ.mem.get it = some (.iter (some mp) clock S clock)) (hm : σ.mem.get mp = some (.map clock ents)) (hs : ∀ e ∈ ents, e.1 < clock) :
    ∃ L, nextC σ (.ptr it 0) = some L ∧ ∀ p ∈ L, p = (.tup [.bool false], σ) ∨ ∃ e ∈ ents, e.1 ∉ S ∧ p = (.tup [.bool true, e.2.1, e.2.2], ⟨σ.mem.set it (.iter (some mp) clock (S ++ [e.1]) clock), σ.next⟩) := by
  have hno : (!S.isEmpty && !ents.isEmpty && ents.all fun e => decide (clock ≤ e.1)) = false := by
    cases ents with
    | nil => simp
    | cons e es =>
      have := hs e (by simp)
      have : decide (clock ≤ e.1) = false := by simp; omega
      simp [this]
  simp only [nextC, hi, hm, hno]
  refine ⟨_, rfl, fun p hp => ?_⟩
  rcases List.mem_append.1 hp with hp | hp
  · split at hp
    · simp at hp; exact .inl hp
    · cases hp
  · obtain ⟨e, he, rfl⟩ := List.mem_map.1 hp
    have he2 : e ∈ ents ∧ e.1 ∉ S := by
      rcases List.mem_append.1 he with he | he <;>
      · rw [List.mem_filter, List.mem_filter] at he
        exact ⟨he.1.1, by simpa using he.1.2⟩
    exact .inr ⟨e, he2.1, he2.2, rfl⟩
def leftE (S : List Nat) (ents : List Entry) : Nat := ents.countP fun e => decide (e.1 ∉ S)
theorem leftE_lt {S : List Nat} {e : Entry} : ∀ {ents : List Entry}, e ∈ ents → e.1 ∉ S → leftE (S ++ [e.1]) ents < leftE S ents
  | e0 :: ents, h, hs => by
    have hle : leftE (S ++ [e.1]) ents ≤ leftE S ents := List.countP_mono_left fun z _ h => by
      simp only [decide_eq_true_eq, List.mem_append, not_or] at h ⊢; exact h.1
    simp only [leftE, List.countP_cons] at hle ⊢
    rcases List.mem_cons.1 h with rfl | h
    · simp [hs]
      exact Nat.lt_succ_of_le (by simpa using hle)
    · have ih := leftE_lt h hs
      simp only [leftE] at ih
      by_cases h0 : e0.1 ∈ S
      · simp [h0]; simpa using ih
      · by_cases h1 : e0.1 = e.1
        · simp [h0, h1] at ih ⊢; omega
        · simp [h0, h1]; simpa using ih
theorem stamp_findE {e : Entry} : ∀ {ents : List Entry}, (ents.map (·.1)).Nodup → e ∈ ents → ents.find? (fun x => x.1 == e.1) = some e
  | e0 :: ents, hs, h => by
    simp only [List.map_cons, List.nodup_cons] at hs
    rcases List.mem_cons.1 h with rfl | h
    · simp
    · have hs0 : e0.1 ≠ e.1 := fun x => hs.1 (by rw [x]; exact List.mem_map.2 ⟨e, h, rfl⟩)
      have ih := stamp_findE hs.2 h
      have hb : (e0.1 == e.1) = false := by simpa using hs0
      simp only [List.find?_cons, hb]; exact ih

/-! ### Slices of numbers -/

def uc (l : List Nat) : List AVal := l.map fun (n : Nat) => u64 (n : Int)
theorem uc_len (l : List Nat) : (uc l).length = l.length := by simp [uc]
theorem uc_upto (lo : Nat) : ∀ l : List Nat, uptoL lo (uc l) = true
  | [] => rfl
  | x :: t => by have := uc_upto lo t; simp [uc] at this ⊢; exact this
theorem uc_get {l : List Nat} {i n : Nat} (h : l[i]? = some n) : (uc l)[i]? = some (u64 (n : Int)) := by simp [uc, h]
def UI (v : AVal) (l : List Nat) : Prop := v = .nilsl ∧ l = [] ∨ ∃ t, v = .isl (uc l) l.length t
def UM (σ : St) (v : AVal) (l : List Nat) : Prop := UI v l ∨ ∃ a o c t vals, v = .sl a o l.length c t ∧ l.length ≤ c ∧ a < σ.next ∧ σ.mem.get a = some (.cells 1 vals) ∧ o + l.length ≤ vals.length ∧ (vals.drop o).take l.length = uc l
theorem UM.len {σ : St} {v : AVal} {l : List Nat} (h : UM σ v l) (ρ : St) : evalV ρ (.len 1 v) = some (i64 l.length, ρ) := by
  rcases h with (⟨rfl, rfl⟩ | ⟨t, rfl⟩) | ⟨a, o, c, t, vals, rfl, _⟩ <;> simp
theorem UM.frame {σ σ' : St} {v : AVal} {l : List Nat} (h : UM σ v l) (hn : σ.next ≤ σ'.next) (hm : ∀ a, a < σ.next → σ'.mem.get a = σ.mem.get a) : UM σ' v l := by
  rcases h with h | ⟨a, o, c, t, vals, h1, h2, h3, h4, h5⟩
  · exact .inl h
  · exact .inr ⟨a, o, c, t, vals, h1, h2, by omega, (hm a h3).trans h4, h5⟩
theorem UM.src {σ : St} {v : AVal} {l : List Nat} (h : UM σ v l) {ρ : St} (hm : ∀ a, a < σ.next → ρ.mem.get a = σ.mem.get a) : srcL ρ 1 v = some (uc l, l.length) := by
  rcases h with (⟨rfl, rfl⟩ | ⟨t, rfl⟩) | ⟨a, o, c, t, vals, rfl, h2, h3, h4, h5, h6⟩
  · rfl
  · simp [srcL, uc_len]
  · simp [srcL, hm a h3, h4, h5, h6]
theorem UM.at {σ : St} {v : AVal} {l : List Nat} (hv : UM σ v l) {i n : Nat} (hx : l[i]? = some n) {ρ : St} (hm : ∀ a, a < σ.next → ρ.mem.get a = σ.mem.get a) :
    ∃ p, evalV ρ (.idxAddr 1 v (i64 i)) = some (p, ρ) ∧ evalV ρ (.ld1 p) = some (u64 (n : Int), ρ) := by
  have hi := (List.getElem?_eq_some_iff.1 hx).1
  have hu := uc_get hx
  rcases hv with (⟨rfl, rfl⟩ | ⟨t, rfl⟩) | ⟨a, o, c, t, vals, rfl, c2, c3, c4, c5, c6⟩
  · simp at hx
  · have e1 : ((uc l).drop i).take 1 = [u64 (n : Int)] := by
      have hil : i < (uc l).length := by rw [uc_len]; exact hi
      rw [List.drop_eq_getElem_cons hil, (List.getElem?_eq_some_iff.1 hu).2]; rfl
    exact ⟨.iptr [u64 (n : Int)], by simp [hi, e1], by simp⟩
  · have e0 : vals[o + i]? = some (u64 (n : Int)) := by
      have : ((vals.drop o).take l.length)[i]? = some (u64 (n : Int)) := by rw [c6]; exact hu
      rw [List.getElem?_take, if_pos hi, List.getElem?_drop] at this
      exact this
    have ga := (hm a c3).trans c4
    exact ⟨.ptr a (o + i), by simp [hi], by simp [ga, e0]⟩
theorem frz_sl {lo n o len cap es : Nat} {t : Bool} {m : Mem} {vals : List AVal} (hn : lo ≤ n) (hm : m.get n = some (.cells es vals)) (hl : o + len * es ≤ vals.length) (hu : uptoL lo vals = true) : frz lo m (.sl n o len cap t) = some (.isl ((vals.drop o).take (len * es)) len (t && decide (cap = len))) := by
  simp only [frz, frz1]
  rw [if_neg (by omega), hm]
  simp only
  rw [if_pos ⟨hl, hu⟩]
theorem uptoL_app (lo : Nat) : ∀ a b : List AVal, uptoL lo (a ++ b) = (uptoL lo a && uptoL lo b)
  | [], b => by simp [uptoL]
  | x :: a, b => by simp [uptoL, uptoL_app lo a b, Bool.and_assoc]
theorem frz_uc {lo : Nat} {m : Mem} {b : Nat} {l : List Nat} {c : Nat} {t : Bool} {rest : List AVal} (hb : lo ≤ b) (hm : m.get b = some (.cells 1 (uc l ++ rest))) (hr : uptoL lo rest = true) : ∃ v', frz lo m (.sl b 0 l.length c t) = some v' ∧ UI v' l := by
  have h := frz_sl (o := 0) (len := l.length) (cap := c) (t := t) hb hm (by rw [List.length_append, uc_len]; omega) (by rw [uptoL_app, uc_upto, hr]; rfl)
  rw [List.drop_zero, Nat.mul_one, List.take_append_of_le_length (by rw [uc_len]; omega), List.take_of_length_le (by rw [uc_len]; omega)] at h
  exact ⟨_, h, .inr ⟨_, rfl⟩⟩

/-! ### Index, Contains, Grow, Concat -/

def idxN (l : List Nat) (n : Nat) : Int := match l.findIdx? fun x => decide (x = n) with
  | some i => i
  | none => -1
def IdxJ (v : AVal) (n : Nat) (l : List Nat) (σ0 : St) (mm : Nat) (rg : Regs) (σ' : St) : Prop := ∃ i : Nat, mm = l.length - i ∧ i ≤ l.length ∧ (∀ x ∈ l.take i, x ≠ n) ∧ σ' = σ0 ∧ rg = [(0, v), (1, u64 (n : Int)), (7, i64 l.length), (8, i64 i)]
theorem idxN_some {l : List Nat} {n i : Nat} (h1 : l[i]? = some n) (h3 : ∀ y ∈ l.take i, y ≠ n) : idxN l n = i := by
  have hi := (List.getElem?_eq_some_iff.1 h1).1
  have : (l.findIdx? fun x => decide (x = n)) = some i := by
    simp only [List.findIdx?_eq_some_iff_getElem]
    refine ⟨hi, by rw [(List.getElem?_eq_some_iff.1 h1).2]; simp, fun j hj => ?_⟩
    have := h3 l[j] (List.mem_of_getElem? (by rw [List.getElem?_take, if_pos hj]; exact List.getElem?_eq_getElem (by omega)))
    simpa using this
  rw [idxN, this]
theorem idxN_none {l : List Nat} {n : Nat} (h : ∀ y ∈ l, y ≠ n) : idxN l n = -1 := by
  have : (l.findIdx? fun x => decide (x = n)) = none := by
    simp only [List.findIdx?_eq_none_iff]
    intro x hx; simpa using h x hx
  rw [idxN, this]
theorem index_c {σ : St} {v : AVal} {l : List Nat} (hv : UM σ v l) (hl : l.length ≤ 1000000) (n : Nat) (Q : AVal → St → Prop) (h : Q (i64 (idxN l n)) σ) : ACall Try.prog 44 [v, u64 (n : Int)] σ Q := by
  refine ACall.of_compF hmx (fun a w => Try.call44 a w) Try.func44 cf44 (n := 2) (by decide) rfl ?_
  have l1 := hv.len
  simp [ac44, rs44, lk_cons, ↓l1]
  refine wp_loop (IdxJ v n l σ) l.length ?_ ?_
  · exact ⟨0, rfl, Nat.zero_le _, by simp, rfl, rfl⟩
  · rintro mm rg σ' ⟨i, rfl, hi, hp, rfl, rfl⟩
    by_cases hlt : i < l.length
    · obtain ⟨x, hx⟩ : ∃ x, l[i]? = some x := ⟨_, List.getElem?_eq_getElem hlt⟩
      obtain ⟨k, hk⟩ : ∃ k, i + 1 = k := ⟨_, rfl⟩
      have w1 : IntKind.i64.wrap ((i : Int) + 1) = (k : Int) := by rw [IntWalk.i64_in] <;> omega
      obtain ⟨p, p1, p2⟩ := hv.at hx (ρ := σ') fun _ _ => rfl
      by_cases hxn : x = n
      · have := idxN_some (l := l) (n := n) (i := i) (hxn ▸ hx) hp
        rw [this] at h
        simp [lk_cons, hlt, ↓p1, ↓p2, hxn]
        exact h
      · have hxn' : ¬ (n : Int) = (x : Int) := by omega
        have hxn2 : ¬ n = x := fun e => hxn e.symm
        simp [lk_cons, hlt, ↓p1, ↓p2, hxn', hxn2, w1]
        refine ⟨l.length - k, by omega, k, rfl, by omega, fun y hy => ?_, rfl, rfl⟩
        rw [← hk, List.take_add_one, hx] at hy
        rcases List.mem_append.1 hy with hy | hy
        · exact hp y hy
        · simp at hy; subst hy; exact hxn
    · have : i = l.length := by omega
      subst this
      rw [List.take_length] at hp
      rw [idxN_none hp] at h
      simp [lk_cons]
      exact h
theorem contains_c {σ : St} {v : AVal} {l : List Nat} (hv : UM σ v l) (hl : l.length ≤ 1000000) (n : Nat) (Q : AVal → St → Prop) (h : Q (.bool (decide (n ∈ l))) σ) : ACall Try.prog 29 [v, u64 (n : Int)] σ Q := by
  refine ACall.of_compF hmx (fun a w => Try.call29 a w) Try.func29 cf29 (n := 2) (by decide) rfl ?_
  simp [ac29, rs29, lk_cons]
  refine index_c hv hl n _ ?_
  by_cases hn : n ∈ l
  · rw [decide_eq_true hn] at h
    have : 0 ≤ idxN l n := by
      unfold idxN
      split
      · omega
      · rename_i he
        simp only [List.findIdx?_eq_none_iff] at he
        have := he n hn
        simp at this
    simp [lk_cons, this]
    exact h
  · rw [decide_eq_false hn] at h
    rw [idxN_none fun y hy e => hn (by rw [← e]; exact hy)]
    simp [lk_cons]
    exact h
end Go.Proofs.Ytiikaajopgjliaa.AM

/- Grow, Concat of numbers. -/
namespace Go.Proofs.Ytiikaajopgjliaa.AM
set_option maxRecDepth 100000
set_option linter.unusedVariables false
set_option linter.unusedSimpArgs false
theorem uc_app (l m : List Nat) : uc (l ++ m) = uc l ++ uc m := by simp [uc]

/-- Room for n. -/
def Room (v : AVal) (b n k : Nat) : Prop := n = 0 ∧ v = .nilsl ∧ k = 0 ∨ 0 < n ∧ v = .sl b 0 k n false
theorem grow_c (σ : St) (n : Nat) (hn : n ≤ 1000000) (Q : AVal → St → Prop) (h0 : n = 0 → Q .nilsl σ) (h1 : 0 < n → Q (.sl σ.next 0 0 n false) ⟨σ.mem.set σ.next (.cells 1 (repL n [u64 0])), σ.next + 1⟩) : ACall Try.prog 64 [.nilsl, i64 n] σ Q := by
  refine ACall.of_compF hmx (fun a w => Try.call64 a w) Try.func64 cf64 (n := 2) (by decide) rfl ?_
  have w0 : IntKind.i64.wrap 0 = 0 := by rw [IntWalk.i64_in]; omega
  have w1 : IntKind.i64.wrap (n : Int) = n := by rw [IntWalk.i64_in]; omega
  by_cases hz : n = 0
  · have := h0 hz
    subst hz
    simp [ac64, rs64, lk_cons, w0]
    exact this
  · have hp : 0 < n := by omega
    have := h1 hp
    have h16 : (n : Int) * 8 ≤ 140737488355328 ∧ (n : Int) ≤ 9223372036854775807 := by omega
    have hneg : ¬ (n : Int) < 0 := by omega
    have hp' : (0 : Int) < n := by omega
    simp [ac64, rs64, lk_cons, w0, w1, hneg, hp, hp', optM, asliceSl, bnd, h16]
    exact this

def cat (ls : List (List Nat)) : List Nat := ls.flatten
def CcJ1 (a N : Nat) (ls : List (List Nat)) (σ0 : St) (mm : Nat) (rg : Regs) (σ' : St) : Prop := ∃ i : Nat, mm = N - i ∧ i ≤ N ∧ σ' = σ0 ∧ rg = [(0, .sl a 0 N N true), (3, i64 (cat (ls.take i)).length), (9, .sl a 0 N N true), (10, i64 N), (11, i64 i)]
def CcJ2 (a N n : Nat) (ls : List (List Nat)) (σ0 : St) (mm : Nat) (rg : Regs) (σ' : St) : Prop := ∃ (i : Nat) (v : AVal) (rest : List AVal), mm = N - i ∧ i ≤ N ∧ Grow σ0 σ' ∧ (n = 0 ∧ v = .nilsl ∨ 0 < n ∧ v = .sl σ0.next 0 (cat (ls.take i)).length n false ∧ σ0.next < σ'.next ∧ σ'.mem.get σ0.next = some (.cells 1 (uc (cat (ls.take i)) ++ rest)) ∧ (cat (ls.take i)).length + rest.length = n ∧ uptoL σ0.next rest = true) ∧ rg = [(6, v), (25, .sl a 0 N N true), (26, i64 N), (27, i64 i)]

theorem store_mid : ∀ (y x r : List AVal), y.length ≤ r.length → storeL (x ++ r) x.length y = x ++ y ++ r.drop y.length
  | [], x, r, _ => by simp [storeL]
  | c :: y, x, [], h => by simp at h
  | c :: y, x, r0 :: r, h => by
    have e : (x ++ r0 :: r).set x.length c = (x ++ [c]) ++ r := by simp
    have e2 : x.length + 1 = (x ++ [c]).length := by simp
    simp only [storeL]
    rw [e, e2, store_mid y (x ++ [c]) r (by simpa using h)]
    simp
theorem upto_rep (lo : Nat) : ∀ n, uptoL lo (repL n [u64 0]) = true := by
  intro n
  induction n with
  | zero => rfl
  | succ n ih => simp only [repL, List.replicate_succ, List.flatten_cons] at ih ⊢; rw [uptoL_app, ih]; rfl
theorem upto_drop (lo : Nat) : ∀ (l : List AVal) (n : Nat), uptoL lo l = true → uptoL lo (l.drop n) = true
  | [], n, _ => by simp [uptoL]
  | x :: l, 0, h => h
  | x :: l, n + 1, h => by
    simp only [uptoL, Bool.and_eq_true] at h
    exact upto_drop lo l n h.2

theorem concat_c {σ : St} {a N : Nat} {vs : List AVal} {ls : List (List Nat)} (hN : N ≤ 1000) (hvs : vs.length = N) (ha : a < σ.next) (hm : σ.mem.get a = some (.cells 1 vs)) (hall : All2 (UM σ) vs ls) (hlen : (cat ls).length ≤ 100000) (Q : AVal → St → Prop) (h : ∀ v', UI v' (cat ls) → Q v' σ) : ACall Try.prog 56 [.sl a 0 N N true] σ Q := by
  refine ACall.freeze ?_
  refine ACall.of_compF hmx (fun a w => Try.call56 a w) Try.func56 cf56 (n := 1) (by decide) rfl ?_
  have hll : ls.length = N := by have := hall.len; omega
  have step : ∀ i, i < N → ∃ v l, vs[i]? = some v ∧ ls[i]? = some l ∧ UM σ v l ∧ cat (ls.take (i + 1)) = cat (ls.take i) ++ l ∧ (cat (ls.take i)).length + l.length ≤ (cat ls).length := by
    intro i hi
    obtain ⟨v, hv⟩ : ∃ v, vs[i]? = some v := ⟨_, List.getElem?_eq_getElem (by omega)⟩
    obtain ⟨l, hl, hr⟩ := hall.get hv
    have e : cat (ls.take (i + 1)) = cat (ls.take i) ++ l := by simp [cat, List.take_add_one, hl]
    refine ⟨v, l, hv, hl, hr, e, ?_⟩
    have : cat ls = cat (ls.take (i + 1)) ++ cat (ls.drop (i + 1)) := by simp only [cat, ← List.flatten_append, List.take_append_drop]
    rw [this, e]; simp <;> omega
  simp [ac56, rs56, lk_cons]
  refine wp_loop (CcJ1 a N ls σ) N ?_ ?_
  · exact ⟨0, rfl, Nat.zero_le _, rfl, rfl⟩
  · rintro mm rg σ' ⟨i, rfl, hi, rfl, rfl⟩
    by_cases hlt : i < N
    · obtain ⟨v, l, g1, g2, g3, g4, g5⟩ := step i hlt
      obtain ⟨k, hk⟩ : ∃ k, i + 1 = k := ⟨_, rfl⟩
      have w1 : IntKind.i64.wrap ((i : Int) + 1) = (k : Int) := by rw [IntWalk.i64_in] <;> omega
      have l1 := g3.len
      obtain ⟨s, hs⟩ : ∃ s, (cat (ls.take i)).length + l.length = s := ⟨_, rfl⟩
      have w2 : IntKind.i64.wrap (((cat (ls.take i)).length : Int) + (l.length : Int)) = (s : Int) := by rw [IntWalk.i64_in] <;> omega
      have hneg : ¬ (s : Int) < 0 := by omega
      simp [lk_cons, hlt, hm, g1, ↓l1, w2, w1, hneg]
      exact ⟨N - k, by omega, k, rfl, by omega, rfl, by rw [← hk, g4, List.length_append, hs]⟩
    · have : i = N := by omega
      subst this
      have ht : ls.take i = ls := List.take_of_length_le (by omega)
      rw [ht]
      obtain ⟨n, hn⟩ : ∃ n, (cat ls).length = n := ⟨_, rfl⟩
      simp [lk_cons]
      rw [hn]
      have old : ∀ (σ1 : St) (v' : AVal), Grow σ' σ1 → (∃ v'', frz σ'.next σ1.mem v' = some v'' ∧ UI v'' (cat ls)) → Old σ' σ1 ∧ ∃ v'', frz σ'.next σ1.mem v' = some v'' ∧ Q v'' σ' := fun σ1 v' hg ⟨v'', f1, f2⟩ => ⟨fun a ha => hg.2 a ha, v'', f1, h v'' f2⟩
      refine grow_c _ n (by omega) _ (fun hn0 => ?_) fun hnp => ?_
      case' refine_1 =>
        simp [lk_cons]
        refine wp_loop (CcJ2 a i n ls σ') i ⟨0, _, [], rfl, by omega, Grow.refl _, .inl ⟨hn0, rfl⟩, rfl⟩ ?_
        clear hn0
      case' refine_2 =>
        simp [lk_cons]
        refine wp_loop (CcJ2 a i n ls σ') i ⟨0, _, repL n [u64 0], rfl, by omega, ⟨by simp, fun a ha => by simp [show ¬ a = σ'.next by omega]⟩, .inr ⟨hnp, rfl, by simp, by simp [cat, uc], by simp [cat, repL_length], upto_rep _ n⟩, rfl⟩ ?_
        clear hnp
      all_goals
        rintro mm rg σ2 ⟨j, v, rest, rfl, hj, hg, hv, rfl⟩
        have hm2 := (hg.2 a ha).trans hm
        by_cases hlt2 : j < i
        · obtain ⟨w, l, g1, g2, g3, g4, g5⟩ := step j hlt2
          obtain ⟨k, hk⟩ : ∃ k, j + 1 = k := ⟨_, rfl⟩
          have w1 : IntKind.i64.wrap ((j : Int) + 1) = (k : Int) := by rw [IntWalk.i64_in] <;> omega
          have hs := g3.src (ρ := σ2) hg.2
          rw [hk] at g4
          rw [hn] at g5
          rcases hv with ⟨hn0, rfl⟩ | ⟨hnp, rfl, hb, hmb, hml, hru⟩
          · have hl0 : l.length = 0 := by omega
            simp [lk_cons, hlt2, hm2, g1, hs, hl0, w1]
            exact ⟨i - k, by omega, k, _, [], rfl, by omega, hg, .inl ⟨hn0, rfl⟩, rfl⟩
          · have hroom : (cat (ls.take j)).length + l.length ≤ n := g5
            have hc : ((cat (ls.take j)).length + l.length) ≤ (uc (cat (ls.take j)) ++ rest).length := by rw [List.length_append, uc_len]; omega
            have hc' : ((cat (ls.take j)).length + l.length) ≤ (uc (cat (ls.take j))).length + rest.length := by rw [uc_len]; omega
            have hsm := store_mid (uc l) (uc (cat (ls.take j))) rest (by rw [uc_len]; omega)
            rw [uc_len (cat (ls.take j)), ← uc_app, ← g4, uc_len] at hsm
            have hl2 := congrArg List.length g4
            rw [List.length_append] at hl2
            have hne : ¬ a = σ'.next := by omega
            simp [lk_cons, hlt2, hm2, g1, hs, hmb, hroom, w1, hc', hsm]
            refine ⟨i - k, by omega, k, _, rest.drop l.length, rfl, by omega, ⟨hg.1, fun x hx => ?_⟩, .inr ⟨hnp, by rw [hl2], hb, by simp, ?_, upto_drop _ _ _ hru⟩, rfl⟩
            · simp [show ¬ x = σ'.next by omega]; exact hg.2 x hx
            · simp; omega
        · have : j = i := by omega
          subst this
          simp [lk_cons, hlt2]
          rw [ht] at hv
          refine old σ2 v hg ?_
          rcases hv with ⟨hn0, rfl⟩ | ⟨hnp, rfl, hb, hmb, hml, hru⟩
          · exact ⟨.nilsl, rfl, .inl ⟨rfl, List.length_eq_zero_iff.1 (by omega)⟩⟩
          · exact frz_uc (Nat.le_refl _) hmb hru
end Go.Proofs.Ytiikaajopgjliaa.AM

/- A desk that hands out by turns. -/
namespace Go.Proofs.Ytiikaajopgjliaa.AM
set_option maxRecDepth 100000
set_option linter.unusedVariables false
set_option linter.unusedSimpArgs false

def iV (p : Int) : AVal := i64 p
def LV (σ : St) (d pm om : Nat) (lv : AVal) (L : List Nat) : Prop := lv = .nilsl ∧ L = [] ∨ ∃ lb, lv = .sl lb 0 L.length L.length false ∧ 0 < L.length ∧ lb < σ.next ∧ lb ≠ d ∧ lb ≠ pm ∧ lb ≠ om ∧ σ.mem.get lb = some (.cells 1 (uc L))
theorem LV.um {σ : St} {d pm om : Nat} {lv : AVal} {L : List Nat} (h : LV σ d pm om lv L) : UM σ lv L := by
  rcases h with h | ⟨lb, h1, h0, h2, _, _, _, h3⟩
  · exact .inl (.inl h)
  · exact .inr ⟨lb, 0, _, _, _, h1, Nat.le_refl _, h2, h3, by rw [uc_len]; omega, by rw [List.drop_zero, List.take_of_length_le (by rw [uc_len]; omega)]⟩
def OutM (σ : St) (om k : Nat) : Prop := ∃ clock ents, σ.mem.get om = some (.map clock ents) ∧ ents.length = k ∧ ∀ e ∈ ents, ∃ j : Nat, j < k ∧ e.2.1 = .agg [u64 0, u64 (j : Int)]
structure DRep (σ : St) (d pm om : Nat) (L : List Nat) (T : List (Nat × Int)) (k last : Nat) : Prop where
  head : ∃ lv, σ.mem.get d = some (.cells 5 [.int .u8 3, lv, .map pm, .map om, u64 (last : Int)]) ∧ LV σ d pm om lv L
  perm : MapN iV σ pm T
  outs : OutM σ om k
  ne : d ≠ pm ∧ d ≠ om ∧ pm ≠ om
  lt : d < σ.next ∧ pm < σ.next ∧ om < σ.next
def Keep3 (d pm om : Nat) (σ σ' : St) : Prop := σ.next ≤ σ'.next ∧ ∀ a, a < σ.next → a ≠ d → a ≠ pm → a ≠ om → σ'.mem.get a = σ.mem.get a
theorem DRep.frame {σ σ' : St} {d pm om : Nat} {L : List Nat} {T : List (Nat × Int)} {k last : Nat} (h : DRep σ d pm om L T k last) (hg : Grow σ σ') : DRep σ' d pm om L T k last := by
  obtain ⟨⟨lv, h1, h2⟩, h3, ⟨c, e, h4, h5⟩, h6, h7⟩ := h
  refine ⟨⟨lv, (hg.2 d h7.1).trans h1, ?_⟩, h3.frame (hg.2 pm h7.2.1), ⟨c, e, (hg.2 om h7.2.2).trans h4, h5⟩, h6, by have := hg.1; omega⟩
  rcases h2 with h | ⟨lb, g1, g0, g2, g3, g4, g5, g6⟩
  · exact .inl h
  · exact .inr ⟨lb, g1, g0, by have := hg.1; omega, g3, g4, g5, (hg.2 lb g2).trans g6⟩
/-- What else is written. -/
theorem DRep.keep {σ σ' : St} {d pm om : Nat} {L : List Nat} {T : List (Nat × Int)} {k last : Nat} (h : DRep σ d pm om L T k last) (hn : σ.next ≤ σ'.next) (x : Nat) (hx : x ≠ d ∧ x ≠ pm ∧ x ≠ om) (hb : ∀ b, σ.mem.get x = some b → ∃ c e, b = .map c e) (hm : ∀ a, a < σ.next → a ≠ x → σ'.mem.get a = σ.mem.get a) : DRep σ' d pm om L T k last := by
  obtain ⟨⟨lv, h1, h2⟩, h3, ⟨c, e, h4, h5⟩, h6, h7⟩ := h
  refine ⟨⟨lv, (hm d h7.1 (Ne.symm hx.1)).trans h1, ?_⟩, h3.frame (hm pm h7.2.1 (Ne.symm hx.2.1)), ⟨c, e, (hm om h7.2.2 (Ne.symm hx.2.2)).trans h4, h5⟩, h6, by omega⟩
  rcases h2 with h | ⟨lb, g1, g0, g2, g3, g4, g5, g6⟩
  · exact .inl h
  · refine .inr ⟨lb, g1, g0, by omega, g3, g4, g5, (hm lb g2 fun e => ?_).trans g6⟩
    subst e
    obtain ⟨c, e, he⟩ := hb _ g6
    cases he

theorem dnew_c (σ : St) (Q : AVal → St → Prop) (h : ∀ d pm om σ', DRep σ' d pm om [] [] 0 0 → Grow σ σ' → Q (.tup [.ptr d 0, i64 0]) σ') : ACall Try.prog 11 [.int .u8 3] σ Q := by
  refine ACall.of_compF hmx (fun a w => Try.call11 a w) Try.func11 cf11 (n := 1) (by decide) rfl ?_
  simp [ac11, rs11, lk_cons, fillL, storeL]
  have e1 : ¬ σ.next = σ.next + 1 := by omega
  have e2 : ¬ σ.next = σ.next + 1 + 1 := by omega
  have e3 : ¬ σ.next + 1 = σ.next + 1 + 1 := by omega
  refine h (σ.next + 1 + 1) σ.next (σ.next + 1) _ ⟨⟨.nilsl, by simp, .inl ⟨rfl, rfl⟩⟩, ⟨0, [], by simp [e1, e2], trivial, by simp, by simp⟩, ⟨0, [], by simp [e3], rfl, by simp⟩, ⟨by omega, by omega, by omega⟩, ⟨by simp, by simp; omega, by simp⟩⟩ ⟨by simp; omega, fun a ha => by simp [show ¬ a = σ.next by omega, show ¬ a = σ.next + 1 by omega, show ¬ a = σ.next + 1 + 1 by omega]⟩

def joinC (L : List Nat) (c : Nat) : Int := if c = 0 then 2 else if c ∈ L then 12 else if 8 ≤ L.length then 14 else 0
theorem join_c {σ : St} {d pm om : Nat} {L : List Nat} {T : List (Nat × Int)} {k last : Nat} (h : DRep σ d pm om L T k last) (hL : L.length ≤ 1000) (c : Nat) (Q : AVal → St → Prop) (hQ : ∀ σ', DRep σ' d pm om (if joinC L c = 0 then L ++ [c] else L) T k last → σ.next ≤ σ'.next → (∀ a, a < σ.next → a ≠ d → (∀ b, σ.mem.get a = some b → (∃ c e, b = .map c e) ∨ ∃ x y z w, b = .iter x y z w) → σ'.mem.get a = σ.mem.get a) → Q (i64 (joinC L c)) σ') :
    ACall Try.prog 12 [.ptr d 0, u64 (c : Int)] σ Q := by
  refine ACall.of_compF hmx (fun a w => Try.call12 a w) Try.func12 cf12 (n := 2) (by decide) rfl ?_
  obtain ⟨⟨lv, hh, hlv⟩, hpm, hom, hne, hlt⟩ := id h
  have hum := hlv.um
  have l1 := hum.len
  have bad : ∀ x : Int, joinC L c = x → x ≠ 0 → Q (i64 x) σ := fun x hx h0 => by
    have := hQ σ (by rw [hx, if_neg h0]; exact h) (Nat.le_refl _) (fun _ _ _ _ => rfl)
    rw [hx] at this; exact this
  by_cases hc0 : c = 0
  · have hc0' : (c : Int) = 0 := by omega
    simp [ac12, rs12, lk_cons, hc0, hc0']
    exact bad 2 (by simp [joinC, hc0]) (by omega)
  have hc0' : ¬ (c : Int) = 0 := by omega
  simp [ac12, rs12, lk_cons, hc0, hc0', hh]
  refine contains_c hum (by omega) c _ ?_
  by_cases hcL : c ∈ L
  · simp [lk_cons, hcL]
    exact bad 12 (by simp [joinC, hc0, hcL]) (by omega)
  by_cases h8 : 8 ≤ L.length
  · have h8' : (8 : Int) ≤ L.length := by omega
    simp [lk_cons, hcL, hh, ↓l1, h8, h8']
    exact bad 14 (by simp [joinC, hc0, hcL, h8]) (by omega)
  have hj : joinC L c = 0 := by simp [joinC, hc0, hcL, h8]
  have h8' : ¬ (8 : Int) ≤ L.length := by omega
  rw [hj] at hQ
  simp only [if_pos] at hQ
  have e1 : ¬ d = σ.next := by omega
  have e2 : ¬ d = σ.next + 1 := by omega
  have e3 : ¬ pm = σ.next := by omega
  have e4 : ¬ pm = σ.next + 1 := by omega
  have e5 : ¬ om = σ.next := by omega
  have e6 : ¬ om = σ.next + 1 := by omega
  have e7 : ¬ pm = d := Ne.symm hne.1
  have e8 : ¬ om = d := Ne.symm hne.2.1
  have e9 : ¬ σ.next + 1 = d := by omega
  obtain ⟨cp, ep, hp1, hp2⟩ := hpm
  obtain ⟨co, eo, ho1, ho2⟩ := hom
  rcases hlv with ⟨rfl, rfl⟩ | ⟨lb, rfl, hb0, hb1, hb2, hb3, hb4, hb5⟩
  · simp [lk_cons, hcL, hh, fillL, repL, srcL, storeL, e1, e2]
    refine hQ _ ⟨⟨.sl (σ.next + 1) 0 1 1 false, by simp, .inr ⟨σ.next + 1, rfl, by simp, by simp, by omega, by omega, by omega, by simp [e9, uc]⟩⟩, ⟨cp, ep, by simp [e3, e4, e7, hp1], hp2⟩, ⟨co, eo, by simp [e5, e6, e8, ho1], ho2⟩, hne, by simp; omega⟩ (by simp; omega) fun a ha had _ => by simp [show ¬ a = σ.next by omega, show ¬ a = σ.next + 1 by omega, had]
  · have k1 : ¬ L.length + 1 ≤ L.length := by omega
    have k2 : L.length ≤ (uc L).length := by rw [uc_len]; omega
    have k3 : (L.length + 1) * 8 ≤ 140737488355328 ∧ L.length + 1 ≤ 9223372036854775807 := by omega
    have k4 : (uc L).take L.length = uc L := List.take_of_length_le (by rw [uc_len]; omega)
    have k5 : L.length ≤ 9223372036854775806 := by omega
    have f1 : ¬ lb = σ.next := by omega
    have f2 : ¬ d = lb := Ne.symm hb2
    simp [lk_cons, hcL, hh, ↓l1, h8, h8', fillL, repL, srcL, storeL, e1, e2, hb5, f1, Ne.symm f1, k1, k2, k3, k4, k5, f2]
    refine hQ _ ⟨⟨_, by simp; rfl, .inr ⟨σ.next + 1, by simp, by simp, by simp, by omega, by omega, by omega, by simp [e9, uc_app, uc]⟩⟩, ⟨cp, ep, by simp [e3, e4, e7, Ne.symm hb3, hp1], hp2⟩, ⟨co, eo, by simp [e5, e6, e8, Ne.symm hb4, ho1], ho2⟩, hne, by simp; omega⟩ (by simp; omega) fun a ha had hk => ?_
    have : ¬ a = lb := fun e => by
      subst e
      rcases hk _ hb5 with ⟨c, e, he⟩ | ⟨_, _, _, _, he⟩ <;> cases he
    simp [show ¬ a = σ.next by omega, show ¬ a = σ.next + 1 by omega, had, this]

theorem flow_c {σ : St} {d pm om : Nat} {L : List Nat} {T : List (Nat × Int)} {k last : Nat} (h : DRep σ d pm om L T k last) (hL : L.length ≤ 1000) (c : Nat) (hc : c ∈ L) (hT : lkN T c = none) (Q : AVal → St → Prop) (hQ : ∀ σ', DRep σ' d pm om L (T ++ [(c, 100)]) k last → σ.next ≤ σ'.next → (∀ a, a < σ.next → a ≠ pm → σ'.mem.get a = σ.mem.get a) → Q (i64 0) σ') :
    ACall Try.prog 13 [.ptr d 0, u64 (c : Int), i64 100] σ Q := by
  refine ACall.of_compF hmx (fun a w => Try.call13 a w) Try.func13 cf13 (n := 3) (by decide) rfl ?_
  obtain ⟨⟨lv, hh, hlv⟩, ⟨cp, ep, hp1, hp2, hp3, hp4⟩, hom, hne, hlt⟩ := id h
  have hum := hlv.um
  have w1 : IntKind.i64.wrap 1000 = 1000 := by rw [IntWalk.i64_in]; omega
  have w2 : IntKind.i64.wrap 100 = 100 := by rw [IntWalk.i64_in]; omega
  rcases MapN.put hp2 hp3 hp4 c 100 with ⟨f1, f2, f3⟩ | ⟨i, x, f1, f2, f3⟩
  · simp [ac13, rs13, lk_cons, hh]
    refine contains_c hum (by omega) c _ ?_
    simp [lk_cons, hc, hh, hp1, f1, keyIs, shapeOk, kShape, w1, w2]
    have hset := setN_new (y := (100 : Int)) f2
    rw [hset] at f3
    refine hQ _ ⟨⟨lv, by simp [hne.1, hh], ?_⟩, f3 _ _ (by simp [iV]), ?_, hne, by simpa using hlt⟩ (by simp) fun a ha hx => by simp [hx]
    · rcases hlv with h | ⟨lb, g1, g0, g2, g3, g4, g5, g6⟩
      · exact .inl h
      · exact .inr ⟨lb, g1, g0, g2, g3, g4, g5, by simp [g4, g6]⟩
    · obtain ⟨c, e, h4, h5⟩ := hom
      exact ⟨c, e, by simp [Ne.symm hne.2.2, h4], h5⟩
  · rw [hT] at f2; cases f2

theorem turn_c {σ : St} {d pm om : Nat} {L : List Nat} {T : List (Nat × Int)} {k last : Nat} (h : DRep σ d pm om L T k last) (hL : L.length ≤ 1000) (i : Nat) (hi : idxN L last + 1 = i) (hil : i ≤ L.length) (Q : AVal → St → Prop) (hQ : ∀ v, UI v (L.drop i ++ L.take i) → Q v σ) : ACall Try.prog 45 [.ptr d 0] σ Q := by
  refine ACall.scrub ?_
  refine ACall.of_compF hmx (fun a w => Try.call45 a w) Try.func45 cf45 (n := 1) (by decide) rfl ?_
  obtain ⟨⟨lv, hh, hlv⟩, hpm, hom, hne, hlt⟩ := id h
  have hum := hlv.um
  have w1 : IntKind.i64.wrap (idxN L last + 1) = (i : Int) := by rw [hi, IntWalk.i64_in]; omega
  have hup : ∀ v l, UI v l → v.upto σ.next = true := by
    intro v l hv
    rcases hv with ⟨rfl, _⟩ | ⟨t, rfl⟩
    · rfl
    · simp [AVal.upto, uc_upto]
  simp [ac45, rs45, lk_cons, hh]
  refine index_c hum (by omega) last _ ?_
  simp [lk_cons, w1, hh]
  have cc : ∀ (v1 v2 : AVal), UM ⟨σ.mem.set σ.next (.cells 1 [v1, v2]), σ.next + 1⟩ v1 (L.drop i) → UM ⟨σ.mem.set σ.next (.cells 1 [v1, v2]), σ.next + 1⟩ v2 (L.take i) → ∀ Q', (∀ v', UI v' (L.drop i ++ L.take i) → Q' v' ⟨σ.mem.set σ.next (.cells 1 [v1, v2]), σ.next + 1⟩) → ACall Try.prog 56 [.sl σ.next 0 2 2 true] ⟨σ.mem.set σ.next (.cells 1 [v1, v2]), σ.next + 1⟩ Q' := by
    intro v1 v2 h1 h2 Q' h'
    refine concat_c (N := 2) (vs := [v1, v2]) (ls := [L.drop i, L.take i]) (by omega) rfl (by simp) (by simp) ⟨h1, h2, trivial⟩ (by simp [cat]; omega) Q' fun v' hv' => h' v' ?_
    simpa [cat] using hv'
  rcases hlv with ⟨rfl, rfl⟩ | ⟨lb, rfl, hb0, hb1, hb2, hb3, hb4, hb5⟩
  · have hi0 : i = 0 := by simpa using hil
    simp [lk_cons, hi0, optM, asliceSl, bnd, fillL, repL, storeL, hh]
    refine cc .nilsl .nilsl (.inl (.inl ⟨rfl, by simp⟩)) (.inl (.inl ⟨rfl, by simp⟩)) _ fun v' hv' => ?_
    simp [lk_cons]
    exact ⟨hup _ _ hv', fun a ha => by simp [show ¬ a = σ.next by omega], hQ v' hv'⟩
  · have f1 : ¬ lb = σ.next := by omega
    simp [lk_cons, optM, asliceSl, bnd, fillL, repL, storeL, hh, hil, hb5, f1]
    refine cc _ _ ?_ ?_ _ fun v' hv' => ?_
    · refine .inr ⟨lb, i, L.length - i, false, uc L, by rw [List.length_drop], by rw [List.length_drop]; exact Nat.le_refl _, by simp; omega, by simp [f1, hb5], by rw [uc_len, List.length_drop]; omega, ?_⟩
      rw [List.length_drop]; simp [uc, List.take_of_length_le]
    · refine .inr ⟨lb, 0, L.length, false, uc L, by rw [List.length_take, Nat.min_eq_left hil], by rw [List.length_take]; omega, by simp; omega, by simp [f1, hb5], by rw [uc_len, List.length_take]; omega, ?_⟩
      rw [List.length_take, Nat.min_eq_left hil]; simp [uc]
    simp [lk_cons]
    exact ⟨hup _ _ hv', fun a ha => by simp [show ¬ a = σ.next by omega], hQ v' hv'⟩
end Go.Proofs.Ytiikaajopgjliaa.AM

/- Outs: rows, what a map of them gives. -/
namespace Go.Proofs.Ytiikaajopgjliaa.AM
set_option maxRecDepth 100000
set_option linter.unusedVariables false
set_option linter.unusedSimpArgs false

/-- What a consumer has. -/
structure OutR where
  l : Nat
  e : Nat
  c : Nat
  k : ByteArray
instance : Inhabited OutR := ⟨⟨0, 0, 0, ⟨#[]⟩⟩⟩
abbrev orow (x : OutR) : List AVal := [u64 (x.l : Int), u64 (x.e : Int), u64 (x.c : Int), .str x.k]
def oc (l : List OutR) : List AVal := (l.map orow).flatten
theorem oc_len (l : List OutR) : (oc l).length = l.length * 4 := by
  induction l with
  | nil => rfl
  | cons x l ih => simp only [oc, List.map_cons, List.flatten_cons, List.length_append, List.length_cons, List.length_nil] at ih ⊢; omega
theorem oc_app (l m : List OutR) : oc (l ++ m) = oc l ++ oc m := by simp [oc]

/-- A slice of them in memory of one's own. -/
def OSl (lo : Nat) (σ' : St) (v : AVal) (l : List OutR) : Prop := v = .nilsl ∧ l = [] ∨ ∃ o, v = .sl o 0 l.length l.length false ∧ 0 < l.length ∧ lo ≤ o ∧ o < σ'.next ∧ σ'.mem.get o = some (.cells 4 (oc l))
theorem OSl.frame {lo : Nat} {σ1 σ2 : St} {v : AVal} {l : List OutR} (h : OSl lo σ1 v l) (hn : σ1.next ≤ σ2.next) (hm : ∀ a, lo ≤ a → a < σ1.next → σ2.mem.get a = σ1.mem.get a) : OSl lo σ2 v l := by
  rcases h with h | ⟨o, h1, h2, h3, h4, h5⟩
  · exact .inl h
  · exact .inr ⟨o, h1, h2, h3, by omega, (hm o h3 h4).trans h5⟩
theorem OSl.frame' {lo lo' : Nat} {σ1 σ2 : St} {v : AVal} {l : List OutR} (h : OSl lo σ1 v l) (hn : σ1.next ≤ σ2.next) (hl : lo' ≤ lo) (hm : ∀ a, lo ≤ a → a < σ1.next → σ2.mem.get a = σ1.mem.get a) : OSl lo' σ2 v l := by
  rcases h with h | ⟨o, h1, h2, h3, h4, h5⟩
  · exact .inl h
  · exact .inr ⟨o, h1, h2, by omega, by omega, (hm o h3 h4).trans h5⟩
theorem OSl.lo {lo : Nat} {σ1 : St} {v : AVal} {l : List OutR} (h : OSl lo σ1 v l) {o : Nat} (hv : v = .sl o 0 l.length l.length false) : lo ≤ o := by
  rcases h with ⟨rfl, _⟩ | ⟨o', rfl, _, h3, _⟩
  · cases hv
  · cases hv; exact h3
theorem OSl.one {lo : Nat} {σ1 : St} {v : AVal} {l : List OutR} (h : OSl lo σ1 v l) : v.one = true ∧ cellsOf v = [v] := by
  rcases h with ⟨rfl, _⟩ | ⟨o, rfl, _⟩ <;> simp
theorem osl_app {lo : Nat} {ρ0 ρ : St} {ov : AVal} {l : List OutR} (ho : OSl lo ρ0 ov l) (hn : ρ0.next ≤ ρ.next) (hm : ∀ a, lo ≤ a → a < ρ0.next → ρ.mem.get a = ρ0.mem.get a) (hl : l.length ≤ 100000) {b : Nat} {x : OutR} (hb : ρ.mem.get b = some (.cells 4 (orow x))) (hlo : lo ≤ ρ.next) :
    ∃ w ρ', evalV ρ (.append 4 40 ov (.sl b 0 1 1 true)) = some (w, ρ') ∧ OSl lo ρ' w (l ++ [x]) ∧ ρ'.next = ρ.next + 1 ∧ ∀ a, a < ρ.next → (∀ o, ov = .sl o 0 l.length l.length false → a ≠ o) → ρ'.mem.get a = ρ.mem.get a := by
  rcases ho with ⟨rfl, rfl⟩ | ⟨o, rfl, h2, h3, h4, h5⟩
  · exact ⟨.sl ρ.next 0 1 1 false, ⟨ρ.mem.set ρ.next (.cells 4 (orow x)), ρ.next + 1⟩, by simp [srcL, hb], .inr ⟨ρ.next, rfl, by simp, hlo, Nat.lt_succ_self _, by simp [oc]⟩, rfl, fun a ha _ => by simp [show ¬ a = ρ.next by omega]⟩
  · have h5' := (hm o h3 h4).trans h5
    have k1 : ¬ l.length + 1 ≤ l.length := by omega
    have k2 : l.length * 4 ≤ (oc l).length := by rw [oc_len]; omega
    have k3 : (l.length + 1) * 40 ≤ 140737488355328 ∧ l.length ≤ 9223372036854775806 := by omega
    have k4 : (oc l).take (l.length * 4) = oc l := List.take_of_length_le (by rw [oc_len]; omega)
    exact ⟨.sl ρ.next 0 (l.length + 1) (l.length + 1) false, ⟨(ρ.mem.del o).set ρ.next (.cells 4 (oc l ++ orow x)), ρ.next + 1⟩, by simp [srcL, hb, h5', k1, k2, k3, k4], .inr ⟨ρ.next, by simp, by simp, hlo, Nat.lt_succ_self _, by simp [oc_app, oc]⟩, rfl, fun a ha hne => by simp [show ¬ a = ρ.next by omega, hne o rfl]⟩

/-- A map's values are Outs. -/
def VOut (e : MEnt) (x : OutR) : Prop := e.2.2 = .agg (orow x)

theorem orow_inj {x y : OutR} (h : orow x = orow y) : x = y := by
  cases x; cases y
  simp only [orow, List.cons.injEq, AVal.int.injEq, AVal.str.injEq, true_and, and_true] at h
  obtain ⟨h1, h2, h3, h4⟩ := h
  simp only [OutR.mk.injEq]
  exact ⟨by omega, by omega, by omega, h4⟩
theorem vout_uniq : ∀ {V : List MEnt} {ys zs : List OutR}, All2 VOut V ys → All2 VOut V zs → ys = zs
  | [], [], [], _, _ => rfl
  | [], _ :: _, _, h, _ => h.elim
  | [], _, _ :: _, _, h => h.elim
  | _ :: _, [], _, h, _ => h.elim
  | _ :: _, _, [], _, h => h.elim
  | v :: V, y :: ys, z :: zs, h, k => by
    have e : AVal.agg (orow y) = .agg (orow z) := h.1.symm.trans k.1
    rw [orow_inj (AVal.agg.inj e), vout_uniq h.2 k.2]
theorem perm_out {V ents : List MEnt} (hp : V.Perm ents) : ∀ {xs : List OutR}, All2 VOut ents xs → ∃ ys, All2 VOut V ys ∧ ys.Perm xs := by
  induction hp with
  | nil => intro xs h; cases xs with
    | nil => exact ⟨[], trivial, .nil⟩
    | cons => exact h.elim
  | cons x p ih => intro xs h; cases xs with
    | nil => exact h.elim
    | cons y ys => obtain ⟨zs, h1, h2⟩ := ih h.2; exact ⟨y :: zs, ⟨h.1, h1⟩, h2.cons y⟩
  | swap x y l => intro xs h; match xs, h with
    | a :: b :: t, h => exact ⟨b :: a :: t, ⟨h.2.1, h.1, h.2.2⟩, .swap _ _ _⟩
  | trans p q ih1 ih2 => intro xs h; obtain ⟨ys, h1, h2⟩ := ih2 h; obtain ⟨zs, h3, h4⟩ := ih1 h1; exact ⟨zs, h3, h4.trans h2⟩

/-- slices.AppendSeq over maps.Values. -/
def ApJ (n0 it b1 mp clock : Nat) (ents : List MEnt) (lp : Loop) (σ0 : St) (mm : Nat) (rg : Regs) (σ' : St) : Prop := ∃ (V : List MEnt) (ys : List OutR) (ov : AVal), mm = leftE (V.map (·.1)) ents ∧ V.length + leftE (V.map (·.1)) ents ≤ ents.length ∧ (V.map (·.1)).Nodup ∧ (∀ e ∈ V, e ∈ ents) ∧ All2 VOut V ys ∧
  σ'.mem.get it = some (.iter (some mp) clock (V.map (·.1)) clock) ∧ σ'.mem.get (n0 + 1) = some (.loop lp) ∧ σ'.mem.get n0 = some (.cells 1 [ov]) ∧ OSl (it + 1) σ' ov ys ∧ it < σ'.next ∧ (∀ a, a < n0 → σ'.mem.get a = σ0.mem.get a) ∧ rg = [(0, .yld (n0 + 1)), (6, .ptr it 0)]

theorem appseq_c {σ : St} {b1 mp clock : Nat} {ents : List MEnt} {xs : List OutR} (hb : σ.mem.get b1 = some (.cells 1 [.map mp])) (hm : σ.mem.get mp = some (.map clock ents)) (hb1 : b1 < σ.next) (hmp : mp < σ.next) (hs : ∀ e ∈ ents, e.1 < clock) (hn : (ents.map (·.1)).Nodup) (hx : All2 VOut ents xs) (hl : ents.length ≤ 10000)
    (Q : AVal → St → Prop) (hQ : ∀ v ys σ', ys.Perm xs → OSl σ.next σ' v ys → Grow σ σ' → Q v σ') : ACall Try.prog 61 [.nilsl, .fn 52 [] [.ptr b1 0]] σ Q := by
  refine ACall.of_compF hmx (fun a w => Try.call61 a w) Try.func61 cf61 (n := 2) (by decide) rfl ?_
  simp [ac61, rs61, lk_cons]
  intro lp hlp1 hlp2
  refine ACall.of_compF hmx (fun a w => Try.call52 a w) Try.func52 cf52 (n := 2) (by decide) rfl ?_
  have z1 : ¬ b1 = σ.next := by omega
  have z2 : ¬ b1 = σ.next + 1 := by omega
  have z3 : ¬ mp = σ.next := by omega
  have z4 : ¬ mp = σ.next + 1 := by omega
  simp [ac52, rs52, lk_cons, hb, hm, z1, z2, z3, z4]
  refine wp_loop (ApJ σ.next (σ.next + 1 + 1) b1 mp clock ents lp σ) (leftE [] ents) ?_ ?_
  · refine ⟨[], [], .nilsl, rfl, by simp [leftE, List.countP_le_length], List.nodup_nil, fun e he => (by cases he), trivial, by simp, by simp [show ¬ σ.next + 1 = σ.next + 1 + 1 by omega], by simp [show ¬ σ.next = σ.next + 1 by omega, show ¬ σ.next = σ.next + 1 + 1 by omega], .inl ⟨rfl, rfl⟩, by simp, fun a ha => by simp [show ¬ a = σ.next by omega, show ¬ a = σ.next + 1 by omega, show ¬ a = σ.next + 1 + 1 by omega], rfl⟩
  · rintro mm rg σ' ⟨V, ys, ov, rfl, hvl, hv1, hv2, hv3, g1, g2, g3, g4, g5, g6, rfl⟩
    have q1 : mp < σ.next := hmp
    obtain ⟨L, n1, n2⟩ := next_all g1 ((g6 mp hmp).trans hm) hs
    simp [lk_cons, ↓n1]
    intro p1 p2 hp
    rcases n2 _ hp with ⟨he, hall⟩ | ⟨e, he, hne, hpe⟩
    · cases he
      have hperm := walked hn hv1 hv2 hall
      obtain ⟨zs, hz1, hz2⟩ := perm_out hperm hx
      have hyz : ys = zs := vout_uniq hv3 hz1
      subst hyz
      simp [lk_cons, g2, g3, hlp1, hlp2, afterQ]
      refine hQ ov ys _ hz2 (g4.frame' (Nat.le_refl _) (by omega) fun a ha _ => by simp [show ¬ a = σ.next + 1 by omega]) ⟨by simp; omega, fun a ha => by simp [show ¬ a = σ.next + 1 by omega]; exact g6 a ha⟩
    · cases hpe
      have el := entry_last (σ := ⟨σ'.mem.set (σ.next + 1 + 1) (.iter (some mp) clock (V.map (·.1) ++ [e.1]) clock), σ'.next⟩) (it := σ.next + 1 + 1) (mp := mp) (clock := clock) (S := V.map (·.1)) (by simp) (by simp [show ¬ mp = σ.next + 1 + 1 by omega, g6 mp hmp, hm]) hn he
      obtain ⟨j, hj⟩ := List.getElem?_of_mem he
      obtain ⟨x, hx1, hx2⟩ := hx.get hj
      simp only [VOut] at hx2
      have hyl : ys.length ≤ 100000 := by have := hv3.len; omega
      rw [hx2] at el
      simp [lk_cons, ↓el, storeL]
      refine ⟨fun v σ3 => v = .bool true ∧ ∃ ov', σ3.mem.get σ.next = some (.cells 1 [ov']) ∧ OSl (σ.next + 1 + 1 + 1) σ3 ov' (ys ++ [x]) ∧ σ3.mem.get (σ.next + 1) = some (.loop lp) ∧ σ3.mem.get (σ.next + 1 + 1) = some (.iter (some mp) clock (V.map (·.1) ++ [e.1]) clock) ∧ σ'.next ≤ σ3.next ∧ ∀ a, a < σ.next → σ3.mem.get a = σ.mem.get a, ?_, ?_⟩
      · have w1 : ¬ σ.next = σ'.next := by omega
        have w2 : ¬ σ.next + 1 = σ'.next := by omega
        have w3 : ¬ σ.next = σ'.next + 1 := by omega
        have w4 : ¬ σ.next = σ.next + 1 + 1 := by omega
        have w5 : ¬ σ.next = σ'.next + 1 + 1 := by omega
        have v1 : ¬ σ'.next = σ.next := by omega
        have v2 : ¬ σ'.next = σ.next + 1 := by omega
        have v3 : ¬ σ'.next + 1 = σ.next := by omega
        have v4 : ¬ σ.next + 1 = σ'.next + 1 + 1 := by omega
        have v5 : ¬ σ.next + 1 + 1 = σ'.next := by omega
        have v6 : ¬ σ.next + 1 + 1 = σ'.next + 1 := by omega
        have v7 : ¬ σ.next + 1 = σ'.next + 1 := by omega
        obtain ⟨w, ρ', e1, e2, e3, e4⟩ := osl_app (x := x) (b := σ'.next + 1 + 1) (ρ := ⟨((((((σ'.mem.set (σ.next + 1 + 1) (.iter (some mp) clock (V.map (·.1) ++ [e.1]) clock)).set σ'.next (.cells 4 [.int .u64 0, .int .u64 0, .int .u64 0, .str ⟨#[]⟩])).set σ'.next (.cells 4 (orow x))).set (σ'.next + 1) (.cells 4 [.int .u64 0, .int .u64 0, .int .u64 0, .str ⟨#[]⟩])).set (σ'.next + 1) (.cells 4 (orow x))).set (σ.next + 1) (.loop { lp with state := .busy })).set (σ'.next + 1 + 1) (.cells 4 (orow x)), σ'.next + 1 + 1 + 1⟩) g4 (by simp; omega) (fun a ha hb => by simp [show ¬ a = σ.next + 1 by omega, show ¬ a = σ.next + 1 + 1 by omega, show ¬ a = σ'.next by omega, show ¬ a = σ'.next + 1 by omega, show ¬ a = σ'.next + 1 + 1 by omega]) hyl (by simp) (by simp; omega)
        simp [roundY, bindP, lk_cons, storeL, w1, w2, w3, w4, w5, v1, v2, v3, v4, v5, v6, v7, g2, g3, fillL, repL, ↓e1]
        have m0 : ρ'.mem.get σ.next = some (.cells 1 [ov]) := by
          rw [e4 _ (by simp; omega) fun o ho => by have := g4.lo ho; omega]
          simp [w1, w2, w3, w4, w5, v1, v2, v3, v4, v5, v6, v7, g3]
          all_goals omega
        have m1 : ρ'.mem.get (σ.next + 1) = some (.loop { lp with state := .busy }) := by
          rw [e4 _ (by simp; omega) fun o ho => by have := g4.lo ho; omega]
          simp [v4]
          all_goals omega
        have m2 : ρ'.mem.get (σ.next + 1 + 1) = some (.iter (some mp) clock (V.map (·.1) ++ [e.1]) clock) := by
          rw [e4 _ (by simp; omega) fun o ho => by have := g4.lo ho; omega]
          simp [v5, v6, w2, show ¬ σ.next = σ'.next by omega]
        simp [m0, e2.one, storeL, roundQ, m1, m2, lk_cons]
        refine ⟨e2.frame (by simp) fun a ha hb => by simp [show ¬ a = σ.next + 1 by omega, show ¬ a = σ.next by omega], by omega, by rw [e3]; simp; omega, fun a ha => ?_⟩
        simp [show ¬ a = σ.next + 1 by omega, show ¬ a = σ.next by omega]
        rw [e4 _ (by simp; omega) fun o ho => by have := g4.lo ho; omega]
        simp [show ¬ a = σ.next + 1 by omega, show ¬ a = σ.next + 1 + 1 by omega, show ¬ a = σ'.next by omega, show ¬ a = σ'.next + 1 by omega, show ¬ a = σ'.next + 1 + 1 by omega]
        exact g6 a ha
      · rintro v σ3 ⟨rfl, ov', k1, k2, k3, k4, k5, k6⟩
        simp [lk_cons]
        refine ⟨leftE ((V ++ [e]).map (·.1)) ents, by rw [List.map_append]; exact leftE_lt he hne, V ++ [e], ys ++ [x], ov', rfl, by rw [List.map_append, List.length_append]; have := leftE_lt he hne; simp only [List.map_cons, List.map_nil, List.length_cons, List.length_nil]; omega, ?_, ?_, All2.snoc (R := VOut) hx2 hv3, by simpa using k4, k3, k1, k2, by omega, k6, rfl⟩
        · rw [List.map_append, List.nodup_append]
          exact ⟨hv1, by simp, fun a ha b hb e => by simp at hb; subst hb; subst e; exact hne ha⟩
        · intro y hy
          rcases List.mem_append.1 hy with hy | hy
          · exact hv2 y hy
          · rw [List.mem_singleton.1 hy]; exact he
end Go.Proofs.Ytiikaajopgjliaa.AM

/- slices.SortFunc of Outs: the library's sort as it stands in this program (the plain text that the kit's tool writes). -/
namespace Go.Proofs
open Go.Shelf
def Try.sortOut_ren : Go.Shelf.Ren := ⟨fun | 6 => 51 | 15 => 63 | 14 => 62 | 28 => 77 | 29 => 78 | 20 => 69 | 21 => 70 | 22 => 71 | 23 => 72 | 24 => 73 | 25 => 74 | 26 => 75 | 27 => 76 | 46 => 81 | 47 => 82 | 48 => 83 | 49 => 84 | 50 => 85 | 57 => 95 | n => n, fun | 22 => 41 | 24 => 57 | 25 => 89 | 3 => 3 | 39 => 83 | 0 => 0 | 53 => 109 | 55 => 30 | 4 => 4 | 46 => 121 | 45 => 120 | 50 => 125 | 5 => 5 | 9 => 9 | 66 => 130 | 70 => 134 | 76 => 142 | 77 => 143 | n => n, fun | n => n⟩
theorem Try.sortOut : Go.Proofs.SlLaysF0.n6 Try.prog Try.sortOut_ren := {
  mixed := by kernel_rfl
  f6 := ⟨Try.f51.name, by decide, Try.func51.trans (congrArg some (by kernel_rfl))⟩
  f14 := ⟨Try.f62.name, by decide, Try.func62.trans (congrArg some (by kernel_rfl))⟩
  f15 := Try.func63.trans (congrArg some (by kernel_rfl))
  f20 := ⟨Try.f69.name, by decide, Try.func69.trans (congrArg some (by kernel_rfl))⟩
  f21 := ⟨Try.f70.name, by decide, Try.func70.trans (congrArg some (by kernel_rfl))⟩
  f22 := ⟨Try.f71.name, by decide, Try.func71.trans (congrArg some (by kernel_rfl))⟩
  f23 := ⟨Try.f72.name, by decide, Try.func72.trans (congrArg some (by kernel_rfl))⟩
  f24 := ⟨Try.f73.name, by decide, Try.func73.trans (congrArg some (by kernel_rfl))⟩
  f25 := ⟨Try.f74.name, by decide, Try.func74.trans (congrArg some (by kernel_rfl))⟩
  f26 := ⟨Try.f75.name, by decide, Try.func75.trans (congrArg some (by kernel_rfl))⟩
  f27 := ⟨Try.f76.name, by decide, Try.func76.trans (congrArg some (by kernel_rfl))⟩
  f28 := Try.func77.trans (congrArg some (by kernel_rfl))
  f29 := Try.func78.trans (congrArg some (by kernel_rfl))
  f46 := ⟨Try.f81.name, by decide, Try.func81.trans (congrArg some (by kernel_rfl))⟩
  f47 := Try.func82.trans (congrArg some (by kernel_rfl))
  f48 := Try.func83.trans (congrArg some (by kernel_rfl))
  f49 := ⟨Try.f84.name, by decide, Try.func84.trans (congrArg some (by kernel_rfl))⟩
  f50 := ⟨Try.f85.name, by decide, Try.func85.trans (congrArg some (by kernel_rfl))⟩
  f57 := ⟨Try.f95.name, by decide, Try.func95.trans (congrArg some (by kernel_rfl))⟩
  t0 := Try.underlying0
  a0 := Try.isAgg0
  z0 := Try.sizeOf0
  v0 := Try.zeroValue0
  t3 := Try.underlying3
  a3 := Try.isAgg3
  z3 := Try.sizeOf3
  v3 := Try.zeroValue3
  t4 := Try.underlying4
  a4 := Try.isAgg4
  z4 := Try.sizeOf4
  v4 := Try.zeroValue4
  t5 := Try.underlying5
  a5 := Try.isAgg5
  z5 := Try.sizeOf5
  v5 := Try.zeroValue5
  t9 := Try.underlying9
  a9 := Try.isAgg9
  z9 := Try.sizeOf9
  v9 := Try.zeroValue9
  t22 := Try.underlying41
  a22 := Try.isAgg41
  z22 := Try.sizeOf41
  v22 := Try.zeroValue41
  t25 := Try.underlying89
  a25 := Try.isAgg89
  z25 := Try.sizeOf89
  v25 := Try.zeroValue89
  t39 := Try.underlying83
  a39 := Try.isAgg83
  z39 := Try.sizeOf83
  v39 := Try.zeroValue83
  t45 := Try.underlying120
  a45 := Try.isAgg120
  z45 := Try.sizeOf120
  v45 := Try.zeroValue120
  t46 := Try.underlying121
  a46 := Try.isAgg121
  z46 := Try.sizeOf121
  v46 := Try.zeroValue121
  t50 := Try.underlying125
  a50 := Try.isAgg125
  z50 := Try.sizeOf125
  v50 := Try.zeroValue125
  t53 := Try.underlying109
  a53 := Try.isAgg109
  z53 := Try.sizeOf109
  v53 := Try.zeroValue109
  t55 := Try.underlying30
  a55 := Try.isAgg30
  z55 := Try.sizeOf30
  v55 := Try.zeroValue30
  t66 := Try.underlying130
  a66 := Try.isAgg130
  z66 := Try.sizeOf130
  v66 := Try.zeroValue130
  t70 := Try.underlying134
  a70 := Try.isAgg134
  z70 := Try.sizeOf134
  v70 := Try.zeroValue134
  t76 := Try.underlying142
  a76 := Try.isAgg142
  z76 := Try.sizeOf142
  v76 := Try.zeroValue142
  t77 := Try.underlying143
  a77 := Try.isAgg143
  z77 := Try.sizeOf143
  v77 := Try.zeroValue143 }
end Go.Proofs

/- Outs, by their places. -/
namespace Go.Proofs.Ytiikaajopgjliaa.AM
open Go.RowKit
open Go.Sort hiding Below ahead
set_option maxRecDepth 100000
set_option linter.unusedVariables false
set_option linter.unusedSimpArgs false

abbrev ps (a b : Int) : AVal := .agg [u64 a, u64 b]
def cmpM (a b : Int) : Int := if a < b then -1 else if a > b then 1 else 0
def ordM (al ae bl be : Int) : Int := if cmpM al bl = 0 then cmpM ae be else cmpM al bl
theorem nan_c (a : Int) (σ : St) (Q : AVal → St → Prop) (h : Q (.bool false) σ) : ACall Try.prog 53 [u64 a] σ Q := by
  refine ACall.of_compF hmx (fun a w => Try.call53 a w) Try.func53 cf53 (n := 1) (by decide) rfl ?_
  simp [ac53, rs53, lk_cons]
  exact h
theorem cmpu_c (a b : Int) (σ : St) (Q : AVal → St → Prop) (h : Q (i64 (cmpM a b)) σ) : ACall Try.prog 40 [u64 a, u64 b] σ Q := by
  refine ACall.of_compF hmx (fun a w => Try.call40 a w) Try.func40 cf40 (n := 2) (by decide) rfl ?_
  simp [ac40, rs40, lk_cons]
  refine nan_c _ _ _ ?_
  simp [lk_cons]
  refine nan_c _ _ _ ?_
  simp [lk_cons]
  unfold cmpM at h
  by_cases h1 : a < b
  · rw [if_pos h1] at h
    simp [lk_cons, h1]
    exact h
  · rw [if_neg h1] at h
    by_cases h2 : a > b
    · rw [if_pos h2] at h
      simp [lk_cons, h1, h2]
      exact h
    · rw [if_neg h2] at h
      simp [lk_cons, h1, h2]
      exact h
def OrJ (n : Nat) (t : Bool) (a b : Int) (σ0 : St) (mm : Nat) (rg : Regs) (σ' : St) : Prop := ∃ i : Nat, mm = 2 - i ∧ i ≤ 2 ∧ (1 ≤ i → a = 0) ∧ (2 ≤ i → b = 0) ∧ σ' = σ0 ∧ rg = [(3, i64 0), (6, .sl n 0 2 2 t), (7, i64 2), (8, i64 i)]
theorem or_c (a b : Int) (n : Nat) (t : Bool) (σ : St) (hm : σ.mem.get n = some (.cells 1 [i64 a, i64 b])) (Q : AVal → St → Prop) (h : Q (i64 (if a = 0 then b else a)) σ) : ACall Try.prog 39 [.sl n 0 2 2 t] σ Q := by
  refine ACall.of_compF hmx (fun a w => Try.call39 a w) Try.func39 cf39 (n := 1) (by decide) rfl ?_
  simp [ac39, rs39, lk_cons]
  refine wp_loop (OrJ n t a b σ) 2 ?_ ?_
  · exact ⟨0, rfl, by omega, by omega, by omega, rfl, rfl⟩
  · rintro mm rg σ' ⟨i, rfl, hi, h1, h2, rfl, rfl⟩
    have w0 : IntKind.i64.wrap (0 + 1) = 1 := by rw [IntWalk.i64_in] <;> omega
    have w1 : IntKind.i64.wrap (1 + 1) = 2 := by rw [IntWalk.i64_in] <;> omega
    rcases (by omega : i = 0 ∨ i = 1 ∨ i = 2) with rfl | rfl | rfl
    · by_cases ha : a = 0
      · simp [lk_cons, hm, ha, w0]
        exact ⟨1, by omega, 1, by omega, by omega, fun _ => rfl, by omega, rfl, rfl⟩
      · rw [if_neg ha] at h
        simp [lk_cons, hm, ha]
        exact h
    · have ha := h1 (by omega)
      rw [if_pos ha] at h
      by_cases hb : b = 0
      · simp [lk_cons, hm, hb, w1]
        exact ⟨2, by omega, by omega, fun _ => ha, fun _ => rfl, rfl, rfl⟩
      · simp [lk_cons, hm, hb]
        exact h
    · have ha := h1 (by omega)
      have hb := h2 (by omega)
      rw [if_pos ha, hb] at h
      simp [lk_cons]
      exact h
theorem order_c (a b c d : Int) (σ : St) (Q : AVal → St → Prop) (h : Q (i64 (ordM a b c d)) σ) : ACall Try.prog 25 [ps a b, ps c d] σ Q := by
  refine ACall.scrub ?_
  refine ACall.of_compF hmx (fun a w => Try.call25 a w) Try.func25 cf25 (n := 2) (by decide) rfl ?_
  simp [ac25, rs25, lk_cons]
  refine cmpu_c _ _ _ _ ?_
  simp [lk_cons]
  refine cmpu_c _ _ _ _ ?_
  simp [lk_cons, fillL, storeL, repL]
  refine or_c (cmpM a c) (cmpM b d) _ _ _ (by simp) _ ?_
  simp [lk_cons]
  exact ⟨fun x hx => by simp [show ¬ x = σ.next by omega, show ¬ x = σ.next + 1 by omega, show ¬ x = σ.next + 1 + 1 by omega], h⟩

/-- Outs by their places. -/
def ordO (x y : OutR) : Int := ordM (x.l : Int) (x.e : Int) (y.l : Int) (y.e : Int)
theorem ordO_lt {x y : OutR} : ordO x y < 0 ↔ x.l < y.l ∨ x.l = y.l ∧ x.e < y.e := by
  unfold ordO ordM cmpM
  by_cases h1 : (x.l : Int) < y.l
  · simp [h1]; omega
  · by_cases h2 : (x.l : Int) > y.l
    · simp [h1, h2]; omega
    · have : x.l = y.l := by omega
      by_cases h3 : (x.e : Int) < y.e
      · simp [this, h3]; omega
      · by_cases h4 : (x.e : Int) > y.e
        · simp [this, h3, h4]; omega
        · simp [this, h3, h4]; omega
theorem swoO : SWO (ltOf ordO) where
  irrefl x := by simp [ltOf, ordO_lt]
  trans x y z h1 h2 := by simp only [ltOf, decide_eq_true_eq, ordO_lt] at *; omega
  ntrans x y z h1 h2 := by simp only [ltOf, decide_eq_false_iff_not, ordO_lt] at *; omega
theorem outcmp_c (x y : OutR) (σ : St) (Q : AVal → St → Prop) (h : Q (i64 (ordO x y)) σ) : ACall Try.prog 38 [.agg (orow x), .agg (orow y)] σ Q := by
  refine ACall.scrub ?_
  refine ACall.of_compF hmx (fun a w => Try.call38 a w) Try.func38 cf38 (n := 2) (by decide) rfl ?_
  simp [ac38, rs38, lk_cons]
  refine order_c _ _ _ _ _ _ ?_
  simp [lk_cons]
  exact ⟨fun a ha => by simp [show ¬ a = σ.next by omega, show ¬ a = σ.next + 1 by omega], h⟩

def outRow : RowOf OutR 4 where
  a := orow
  c x := [.int .u64 (x.l : Int), .int .u64 (x.e : Int), .int .u64 (x.c : Int), .string x.k]
  la _ := rfl
  lc _ := rfl
  rel x i v u h1 h2 ρ I u' := by
    match i with
    | 0 => simp at h1 h2; subst h1; subst h2; simp [VRel]
    | 1 => simp at h1 h2; subst h1; subst h2; simp [VRel]
    | 2 => simp at h1 h2; subst h1; subst h2; simp [VRel]
    | 3 => simp at h1 h2; subst h1; subst h2; simp [VRel]
    | i + 4 => simp at h1
  one x := rfl
  onec x v h := by simp at h; rcases h with rfl | rfl | rfl | rfl <;> rfl
theorem rows_oc (l : List OutR) : rowsA outRow l = oc l := rfl

theorem sortf_c {σ : St} {a : Nat} {l : List OutR} (hne : l ≠ []) (hl : l.length ≤ 100000) (hm : σ.mem.get a = some (.cells 4 (oc l))) (Q : AVal → St → Prop)
    (hQ : ∀ l', l'.Perm l → (∀ (i j : Nat) (x y : OutR), i < j → l'[i]? = some x → l'[j]? = some y → ¬ ordO y x < 0) → Q (.tup []) ⟨σ.mem.set a (.cells 4 (oc l')), σ.next⟩) : ACall Try.prog 51 [.sl a 0 l.length l.length false, .fn 38 [] []] σ Q := by
  have h := sortf_calls Try.sortOut outRow (by decide) (fun w => by kernel_rfl) (fun w => by kernel_rfl) swoO (fun a w => Try.call38 a w) (fun x y => outcmp_c x y _ _ rfl) (fun a w => Try.call51 a w) (σ := σ) (a := a) (cap := l.length) (t := false) (post := []) hne (by omega) (by simpa [rows_oc] using hm) Q (fun l' h1 h2 => by simpa [rows_oc] using hQ l' h1 h2)
  exact h
theorem sortf_nil (σ : St) (fv : AVal) (Q : AVal → St → Prop) (hQ : Q (.tup []) σ) : ACall Try.prog 51 [.nilsl, fv] σ Q := by
  refine ACall.ofCalls (fun a w => Try.call51 a w) fun B w0 ρ I w cargs rl hsz hargs => ?_
  obtain ⟨u0, h0, v0⟩ := hargs.get 0 _ rfl
  obtain ⟨u1, h1, v1⟩ := hargs.get 1 _ rfl
  simp only [VRel] at v0
  subst v0
  have hca : cargs = #[.slice none 0 0, u1] := by
    apply Array.ext_getElem?
    intro i
    have hs : cargs.size = 2 := hsz
    match i with
    | 0 => exact h0
    | 1 => exact h1
    | i + 2 => rw [Array.getElem?_eq_none (by omega), Array.getElem?_eq_none (by simp)]
  subst hca
  refine (AnyF.slices_SortFunc_none { Try.sortOut with } none 0 u1 w).mono ?_
  rintro e w' ⟨rfl, rfl⟩
  exact ⟨.tup [], σ, ρ, I, .tuple #[], rfl, by simp only [VRel]; exact ⟨_, rfl, rfl, trivial⟩, rl, Ext.refl _ _ _, hQ⟩
end Go.Proofs.Ytiikaajopgjliaa.AM

/- A desk in memory. -/
namespace Go.Proofs.Ytiikaajopgjliaa.AM
set_option maxRecDepth 100000
set_option linter.unusedVariables false
set_option linter.unusedSimpArgs false

def EO (e : MEnt) (x : OutR) : Prop := e.2.1 = ps (x.l : Int) (x.e : Int) ∧ e.2.2 = .agg (orow x)
theorem EO.vout {ents : List MEnt} {O : List OutR} (h : All2 EO ents O) : All2 VOut ents O := h.imp fun _ _ h => h.2
theorem keq_ps (a b c d : Int) : keyEqA (ps a b) (ps c d) = some (decide (a = c ∧ b = d)) := by
  simp only [keyEqA, List.length_cons, List.length_nil, if_true, keysEq, keyEq]
  cases h1 : (a == c) <;> cases h2 : (b == d) <;> simp_all
theorem findO (l e : Nat) : ∀ {ents : List MEnt} {O : List OutR}, All2 EO ents O → (findA (ps (l : Int) (e : Int)) ents = some none ∧ ∀ x ∈ O, ¬ (x.l = l ∧ x.e = e)) ∨
    ∃ i x, findA (ps (l : Int) (e : Int)) ents = some (some (i, .agg (orow x))) ∧ O[i]? = some x ∧ x.l = l ∧ x.e = e ∧ All2 EO (ents.eraseIdx i) (O.eraseIdx i)
  | [], [], _ => .inl ⟨rfl, fun x hx => by cases hx⟩
  | (st, y, d) :: ents, x :: O, h => by
    obtain ⟨⟨hy, hd⟩, ht⟩ := h
    simp only at hy hd
    subst hy hd
    by_cases hk : x.l = l ∧ x.e = e
    · refine .inr ⟨0, x, ?_, rfl, hk.1, hk.2, by simpa using ht⟩
      simp only [findA, keq_ps]
      rw [decide_eq_true (by omega)]
    · have hf : keyEqA (ps (l : Int) (e : Int)) (ps (x.l : Int) (x.e : Int)) = some false := by rw [keq_ps, decide_eq_false (by omega)]
      rcases findO l e ht with ⟨h1, h2⟩ | ⟨i, x1, h1, h2, h3, h4, h5⟩
      · refine .inl ⟨by simp only [findA]; rw [hf]; simp only; rw [h1]; rfl, fun z hz => ?_⟩
        rcases List.mem_cons.1 hz with rfl | hz
        · exact hk
        · exact h2 z hz
      · exact .inr ⟨i + 1, x1, by simp only [findA]; rw [hf]; simp only; rw [h1]; rfl, by simpa using h2, h3, h4, ⟨⟨rfl, rfl⟩, h5⟩⟩
  | [], _ :: _, h => h.elim
  | _ :: _, [], h => h.elim
def OM (σ : St) (om : Nat) (O : List OutR) : Prop := ∃ clock ents, σ.mem.get om = some (.map clock ents) ∧ All2 EO ents O ∧ (∀ e ∈ ents, e.1 < clock) ∧ (ents.map (·.1)).Nodup
theorem OM.frame {σ σ' : St} {om : Nat} {O : List OutR} (h : OM σ om O) (hm : σ'.mem.get om = σ.mem.get om) : OM σ' om O := by
  obtain ⟨c, e, h1, h2⟩ := h
  exact ⟨c, e, hm.trans h1, h2⟩

/-- A desk's blocks. -/
structure Own where
  d : Nat
  pm : Nat
  om : Nat
  lb : Option Nat
def Own.has (w : Own) (a : Nat) : Prop := a = w.d ∨ a = w.pm ∨ a = w.om ∨ w.lb = some a
def LW (σ : St) (w : Own) (lv : AVal) (L : List Nat) : Prop := lv = .nilsl ∧ L = [] ∧ w.lb = none ∨ ∃ lb c vals, w.lb = some lb ∧ lv = .sl lb 0 L.length c false ∧ L.length ≤ c ∧ 0 < c ∧ vals.length = c ∧ c ≤ 100000 ∧ vals.take L.length = uc L ∧ (∀ v ∈ vals, v.one = true) ∧ lb < σ.next ∧ lb ≠ w.d ∧ lb ≠ w.pm ∧ lb ≠ w.om ∧ σ.mem.get lb = some (.cells 1 vals)
theorem LW.um {σ : St} {w : Own} {lv : AVal} {L : List Nat} (h : LW σ w lv L) : UM σ lv L := by
  rcases h with ⟨h1, h2, _⟩ | ⟨lb, c, vals, _, h1, h2, h3, h4, _, h5, _, h6, _, _, _, h7⟩
  · exact .inl (.inl ⟨h1, h2⟩)
  · exact .inr ⟨lb, 0, c, false, vals, h1, h2, h6, h7, by omega, by simpa using h5⟩
/-- What a desk says. -/
structure Dk where
  kind : Nat
  L : List Nat
  T : List (Nat × Int)
  O : List OutR
  last : Nat
structure DR (σ : St) (w : Own) (D : Dk) : Prop where
  head : ∃ lv, σ.mem.get w.d = some (.cells 5 [.int .u8 (D.kind : Int), lv, .map w.pm, .map w.om, u64 (D.last : Int)]) ∧ LW σ w lv D.L
  perm : MapN iV σ w.pm D.T
  outs : OM σ w.om D.O
  ne : w.d ≠ w.pm ∧ w.d ≠ w.om ∧ w.pm ≠ w.om
  lt : w.d < σ.next ∧ w.pm < σ.next ∧ w.om < σ.next
/-- From one time to a later one: what isn't the desk's is as it was. -/
structure Stp (w w' : Own) (σ σ' : St) : Prop where
  d : w'.d = w.d
  pm : w'.pm = w.pm
  om : w'.om = w.om
  lb : ∀ x, w'.lb = some x → w.lb = some x ∨ σ.next ≤ x
  next : σ.next ≤ σ'.next
  keep : ∀ a, a < σ.next → ¬ w.has a → σ'.mem.get a = σ.mem.get a
theorem Stp.refl (w : Own) (σ : St) : Stp w w σ σ := ⟨rfl, rfl, rfl, fun _ h => .inl h, Nat.le_refl _, fun _ _ _ => rfl⟩
theorem Stp.has {w w' : Own} {σ σ' : St} (h : Stp w w' σ σ') {a : Nat} (ha : a < σ.next) (hn : ¬ w.has a) : ¬ w'.has a := by
  rintro (e | e | e | e)
  · exact hn (.inl (e.trans h.d))
  · exact hn (.inr (.inl (e.trans h.pm)))
  · exact hn (.inr (.inr (.inl (e.trans h.om))))
  · rcases h.lb a e with e | e
    · exact hn (.inr (.inr (.inr e)))
    · omega
theorem Stp.trans {w w1 w2 : Own} {σ σ1 σ2 : St} (h : Stp w w1 σ σ1) (k : Stp w1 w2 σ1 σ2) : Stp w w2 σ σ2 :=
  ⟨k.d.trans h.d, k.pm.trans h.pm, k.om.trans h.om, fun x hx => by
    rcases k.lb x hx with hx | hx
    · exact h.lb x hx
    · exact .inr (Nat.le_trans h.next hx), Nat.le_trans h.next k.next, fun a ha hn => (k.keep a (Nat.lt_of_lt_of_le ha h.next) (h.has ha hn)).trans (h.keep a ha hn)⟩
theorem Grow.stp {σ σ' : St} (h : Grow σ σ') (w : Own) : Stp w w σ σ' := ⟨rfl, rfl, rfl, fun _ h => .inl h, h.1, fun a ha _ => h.2 a ha⟩
theorem LW.frame {σ σ' : St} {w : Own} {lv : AVal} {L : List Nat} (h : LW σ w lv L) (hn : σ.next ≤ σ'.next) (hm : ∀ a, a < σ.next → w.lb = some a → σ'.mem.get a = σ.mem.get a) : LW σ' w lv L := by
  rcases h with h | ⟨lb, c, vals, h0, h1, h2, h3, h4, h4b, h5, h5b, h6, h7, h8, h9, h10⟩
  · exact .inl h
  · exact .inr ⟨lb, c, vals, h0, h1, h2, h3, h4, h4b, h5, h5b, by omega, h7, h8, h9, (hm lb h6 h0).trans h10⟩
theorem DR.frame {σ σ' : St} {w : Own} {D : Dk} (h : DR σ w D) (hg : Grow σ σ') : DR σ' w D := by
  obtain ⟨⟨lv, h1, h2⟩, h3, h4, h6, h7⟩ := h
  exact ⟨⟨lv, (hg.2 _ h7.1).trans h1, h2.frame hg.1 fun a ha _ => hg.2 a ha⟩, h3.frame (hg.2 _ h7.2.1), h4.frame (hg.2 _ h7.2.2), h6, by have := hg.1; omega⟩
theorem DR.keep {σ σ' : St} {w : Own} {D : Dk} (h : DR σ w D) (hn : σ.next ≤ σ'.next) (hm : ∀ a, a < σ.next → w.has a → σ'.mem.get a = σ.mem.get a) : DR σ' w D := by
  obtain ⟨⟨lv, h1, h2⟩, h3, h4, h6, h7⟩ := h
  exact ⟨⟨lv, (hm _ h7.1 (.inl rfl)).trans h1, h2.frame hn fun a ha e => hm a ha (.inr (.inr (.inr e)))⟩, h3.frame (hm _ h7.2.1 (.inr (.inl rfl))), h4.frame (hm _ h7.2.2 (.inr (.inr (.inl rfl)))), h6, by omega⟩

theorem new18_c (k : Nat) (hk : 1 ≤ k ∧ k ≤ 4) (σ : St) (Q : AVal → St → Prop) (h : ∀ w σ', DR σ' w ⟨k, [], [], [], 0⟩ → Grow σ σ' → (∀ a, w.has a → σ.next ≤ a) → Q (.tup [.ptr w.d 0, i64 0]) σ') : ACall Try.prog 11 [.int .u8 (k : Int)] σ Q := by
  refine ACall.of_compF hmx (fun a w => Try.call11 a w) Try.func11 cf11 (n := 1) (by decide) rfl ?_
  have k1 : ¬ (k : Int) < 1 := by omega
  have k2 : ¬ (4 : Int) < k := by omega
  have e1 : ¬ σ.next = σ.next + 1 := by omega
  have e2 : ¬ σ.next = σ.next + 1 + 1 := by omega
  have e3 : ¬ σ.next + 1 = σ.next + 1 + 1 := by omega
  simp [ac11, rs11, lk_cons, fillL, storeL, k1, k2]
  refine h ⟨σ.next + 1 + 1, σ.next, σ.next + 1, none⟩ _ ⟨⟨.nilsl, by simp, .inl ⟨rfl, rfl, rfl⟩⟩, ⟨0, [], by simp [e1, e2], trivial, by simp, by simp⟩, ⟨0, [], by simp [e3], trivial, by simp, by simp⟩, ⟨by simp; omega, by simp, by simp⟩, ⟨by simp, by simp; omega, by simp⟩⟩ ⟨by simp; omega, fun a ha => by simp [show ¬ a = σ.next by omega, show ¬ a = σ.next + 1 by omega, show ¬ a = σ.next + 1 + 1 by omega]⟩ ?_
  rintro a (h | h | h | h)
  · simp at h; omega
  · simp at h; omega
  · simp at h; omega
  · cases h

/-- Outs that are unchanging. -/
def OI (v : AVal) (l : List OutR) : Prop := v = .nilsl ∧ l = [] ∨ ∃ t, v = .isl (oc l) l.length t
def Ris (l : List OutR) : Prop := ∀ (i j : Nat) (x y : OutR), i < j → l[i]? = some x → l[j]? = some y → ¬ ordO y x < 0
theorem sorted_c {σ : St} {b1 om : Nat} {O : List OutR} (hb : σ.mem.get b1 = some (.cells 1 [.map om])) (hO : OM σ om O) (hb1 : b1 < σ.next) (hom : om < σ.next) (hl : O.length ≤ 10000)
    (Q : AVal → St → Prop) (hQ : ∀ v ys σ', ys.Perm O → Ris ys → OSl σ.next σ' v ys → Grow σ σ' → Q v σ') : ACall Try.prog 36 [.fn 52 [] [.ptr b1 0], .fn 38 [] []] σ Q := by
  refine ACall.of_compF hmx (fun a w => Try.call36 a w) Try.func36 cf36 (n := 2) (by decide) rfl ?_
  obtain ⟨clock, ents, h1, h2, h3, h4⟩ := hO
  simp [ac36, rs36, lk_cons]
  refine ACall.of_compF hmx (fun a w => Try.call50 a w) Try.func50 cf50 (n := 1) (by decide) rfl ?_
  simp [ac50, rs50, lk_cons]
  refine appseq_c hb h1 hb1 hom h3 h4 (EO.vout h2) (by have := h2.len; omega) _ fun v ys σ' p1 p2 p3 => ?_
  simp [lk_cons]
  rcases p2 with ⟨rfl, rfl⟩ | ⟨o, rfl, q1, q2, q3, q4⟩
  · refine sortf_nil _ _ _ ?_
    simp [lk_cons]
    exact hQ _ [] _ p1 (fun i j x y _ h => by simp at h) (.inl ⟨rfl, rfl⟩) p3
  · have hlen := p1.length_eq
    refine sortf_c (by intro e; subst e; simp at q1) (by omega) q4 _ fun l' s1 s2 => ?_
    simp [lk_cons]
    have sl := s1.length_eq
    refine hQ _ l' _ (s1.trans p1) s2 (.inr ⟨o, by rw [sl], by omega, q2, q3, by simp⟩) ⟨p3.1, fun a ha => ?_⟩
    simp [show ¬ a = o by omega]
    exact p3.2 a ha
theorem oc_upto (lo : Nat) : ∀ l : List OutR, uptoL lo (oc l) = true
  | [] => rfl
  | x :: l => by
    have := oc_upto lo l
    simp only [oc, List.map_cons, List.flatten_cons] at this ⊢
    simp only [orow, List.cons_append, List.nil_append, uptoL, AVal.upto, Bool.true_and]
    exact this
theorem OI.upto {v : AVal} {l : List OutR} (h : OI v l) (lo : Nat) : v.upto lo = true := by
  rcases h with ⟨rfl, _⟩ | ⟨t, rfl⟩
  · rfl
  · simp [AVal.upto, oc_upto]
theorem OSl.frz {lo lo' : Nat} {σ' : St} {v : AVal} {l : List OutR} (h : OSl lo σ' v l) (hl : lo' ≤ lo) : ∃ v', frz lo' σ'.mem v = some v' ∧ OI v' l := by
  rcases h with ⟨rfl, rfl⟩ | ⟨o, rfl, h2, h3, h4, h5⟩
  · exact ⟨.nilsl, rfl, .inl ⟨rfl, rfl⟩⟩
  · refine ⟨_, frz_sl (by omega) h5 (by rw [oc_len]; omega) (oc_upto _ _), .inr ⟨(false && decide (l.length = l.length)), ?_⟩⟩
    rw [List.drop_zero, List.take_of_length_le (by rw [oc_len]; exact Nat.le_refl _)]
/-- All. -/
theorem all_c {σ : St} {w : Own} {D : Dk} (h : DR σ w D) (hl : D.O.length ≤ 10000) (Q : AVal → St → Prop) (hQ : ∀ v ys, ys.Perm D.O → Ris ys → OI v ys → Q v σ) : ACall Try.prog 18 [.ptr w.d 0] σ Q := by
  refine ACall.freeze ?_
  refine ACall.of_compF hmx (fun a w => Try.call18 a w) Try.func18 cf18 (n := 1) (by decide) rfl ?_
  obtain ⟨⟨lv, hh, hlv⟩, hpm, hom, hne, hlt⟩ := id h
  simp [ac18, rs18, lk_cons, hh]
  refine ACall.of_compF hmx (fun a w => Try.call37 a w) Try.func37 cf37 (n := 1) (by decide) rfl ?_
  simp [ac37, rs37, lk_cons]
  refine sorted_c (b1 := σ.next) (om := w.om) (by simp) (hom.frame (by simp [show ¬ w.om = σ.next by omega])) (by simp) (by simp; omega) hl _ fun v ys σ' p1 p2 p3 p4 => ?_
  obtain ⟨v', f1, f2⟩ := p3.frz (lo' := σ.next) (by simp)
  simp [lk_cons, f1]
  refine ⟨fun a ha => ?_, hQ v' ys p1 p2 f2⟩
  rw [p4.2 a (by simp; omega)]
  simp [show ¬ a = σ.next by omega]
end Go.Proofs.Ytiikaajopgjliaa.AM

/- A desk: Done, Flow, Join, Consumers. -/
namespace Go.Proofs.Ytiikaajopgjliaa.AM
set_option maxRecDepth 100000
set_option linter.unusedVariables false
set_option linter.unusedSimpArgs false

theorem nodup_erase {α : Type} : ∀ {l : List α} (i : Nat), l.Nodup → (l.eraseIdx i).Nodup := fun i h => h.sublist (List.eraseIdx_sublist _ _)
theorem done18_c {σ : St} {w : Own} {D : Dk} (h : DR σ w D) (c l e : Nat) (Q : AVal → St → Prop)
    (h1 : ∀ σ', (∀ x ∈ D.O, ¬ (x.l = l ∧ x.e = e)) → Grow σ σ' → Q (i64 11) σ') (h2 : ∀ σ' (i : Nat) (x : OutR), D.O[i]? = some x → x.l = l → x.e = e → x.c ≠ c → Grow σ σ' → Q (i64 61) σ')
    (h3 : ∀ σ' (i : Nat) (x : OutR), D.O[i]? = some x → x.l = l → x.e = e → x.c = c → DR σ' w { D with O := D.O.eraseIdx i } → Stp w w σ σ' → Q (i64 0) σ') : ACall Try.prog 27 [.ptr w.d 0, u64 (c : Int), ps (l : Int) (e : Int)] σ Q := by
  refine ACall.of_compF hmx (fun a w => Try.call27 a w) Try.func27 cf27 (n := 3) (by decide) rfl ?_
  obtain ⟨⟨lv, hh, hlv⟩, hpm, ⟨co, eo, ho1, ho2, ho3, ho4⟩, hne, hlt⟩ := id h
  have e1 : ¬ w.d = σ.next := by omega
  have e2 : ¬ w.d = σ.next + 1 := by omega
  have e3 : ¬ w.om = σ.next := by omega
  have e4 : ¬ w.om = σ.next + 1 := by omega
  have e5 : ¬ σ.next = σ.next + 1 := by omega
  have hg : ∀ (A B C : Blk), Grow σ ⟨((σ.mem.set σ.next A).set (σ.next + 1) B).set (σ.next + 1) C, σ.next + 1 + 1⟩ := fun A B C => ⟨by simp; omega, fun a ha => by simp [show ¬ a = σ.next by omega, show ¬ a = σ.next + 1 by omega]⟩
  rcases findO l e ho2 with ⟨f1, f2⟩ | ⟨i, x, f1, f2, f3, f4, f5⟩
  · simp [ac27, rs27, lk_cons, hh, ho1, f1, keyIs, shapeOk, kShape, storeL, e1, e2, e3, e4, e5]
    exact h1 _ f2 (hg _ _ _)
  · by_cases hc : x.c = c
    · have hc' : (x.c : Int) = c := by omega
      simp [ac27, rs27, lk_cons, hh, ho1, f1, keyIs, shapeOk, kShape, storeL, e1, e2, e3, e4, e5, hc']
      have hk := hg (.cells 2 [u64 (l : Int), u64 (e : Int)]) (.cells 4 [u64 0, u64 0, u64 0, .str ⟨#[]⟩]) (.cells 4 [u64 (x.l : Int), u64 (x.e : Int), u64 (c : Int), .str x.k])
      refine h3 _ i x f2 f3 f4 hc ⟨⟨lv, by simp [hne.2.1, e1, e2, hh], ?_⟩, hpm.frame (by simp [hne.2.2, show ¬ w.pm = σ.next by omega, show ¬ w.pm = σ.next + 1 by omega]), ⟨co, eo.eraseIdx i, by simp, f5, fun y hy => ho3 y (List.mem_of_mem_eraseIdx hy), ?_⟩, hne, by simp; omega⟩ ⟨rfl, rfl, rfl, fun _ h => .inl h, by simp; omega, fun a ha hn => ?_⟩
      · refine hlv.frame (by simp; omega) fun a ha hb => ?_
        have : ¬ a = w.om := fun e => by
          rcases hlv with ⟨_, _, h0⟩ | ⟨lb, _, _, h0, _, _, _, _, _, _, _, _, _, _, h9, _⟩
          · rw [h0] at hb; cases hb
          · rw [h0] at hb; cases hb; exact h9 e
        simp [this, show ¬ a = σ.next by omega, show ¬ a = σ.next + 1 by omega]
      · exact ho4.sublist ((List.eraseIdx_sublist eo i).map _)
      · have : ¬ a = w.om := fun e => hn (.inr (.inr (.inl e)))
        simp [this, show ¬ a = σ.next by omega, show ¬ a = σ.next + 1 by omega]
    · have hc' : ¬ (x.c : Int) = c := by omega
      simp [ac27, rs27, lk_cons, hh, ho1, f1, keyIs, shapeOk, kShape, storeL, e1, e2, e3, e4, e5, hc']
      exact h2 _ i x f2 f3 f4 hc (hg _ _ _)

def tk (T : List (Nat × Int)) (c : Nat) : Int := (lkN T c).getD 0
def Per (T : List (Nat × Int)) : Prop := ∀ c, 0 ≤ tk T c ∧ tk T c ≤ 1000
theorem flow18_c {σ : St} {w : Own} {D : Dk} (h : DR σ w D) (hL : D.L.length ≤ 1000) (hT : Per D.T) (c : Nat) (n : Int) (hn : -9223372036854775808 ≤ n ∧ n ≤ 9223372036854775807) (Q : AVal → St → Prop)
    (h1 : c ∉ D.L → Q (i64 61) σ) (h2 : c ∈ D.L → (n < 1 ∨ 1000 - tk D.T c < n) → Q (i64 60) σ) (h3 : ∀ σ', c ∈ D.L → 1 ≤ n → n ≤ 1000 - tk D.T c → DR σ' w { D with T := setN D.T c (tk D.T c + n) } → Stp w w σ σ' → Q (i64 0) σ') :
    ACall Try.prog 13 [.ptr w.d 0, u64 (c : Int), i64 n] σ Q := by
  refine ACall.of_compF hmx (fun a w => Try.call13 a w) Try.func13 cf13 (n := 3) (by decide) rfl ?_
  obtain ⟨⟨lv, hh, hlv⟩, ⟨cp, ep, hp1, hp2, hp3, hp4⟩, hom, hne, hlt⟩ := id h
  have hum := hlv.um
  have ht := hT c
  have w1 : IntKind.i64.wrap (1000 - tk D.T c) = 1000 - tk D.T c := by rw [IntWalk.i64_in] <;> omega
  have w2 : 1 ≤ n → n ≤ 1000 - tk D.T c → IntKind.i64.wrap (tk D.T c + n) = tk D.T c + n := fun a b => by rw [IntWalk.i64_in] <;> omega
  simp [ac13, rs13, lk_cons, hh]
  refine contains_c hum (by omega) c _ ?_
  by_cases hc : c ∈ D.L
  rotate_left
  · simp [lk_cons, hc]
    exact h1 hc
  have fin : ∀ (b : Blk) (σ' : St), σ' = ⟨σ.mem.set w.pm b, σ.next⟩ → MapN iV σ' w.pm (setN D.T c (tk D.T c + n)) → DR σ' w { D with T := setN D.T c (tk D.T c + n) } ∧ Stp w w σ σ' := by
    rintro b σ' rfl hm
    refine ⟨⟨⟨lv, by simp [hne.1, hh], hlv.frame (Nat.le_refl _) fun a ha hb => ?_⟩, hm, hom.frame (by simp [Ne.symm hne.2.2]), hne, hlt⟩, ⟨rfl, rfl, rfl, fun _ h => .inl h, Nat.le_refl _, fun a ha hn => ?_⟩⟩
    · have : ¬ a = w.pm := fun e => by
        rcases hlv with ⟨_, _, h0⟩ | ⟨lb, _, _, h0, _, _, _, _, _, _, _, _, _, h8, _⟩
        · rw [h0] at hb; cases hb
        · rw [h0] at hb; cases hb; exact h8 e
      simp [this]
    · have : ¬ a = w.pm := fun e => hn (.inr (.inl e))
      simp [this]
  by_cases hn1 : n < 1
  · simp [lk_cons, hc, hn1]
    exact h2 hc (.inl hn1)
  rcases MapN.put hp2 hp3 hp4 c (tk D.T c + n) with ⟨f1, f2, f3⟩ | ⟨i, x, f1, f2, f3⟩
  · have hz : tk D.T c = 0 := by simp [tk, f2]
    simp only [hz] at w1 w2 ht f3 h2 h3 fin
    by_cases hn2 : 1000 < n
    · simp [lk_cons, hc, hn1, hh, hp1, f1, keyIs, shapeOk, kShape, w1, hn2, show IntKind.i64.wrap 1000 = 1000 by rw [IntWalk.i64_in]; omega]
      exact h2 hc (.inr (by omega))
    · have w2' := w2 (by omega) (by omega)
      have w3 : IntKind.i64.wrap n = n := by rw [IntWalk.i64_in]; omega
      simp [lk_cons, hc, hn1, hh, hp1, f1, keyIs, shapeOk, kShape, w1, hn2, w3, show IntKind.i64.wrap 1000 = 1000 by rw [IntWalk.i64_in]; omega]
      obtain ⟨g1, g2⟩ := fin _ _ rfl (f3 _ _ (by simp [iV]; rfl))
      exact h3 _ hc (by omega) (by omega) g1 g2
  · have hz : tk D.T c = x := by simp [tk, f2]
    simp only [hz] at w1 w2 ht f3 h2 h3 fin
    by_cases hn2 : 1000 - x < n
    · simp [lk_cons, hc, hn1, hh, hp1, f1, keyIs, shapeOk, kShape, w1, hn2, iV]
      exact h2 hc (.inr hn2)
    · have w2' := w2 (by omega) (by omega)
      simp [lk_cons, hc, hn1, hh, hp1, f1, keyIs, shapeOk, kShape, w1, hn2, iV, w2']
      obtain ⟨g1, g2⟩ := fin _ _ rfl (f3 _ _ (by simp [iV]; rfl))
      exact h3 _ hc (by omega) (by omega) g1 g2
end Go.Proofs.Ytiikaajopgjliaa.AM

/- A desk: Join, Consumers. -/
namespace Go.Proofs.Ytiikaajopgjliaa.AM
set_option maxRecDepth 100000
set_option linter.unusedVariables false
set_option linter.unusedSimpArgs false

def joinK (kind : Nat) (L : List Nat) (c : Nat) : Int := if c = 0 then 2 else if c ∈ L then 12 else if kind = 1 ∧ 0 < L.length then 50 else if 8 ≤ L.length then 14 else 0
theorem join18_c {σ : St} {w : Own} {D : Dk} (h : DR σ w D) (hL : D.L.length ≤ 1000) (c : Nat) (Q : AVal → St → Prop) (h1 : joinK D.kind D.L c ≠ 0 → Q (i64 (joinK D.kind D.L c)) σ)
    (h2 : ∀ w' σ', joinK D.kind D.L c = 0 → DR σ' w' { D with L := D.L ++ [c] } → Stp w w' σ σ' → Q (i64 0) σ') : ACall Try.prog 12 [.ptr w.d 0, u64 (c : Int)] σ Q := by
  refine ACall.of_compF hmx (fun a w => Try.call12 a w) Try.func12 cf12 (n := 2) (by decide) rfl ?_
  obtain ⟨⟨lv, hh, hlv⟩, hpm, hom, hne, hlt⟩ := id h
  have hum := hlv.um
  have l1 := hum.len
  have bad : ∀ x : Int, joinK D.kind D.L c = x → x ≠ 0 → Q (i64 x) σ := fun x hx h0 => by
    have := h1 (by rw [hx]; exact h0)
    rw [hx] at this; exact this
  by_cases hc0 : c = 0
  · have hc0' : (c : Int) = 0 := by omega
    simp [ac12, rs12, lk_cons, hc0, hc0']
    exact bad 2 (by simp [joinK, hc0]) (by omega)
  have hc0' : ¬ (c : Int) = 0 := by omega
  simp [ac12, rs12, lk_cons, hc0, hc0', hh]
  refine contains_c hum (by omega) c _ ?_
  by_cases hcL : c ∈ D.L
  · simp [lk_cons, hcL]
    exact bad 12 (by simp [joinK, hc0, hcL]) (by omega)
  have one : ∀ (P : Prop), (D.kind = 1 → 0 < D.L.length → P) → (¬ (D.kind = 1 ∧ 0 < D.L.length) → P) → P := fun P a b => by
    by_cases x : D.kind = 1 ∧ 0 < D.L.length
    · exact a x.1 x.2
    · exact b x
  by_cases hk : D.kind = 1 ∧ 0 < D.L.length
  · have hk1 : (D.kind : Int) = 1 := by omega
    have hk2 : (0 : Int) < D.L.length := by omega
    simp [lk_cons, hcL, hh, ↓l1, hk1, hk2, hk.1, hk.2]
    exact bad 50 (by simp [joinK, hc0, hcL, hk]) (by omega)
  have key : (joinK D.kind D.L c = if 8 ≤ D.L.length then 14 else 0) := by simp [joinK, hc0, hcL, hk]
  by_cases h8 : 8 ≤ D.L.length
  · have h8' : (8 : Int) ≤ D.L.length := by omega
    have hk1 : ¬ D.kind = 1 := fun e => hk ⟨e, by omega⟩
    have hk1' : ¬ (D.kind : Int) = 1 := by omega
    simp [lk_cons, hcL, hh, ↓l1, h8, h8', hk1, hk1']
    exact bad 14 (by rw [key, if_pos h8]) (by omega)
  have hj : joinK D.kind D.L c = 0 := by rw [key, if_neg h8]
  have h8' : ¬ (8 : Int) ≤ D.L.length := by omega
  have e1 : ¬ w.d = σ.next := by omega
  have e2 : ¬ w.d = σ.next + 1 := by omega
  have e3 : ¬ w.pm = σ.next := by omega
  have e4 : ¬ w.pm = σ.next + 1 := by omega
  have e5 : ¬ w.om = σ.next := by omega
  have e6 : ¬ w.om = σ.next + 1 := by omega
  have e7 : ¬ w.pm = w.d := Ne.symm hne.1
  have e8 : ¬ w.om = w.d := Ne.symm hne.2.1
  have e9 : ¬ σ.next + 1 = w.d := by omega
  have e10 : ¬ σ.next = w.d := by omega
  obtain ⟨cp, ep, hp1, hp2⟩ := hpm
  obtain ⟨co, eo, ho1, ho2⟩ := hom
  -- the list grown
  have grown : ∃ nv σ2, evalV ⟨σ.mem.set σ.next (.cells 1 [u64 (c : Int)]), σ.next + 1⟩ (.append 1 8 lv (.sl σ.next 0 1 1 true)) = some (nv, σ2) ∧ nv.one = true ∧ cellsOf nv = [nv] ∧ σ2.mem.get w.d = σ.mem.get w.d ∧ ∃ w', w'.d = w.d ∧ w'.pm = w.pm ∧ w'.om = w.om ∧ (∀ x, w'.lb = some x → w.lb = some x ∨ σ.next ≤ x) ∧ σ.next ≤ σ2.next ∧
      (∀ a, a < σ.next → ¬ w.lb = some a → σ2.mem.get a = σ.mem.get a) ∧ ∀ b, LW ⟨σ2.mem.set w.d b, σ2.next⟩ w' nv (D.L ++ [c]) := by
    rcases hlv with ⟨rfl, h0, hlb⟩ | ⟨lb, cap, vals, hlb, rfl, g1, g2, g3, g3b, g4, g4b, g5, g6, g7, g8, g9⟩
    · refine ⟨.sl (σ.next + 1) 0 1 1 false, ⟨(σ.mem.set σ.next (.cells 1 [u64 (c : Int)])).set (σ.next + 1) (.cells 1 [u64 (c : Int)]), σ.next + 1 + 1⟩, by simp [srcL], rfl, rfl, by simp [e1, e2], { w with lb := some (σ.next + 1) }, rfl, rfl, rfl, fun x hx => .inr (by cases hx; omega), by simp; omega, fun a ha _ => by simp [show ¬ a = σ.next by omega, show ¬ a = σ.next + 1 by omega], fun b => ?_⟩
      exact .inr ⟨σ.next + 1, 1, [u64 (c : Int)], rfl, by rw [h0]; rfl, by rw [h0]; simp, by omega, rfl, by omega, by rw [h0]; rfl, by simp, by simp, e9, by simp; omega, by simp; omega, by simp [e9]⟩
    · have f1 : ¬ lb = σ.next := by omega
      have k2 : D.L.length ≤ vals.length := by omega
      have k3 : (D.L.length + 1) * 8 ≤ 140737488355328 ∧ D.L.length + 1 ≤ 9223372036854775807 := by omega
      have k5 : D.L.length ≤ 9223372036854775806 := by omega
      by_cases hr : D.L.length + 1 ≤ cap
      · have k6 : D.L.length + 1 ≤ vals.length := by omega
        refine ⟨.sl lb 0 (D.L.length + 1) cap false, ⟨(σ.mem.set σ.next (.cells 1 [u64 (c : Int)])).set lb (.cells 1 (storeL vals D.L.length [u64 (c : Int)])), σ.next + 1⟩, by simp [srcL, g9, f1, hr, k6], rfl, rfl, by simp [e1, Ne.symm g6], w, rfl, rfl, rfl, fun x hx => .inl hx, by simp, fun a ha hb => by
          have : ¬ a = lb := fun e => hb (by rw [hlb, e])
          simp [this, show ¬ a = σ.next by omega], fun b => ?_⟩
        refine .inr ⟨lb, cap, storeL vals D.L.length [u64 (c : Int)], hlb, by simp, by simpa using hr, g2, by rw [length_storeL]; exact g3, g3b, ?_, ?_, by simp; omega, g6, g7, g8, by simp [g6]⟩
        · have hlt : D.L.length < vals.length := by omega
          simp only [storeL, List.length_append, List.length_cons, List.length_nil, uc_app]
          rw [List.take_succ_eq_append_getElem (by rw [List.length_set]; exact hlt), List.take_set_of_le (Nat.le_refl _), g4]
          simp [uc]
        · intro v hv
          simp only [storeL] at hv
          rcases List.mem_or_eq_of_mem_set hv with hv | hv
          · exact g4b v hv
          · rw [hv]; rfl
      · have hcap : cap = D.L.length := by omega
        subst hcap
        have k4 : vals.take D.L.length = uc D.L := g4
        refine ⟨.sl (σ.next + 1) 0 (D.L.length + 1) (D.L.length + 1) false, ⟨((σ.mem.set σ.next (.cells 1 [u64 (c : Int)])).del lb).set (σ.next + 1) (.cells 1 (uc D.L ++ [u64 (c : Int)])), σ.next + 1 + 1⟩, by simp [srcL, g9, f1, hr, k2, k3, k4, k5], rfl, rfl, by simp [e1, e2, Ne.symm g6], { w with lb := some (σ.next + 1) }, rfl, rfl, rfl, fun x hx => .inr (by cases hx; omega), by simp; omega, fun a ha hb => by
          have : ¬ a = lb := fun e => hb (by rw [hlb, e])
          simp [this, show ¬ a = σ.next by omega, show ¬ a = σ.next + 1 by omega], fun b => ?_⟩
        refine .inr ⟨σ.next + 1, D.L.length + 1, uc D.L ++ [u64 (c : Int)], rfl, by simp, by simp, by omega, by simp [uc_len], by omega, ?_, ?_, by simp, e9, by simp; omega, by simp; omega, by simp [e9]⟩
        · rw [List.take_of_length_le (by simp [uc_len]), uc_app]; rfl
        · intro v hv
          rcases List.mem_append.1 hv with hv | hv
          · simp only [uc, List.mem_map] at hv
            obtain ⟨_, _, rfl⟩ := hv; rfl
          · simp at hv; subst hv; rfl
  obtain ⟨nv, σ2, a1, a2, a3, a4, w', b1, b2, b3, b4, b5, b6, b7⟩ := grown
  have nlb : ∀ x, x = w.d ∨ x = w.pm ∨ x = w.om → ¬ w.lb = some x := fun x hx e => by
    rcases hlv with ⟨_, _, h0⟩ | ⟨lb, _, _, h0, _, _, _, _, _, _, _, _, h7, h8, h9, _⟩
    · rw [h0] at e; cases e
    · rw [h0] at e; cases e; rcases hx with e | e | e
      · exact h7 e
      · exact h8 e
      · exact h9 e
  have a4' := a4.trans hh
  have fin : Q (i64 0) ⟨σ2.mem.set w.d (.cells 5 [.int .u8 (D.kind : Int), nv, .map w.pm, .map w.om, u64 (D.last : Int)]), σ2.next⟩ := by
    refine h2 w' _ hj ⟨⟨nv, by rw [b1, b2, b3]; simp, b7 _⟩, ⟨cp, ep, by rw [b2]; simp [e7]; exact (b6 _ hlt.2.1 (nlb _ (.inr (.inl rfl)))).trans hp1, hp2⟩, ⟨co, eo, by rw [b3]; simp [e8]; exact (b6 _ hlt.2.2 (nlb _ (.inr (.inr rfl)))).trans ho1, ho2⟩, by rw [b1, b2, b3]; exact hne, by rw [b1, b2, b3]; show _ < σ2.next ∧ _ < σ2.next ∧ _ < σ2.next; omega⟩ ⟨b1, b2, b3, b4, b5, fun a ha hn => ?_⟩
    have : ¬ a = w.d := fun e => hn (.inl e)
    simp [this]
    exact b6 a ha fun e => hn (.inr (.inr (.inr e)))
  by_cases hk1 : D.kind = 1
  · have h0 : D.L.length = 0 := by
      by_cases x : 0 < D.L.length
      · exact absurd ⟨hk1, x⟩ hk
      · omega
    have hk1' : (D.kind : Int) = 1 := by omega
    have h0' : ¬ (0 : Int) < D.L.length := by omega
    simp [lk_cons, hcL, hh, ↓l1, hk1, hk1', h0, h0', h8, h8', fillL, repL, storeL, e1, ↓a1, a4', a2, a3]
    simpa [hk1] using fin
  · have hk1' : ¬ (D.kind : Int) = 1 := by omega
    simp [lk_cons, hcL, hh, ↓l1, hk1, hk1', h8, h8', fillL, repL, storeL, e1, ↓a1, a4', a2, a3]
    exact fin
end Go.Proofs.Ytiikaajopgjliaa.AM

/- A desk: Consumers. -/
namespace Go.Proofs.Ytiikaajopgjliaa.AM
set_option maxRecDepth 100000
set_option linter.unusedVariables false
set_option linter.unusedSimpArgs false

def tc (l : List (Nat × Int)) : List AVal := (l.map fun p => [u64 (p.1 : Int), i64 p.2]).flatten
theorem tc_len (l : List (Nat × Int)) : (tc l).length = l.length * 2 := by
  induction l with
  | nil => rfl
  | cons x l ih => simp only [tc, List.map_cons, List.flatten_cons, List.length_append, List.length_cons, List.length_nil] at ih ⊢; omega
theorem tc_app (l m : List (Nat × Int)) : tc (l ++ m) = tc l ++ tc m := by simp [tc]
theorem tc_upto (lo : Nat) : ∀ l : List (Nat × Int), uptoL lo (tc l) = true
  | [] => rfl
  | x :: l => by
    have := tc_upto lo l
    simp only [tc, List.map_cons, List.flatten_cons] at this ⊢
    simp only [List.cons_append, List.nil_append, uptoL, AVal.upto, Bool.true_and]
    exact this
/-- Takers that are unchanging. -/
def TI (v : AVal) (l : List (Nat × Int)) : Prop := v = .nilsl ∧ l = [] ∨ ∃ t, v = .isl (tc l) l.length t
theorem TI.upto {v : AVal} {l : List (Nat × Int)} (h : TI v l) (lo : Nat) : v.upto lo = true := by
  rcases h with ⟨rfl, _⟩ | ⟨t, rfl⟩
  · rfl
  · simp [AVal.upto, tc_upto]
theorem TI.len {v : AVal} {l : List (Nat × Int)} (h : TI v l) (ρ : St) : evalV ρ (.len 1 v) = some (i64 l.length, ρ) := by
  rcases h with ⟨rfl, rfl⟩ | ⟨t, rfl⟩ <;> simp
theorem tc_get {l : List (Nat × Int)} {i : Nat} {x : Nat × Int} (h : l[i]? = some x) : ((tc l).drop (i * 2)).take 2 = [u64 (x.1 : Int), i64 x.2] := by
  induction l generalizing i with
  | nil => simp at h
  | cons y l ih =>
    cases i with
    | zero => simp at h; subst h; simp [tc]
    | succ i =>
      have := ih (by simpa using h)
      simp only [tc, List.map_cons, List.flatten_cons] at this ⊢
      rw [show (i + 1) * 2 = i * 2 + 2 by omega]
      simpa using this
theorem TI.at {v : AVal} {l : List (Nat × Int)} (hv : TI v l) {i : Nat} {x : Nat × Int} (hx : l[i]? = some x) (ρ : St) :
    evalV ρ (.idxAddr 2 v (i64 i)) = some (.iptr [u64 (x.1 : Int), i64 x.2], ρ) := by
  have hi := (List.getElem?_eq_some_iff.1 hx).1
  rcases hv with ⟨_, rfl⟩ | ⟨t, rfl⟩
  · simp at hx
  · have := tc_get hx
    simp [hi, this]
def PSl (lo : Nat) (σ' : St) (v : AVal) (l : List (Nat × Int)) : Prop := v = .nilsl ∧ l = [] ∨ ∃ o, v = .sl o 0 l.length l.length false ∧ 0 < l.length ∧ lo ≤ o ∧ o < σ'.next ∧ σ'.mem.get o = some (.cells 2 (tc l))
def CnJ (lv : AVal) (w : Own) (D : Dk) (σ0 : St) (mm : Nat) (rg : Regs) (σ' : St) : Prop := ∃ (i : Nat) (ov : AVal), mm = D.L.length - i ∧ i ≤ D.L.length ∧ Grow σ0 σ' ∧ PSl σ0.next σ' ov ((D.L.take i).map fun c => (c, tk D.T c)) ∧ rg = [(0, .ptr w.d 0), (3, ov), (11, lv), (12, i64 D.L.length), (13, i64 i)]
theorem consumers_c {σ : St} {w : Own} {D : Dk} (h : DR σ w D) (hL : D.L.length ≤ 1000) (Q : AVal → St → Prop) (hQ : ∀ v, TI v (D.L.map fun c => (c, tk D.T c)) → Q v σ) : ACall Try.prog 20 [.ptr w.d 0] σ Q := by
  refine ACall.freeze ?_
  refine ACall.of_compF hmx (fun a w => Try.call20 a w) Try.func20 cf20 (n := 1) (by decide) rfl ?_
  obtain ⟨⟨lv, hh, hlv⟩, ⟨cp, ep, hp1, hp2, hp3, hp4⟩, hom, hne, hlt⟩ := id h
  have hum := hlv.um
  have l1 := hum.len
  simp [ac20, rs20, lk_cons, hh, ↓l1]
  refine wp_loop (CnJ lv w D σ) D.L.length ?_ ?_
  · exact ⟨0, .nilsl, rfl, Nat.zero_le _, Grow.refl _, .inl ⟨rfl, by simp⟩, rfl⟩
  · rintro mm rg σ' ⟨i, ov, rfl, hi, hg, ho, rfl⟩
    by_cases hlt2 : i < D.L.length
    · obtain ⟨c, hc⟩ : ∃ c, D.L[i]? = some c := ⟨_, List.getElem?_eq_getElem hlt2⟩
      obtain ⟨k, hk⟩ : ∃ k, i + 1 = k := ⟨_, rfl⟩
      have w1 : IntKind.i64.wrap ((i : Int) + 1) = (k : Int) := by rw [IntWalk.i64_in] <;> omega
      obtain ⟨q, q1, q2⟩ := hum.at hc (ρ := σ') hg.2
      have md := (hg.2 _ hlt.1).trans hh
      have mp := (hg.2 _ hlt.2.1).trans hp1
      have d1 : ¬ w.d = σ'.next := by have := hg.1; omega
      have d2 : ¬ w.pm = σ'.next := by have := hg.1; omega
      have step : ∀ x : Int, x = tk D.T c → ∃ nv σ2, evalV ⟨σ'.mem.set σ'.next (.cells 2 [u64 (c : Int), i64 x]), σ'.next + 1⟩ (.append 2 16 ov (.sl σ'.next 0 1 1 true)) = some (nv, σ2) ∧ Grow σ σ2 ∧ PSl σ.next σ2 nv ((D.L.take k).map fun c => (c, tk D.T c)) := by
        rintro x rfl
        have htk : D.L.take k = D.L.take i ++ [c] := by rw [← hk, List.take_add_one, hc]; rfl
        have hlen : ((D.L.take i).map fun c => (c, tk D.T c)).length = i := by simp; omega
        rw [htk, List.map_append]
        revert ho hlen
        generalize (D.L.take i).map (fun c => (c, tk D.T c)) = l
        intro ho hlen
        have gn := hg.1
        rcases ho with ⟨rfl, rfl⟩ | ⟨o, rfl, h2, h3, h4, h5⟩
        · exact ⟨.sl (σ'.next + 1) 0 1 1 false, ⟨(σ'.mem.set σ'.next (.cells 2 [u64 (c : Int), i64 (tk D.T c)])).set (σ'.next + 1) (.cells 2 [u64 (c : Int), i64 (tk D.T c)]), σ'.next + 1 + 1⟩, by simp [srcL], ⟨by simp; omega, fun a ha => by simp [show ¬ a = σ'.next by omega, show ¬ a = σ'.next + 1 by omega]; exact hg.2 a ha⟩, .inr ⟨σ'.next + 1, rfl, by simp, by omega, by simp, by simp [tc]⟩⟩
        · have k1 : ¬ l.length + 1 ≤ l.length := by omega
          have k2 : l.length * 2 ≤ (tc l).length := by rw [tc_len]; omega
          have k3 : (l.length + 1) * 16 ≤ 140737488355328 ∧ l.length ≤ 9223372036854775806 := by omega
          have k4 : (tc l).take (l.length * 2) = tc l := List.take_of_length_le (by rw [tc_len]; omega)
          have k6 : ¬ o = σ'.next := by omega
          exact ⟨.sl (σ'.next + 1) 0 (l.length + 1) (l.length + 1) false, ⟨((σ'.mem.set σ'.next (.cells 2 [u64 (c : Int), i64 (tk D.T c)])).del o).set (σ'.next + 1) (.cells 2 (tc l ++ [u64 (c : Int), i64 (tk D.T c)])), σ'.next + 1 + 1⟩, by simp [srcL, h5, k1, k2, k3, k4, k6], ⟨by simp; omega, fun a ha => by simp [show ¬ a = σ'.next by omega, show ¬ a = σ'.next + 1 by omega, show ¬ a = o by omega]; exact hg.2 a ha⟩, .inr ⟨σ'.next + 1, by simp, by simp, by omega, by simp, by simp [tc_app, tc]⟩⟩
      have go : ∀ x : Int, x = tk D.T c → ∃ nv σ2, evalV ⟨σ'.mem.set σ'.next (.cells 2 [u64 (c : Int), i64 x]), σ'.next + 1⟩ (.append 2 16 ov (.sl σ'.next 0 1 1 true)) = some (nv, σ2) ∧ ∃ m', m' < D.L.length - i ∧ CnJ lv w D σ m' [(0, .ptr w.d 0), (3, nv), (11, lv), (12, i64 D.L.length), (13, i64 k)] σ2 := by
        intro x hx
        obtain ⟨nv, σ2, s1, s2, s3⟩ := step x hx
        exact ⟨nv, σ2, s1, D.L.length - k, by omega, k, nv, rfl, by omega, s2, s3, rfl⟩
      rcases findN (k := c) hp2 with ⟨f1, f2⟩ | ⟨j, x, f1, f2, _⟩
      · obtain ⟨nv, σ2, s1, s2⟩ := go 0 (by simp [tk, f2])
        simp [lk_cons, hlt2, ↓q1, ↓q2, md, mp, f1, keyIs, shapeOk, kShape, fillL, storeL, repL, ↓s1, w1]
        exact s2
      · obtain ⟨nv, σ2, s1, s2⟩ := go x (by simp [tk, f2])
        simp [lk_cons, hlt2, ↓q1, ↓q2, md, mp, f1, keyIs, shapeOk, kShape, fillL, storeL, repL, ↓s1, w1, iV]
        exact s2
    · have : i = D.L.length := by omega
      subst this
      rw [List.take_length] at ho
      have fr : ∃ v', frz σ.next σ'.mem ov = some v' ∧ TI v' (D.L.map fun c => (c, tk D.T c)) := by
        revert ho
        generalize D.L.map (fun c => (c, tk D.T c)) = l
        rintro (⟨rfl, rfl⟩ | ⟨o, rfl, h2, h3, h4, h5⟩)
        · exact ⟨.nilsl, rfl, .inl ⟨rfl, rfl⟩⟩
        · refine ⟨_, frz_sl h3 h5 (by rw [tc_len]; omega) (tc_upto _ _), .inr ⟨(false && decide (l.length = l.length)), ?_⟩⟩
          rw [List.drop_zero, List.take_of_length_le (by rw [tc_len]; exact Nat.le_refl _)]
      obtain ⟨v', f1, f2⟩ := fr
      simp [lk_cons, f1]
      exact ⟨hg.2, hQ v' f2⟩
end Go.Proofs.Ytiikaajopgjliaa.AM

/- Numbers sorted. -/
namespace Go.Proofs.Ytiikaajopgjliaa.AM
set_option maxRecDepth 100000
set_option linter.unusedVariables false
set_option linter.unusedSimpArgs false

def USl (lo : Nat) (σ' : St) (v : AVal) (l : List Nat) : Prop := v = .nilsl ∧ l = [] ∨ ∃ o, v = .sl o 0 l.length l.length false ∧ 0 < l.length ∧ lo ≤ o ∧ o < σ'.next ∧ σ'.mem.get o = some (.cells 1 (uc l))
theorem USl.frame {lo lo' : Nat} {σ1 σ2 : St} {v : AVal} {l : List Nat} (h : USl lo σ1 v l) (hn : σ1.next ≤ σ2.next) (hl : lo' ≤ lo) (hm : ∀ a, lo ≤ a → a < σ1.next → σ2.mem.get a = σ1.mem.get a) : USl lo' σ2 v l := by
  rcases h with h | ⟨o, h1, h2, h3, h4, h5⟩
  · exact .inl h
  · exact .inr ⟨o, h1, h2, by omega, by omega, (hm o h3 h4).trans h5⟩
theorem USl.one {lo : Nat} {σ1 : St} {v : AVal} {l : List Nat} (h : USl lo σ1 v l) : v.one = true ∧ cellsOf v = [v] := by
  rcases h with ⟨rfl, _⟩ | ⟨o, rfl, _⟩ <;> simp
theorem USl.lo {lo : Nat} {σ1 : St} {v : AVal} {l : List Nat} (h : USl lo σ1 v l) {o : Nat} (hv : v = .sl o 0 l.length l.length false) : lo ≤ o := by
  rcases h with ⟨rfl, _⟩ | ⟨o', rfl, _, h3, _⟩
  · cases hv
  · cases hv; exact h3
theorem usl_app {lo : Nat} {ρ0 ρ : St} {ov : AVal} {l : List Nat} (ho : USl lo ρ0 ov l) (hn : ρ0.next ≤ ρ.next) (hm : ∀ a, lo ≤ a → a < ρ0.next → ρ.mem.get a = ρ0.mem.get a) (hl : l.length ≤ 100000) {b x : Nat} (hb : ρ.mem.get b = some (.cells 1 [u64 (x : Int)])) (hlo : lo ≤ ρ.next) :
    ∃ w ρ', evalV ρ (.append 1 8 ov (.sl b 0 1 1 true)) = some (w, ρ') ∧ USl lo ρ' w (l ++ [x]) ∧ ρ'.next = ρ.next + 1 ∧ ∀ a, a < ρ.next → (∀ o, ov = .sl o 0 l.length l.length false → a ≠ o) → ρ'.mem.get a = ρ.mem.get a := by
  rcases ho with ⟨rfl, rfl⟩ | ⟨o, rfl, h2, h3, h4, h5⟩
  · exact ⟨.sl ρ.next 0 1 1 false, ⟨ρ.mem.set ρ.next (.cells 1 [u64 (x : Int)]), ρ.next + 1⟩, by simp [srcL, hb], .inr ⟨ρ.next, rfl, by simp, hlo, Nat.lt_succ_self _, by simp [uc]⟩, rfl, fun a ha _ => by simp [show ¬ a = ρ.next by omega]⟩
  · have h5' := (hm o h3 h4).trans h5
    have k1 : ¬ l.length + 1 ≤ l.length := by omega
    have k2 : l.length ≤ (uc l).length := by rw [uc_len]; omega
    have k3 : (l.length + 1) * 8 ≤ 140737488355328 ∧ l.length ≤ 9223372036854775806 := by omega
    have k4 : (uc l).take l.length = uc l := List.take_of_length_le (by rw [uc_len]; omega)
    exact ⟨.sl ρ.next 0 (l.length + 1) (l.length + 1) false, ⟨(ρ.mem.del o).set ρ.next (.cells 1 (uc l ++ [u64 (x : Int)])), ρ.next + 1⟩, by simp [srcL, hb, h5', k1, k2, k3, k4], .inr ⟨ρ.next, by simp, by simp, hlo, Nat.lt_succ_self _, by simp [uc_app, uc]⟩, rfl, fun a ha hne => by simp [show ¬ a = ρ.next by omega, hne o rfl]⟩

def AuJ (n0 : Nat) (lv : AVal) (L : List Nat) (lp : Loop) (σ0 : St) (mm : Nat) (rg : Regs) (σ' : St) : Prop := ∃ (i : Nat) (ov : AVal), mm = L.length - i ∧ i ≤ L.length ∧ σ'.mem.get (n0 + 1) = some (.loop lp) ∧ σ'.mem.get n0 = some (.cells 1 [ov]) ∧ USl (n0 + 1 + 1) σ' ov (L.take i) ∧ n0 + 1 < σ'.next ∧ (∀ a, a < n0 → σ'.mem.get a = σ0.mem.get a) ∧ rg = [(0, .yld (n0 + 1)), (5, lv), (6, i64 L.length), (7, i64 i)]
theorem appu_c {σ : St} {b1 : Nat} {lv : AVal} {L : List Nat} (hb : σ.mem.get b1 = some (.cells 1 [lv])) (hL : UM σ lv L) (hb1 : b1 < σ.next) (hl : L.length ≤ 10000)
    (Q : AVal → St → Prop) (hQ : ∀ v σ', USl σ.next σ' v L → Grow σ σ' → Q v σ') : ACall Try.prog 79 [.nilsl, .fn 67 [] [.ptr b1 0]] σ Q := by
  refine ACall.of_compF hmx (fun a w => Try.call79 a w) Try.func79 cf79 (n := 2) (by decide) rfl ?_
  simp [ac79, rs79, lk_cons]
  intro lp hlp1 hlp2
  refine ACall.of_compF hmx (fun a w => Try.call67 a w) Try.func67 cf67 (n := 2) (by decide) rfl ?_
  have z1 : ¬ b1 = σ.next := by omega
  have z2 : ¬ b1 = σ.next + 1 := by omega
  have l1 := hL.len
  simp [ac67, rs67, lk_cons, hb, z1, z2, ↓l1]
  refine wp_loop (AuJ σ.next lv L lp σ) L.length ?_ ?_
  · refine ⟨0, .nilsl, rfl, Nat.zero_le _, by simp, by simp [show ¬ σ.next = σ.next + 1 by omega], .inl ⟨rfl, rfl⟩, by simp, fun a ha => by simp [show ¬ a = σ.next by omega, show ¬ a = σ.next + 1 by omega], rfl⟩
  · rintro mm rg σ' ⟨i, ov, rfl, hi, g2, g3, g4, g5, g6, rfl⟩
    by_cases hlt : i < L.length
    · obtain ⟨c, hc⟩ : ∃ c, L[i]? = some c := ⟨_, List.getElem?_eq_getElem hlt⟩
      obtain ⟨k, hk⟩ : ∃ k, i + 1 = k := ⟨_, rfl⟩
      have w0 : IntKind.i64.wrap ((i : Int) + 1) = (k : Int) := by rw [IntWalk.i64_in] <;> omega
      have htk : L.take k = L.take i ++ [c] := by rw [← hk, List.take_add_one, hc]; rfl
      obtain ⟨q, q1, q2⟩ := hL.at hc (ρ := σ') g6
      have hyl : (L.take i).length ≤ 100000 := by simp; omega
      simp [lk_cons, hlt, ↓q1, ↓q2]
      refine ⟨fun v σ3 => v = .bool true ∧ ∃ ov', σ3.mem.get σ.next = some (.cells 1 [ov']) ∧ USl (σ.next + 1 + 1) σ3 ov' (L.take k) ∧ σ3.mem.get (σ.next + 1) = some (.loop lp) ∧ σ'.next ≤ σ3.next ∧ ∀ a, a < σ.next → σ3.mem.get a = σ.mem.get a, ?_, ?_⟩
      · have w1 : ¬ σ.next = σ'.next := by omega
        have w2 : ¬ σ.next + 1 = σ'.next := by omega
        have v1 : ¬ σ'.next = σ.next := by omega
        have v2 : ¬ σ'.next = σ.next + 1 := by omega
        have w4 : ¬ σ.next = σ.next + 1 := by omega
        obtain ⟨w, ρ', e1, e2, e3, e4⟩ := usl_app (x := c) (b := σ'.next) (ρ := ⟨(σ'.mem.set (σ.next + 1) (.loop { lp with state := .busy })).set σ'.next (.cells 1 [u64 (c : Int)]), σ'.next + 1⟩) g4 (by simp) (fun a ha hb => by simp [show ¬ a = σ.next + 1 by omega, show ¬ a = σ'.next by omega]) hyl (by simp) (by simp; omega)
        simp [roundY, bindP, lk_cons, storeL, w1, w2, w4, v1, v2, g2, g3, fillL, repL, ↓e1]
        have m0 : ρ'.mem.get σ.next = some (.cells 1 [ov]) := by
          rw [e4 _ (by simp; omega) fun o ho => by have := g4.lo ho; omega]
          simp [w1, w4, g3]
        have m1 : ρ'.mem.get (σ.next + 1) = some (.loop { lp with state := .busy }) := by
          rw [e4 _ (by simp; omega) fun o ho => by have := g4.lo ho; omega]
          simp [w2]
        simp [m0, e2.one, storeL, roundQ, m1, lk_cons]
        refine ⟨by rw [htk]; exact e2.frame (by simp) (Nat.le_refl _) fun a ha hb => by simp [show ¬ a = σ.next + 1 by omega, show ¬ a = σ.next by omega], by rw [e3]; simp; omega, fun a ha => ?_⟩
        simp [show ¬ a = σ.next + 1 by omega, show ¬ a = σ.next by omega]
        rw [e4 _ (by simp; omega) fun o ho => by have := g4.lo ho; omega]
        simp [show ¬ a = σ.next + 1 by omega, show ¬ a = σ'.next by omega]
        exact g6 a ha
      · rintro v σ3 ⟨rfl, ov', k1, k2, k3, k4, k5⟩
        simp [lk_cons, w0]
        exact ⟨L.length - k, by omega, k, ov', rfl, by omega, k3, k1, k2, by omega, k5, rfl⟩
    · have : i = L.length := by omega
      subst this
      rw [List.take_length] at g4
      simp [lk_cons, g2, g3, hlp1, hlp2, afterQ]
      exact hQ ov _ (g4.frame (Nat.le_refl _) (by omega) fun a ha _ => by simp [show ¬ a = σ.next + 1 by omega]) ⟨by simp; omega, fun a ha => by simp [show ¬ a = σ.next + 1 by omega]; exact g6 a ha⟩

theorem bits_c (n : Nat) (hn : n ≤ 12) (σ : St) (Q : AVal → St → Prop) (h : ∀ k : Int, Q (i64 k) σ) : ACall Try.prog 63 [u64 (n : Int)] σ Q := by
  refine ACall.of_compF hmx (fun a w => Try.call63 a w) Try.func63 cf63 (n := 1) (by decide) rfl ?_
  simp [ac63, rs63, lk_cons]
  refine ACall.of_compF hmx (fun a w => Try.call78 a w) Try.func78 cf78 (n := 1) (by decide) rfl ?_
  have k1 : ¬ (4294967296 : Int) ≤ n := by omega
  have k2 : ¬ (65536 : Int) ≤ n := by omega
  have k3 : ¬ (256 : Int) ≤ n := by omega
  have w1 : IntKind.u8.wrap (n : Int) = n := by simp (disch := omega) only [IntWalk.u8_in]
  simp [ac78, rs78, lk_cons, k1, k2, k3, w1]
  rcases (by omega : n = 0 ∨ n = 1 ∨ n = 2 ∨ n = 3 ∨ n = 4 ∨ n = 5 ∨ n = 6 ∨ n = 7 ∨ n = 8 ∨ n = 9 ∨ n = 10 ∨ n = 11 ∨ n = 12) with rfl | rfl | rfl | rfl | rfl | rfl | rfl | rfl | rfl | rfl | rfl | rfl | rfl <;> simp [lk_cons] <;> exact h _
end Go.Proofs.Ytiikaajopgjliaa.AM

/- Numbers sorted: insertion. -/
namespace Go.Proofs.Ytiikaajopgjliaa.AM
set_option maxRecDepth 100000
set_option linter.unusedVariables false
set_option linter.unusedSimpArgs false

theorem less_c (a b : Int) (σ : St) (Q : AVal → St → Prop) (h : Q (.bool (decide (a < b))) σ) : ACall Try.prog 92 [u64 a, u64 b] σ Q := by
  refine ACall.of_compF hmx (fun a w => Try.call92 a w) Try.func92 cf92 (n := 2) (by decide) rfl ?_
  simp [ac92, rs92, lk_cons]
  refine nan_c _ _ _ ?_
  simp [lk_cons]
  by_cases h1 : a < b
  · simp [h1] at h ⊢; exact h
  · simp [h1] at h ⊢; exact h

/-- Rising up to i, but for what is at j. -/
def SrtEx (l : List Nat) (i j : Nat) : Prop := ∀ (p q x y : Nat), p < q → q ≤ i → q ≠ j → l[p]? = some x → l[q]? = some y → x ≤ y
def swp2 (l : List Nat) (j x y : Nat) : List Nat := (l.set (j + 1) x).set j y
theorem swp2_perm {l : List Nat} {j x y : Nat} (hx : l[j]? = some x) (hy : l[j + 1]? = some y) : (swp2 l j x y).Perm l := by
  induction l generalizing j with
  | nil => simp at hx
  | cons a l ih =>
    cases j with
    | zero =>
      cases l with
      | nil => simp at hy
      | cons b l =>
        simp at hx hy; subst hx; subst hy
        exact .swap _ _ _
    | succ j =>
      have := ih (by simpa using hx) (by simpa using hy)
      simp only [swp2, List.set_cons_succ] at this ⊢
      exact this.cons a
theorem swp2_get {l : List Nat} {j x y : Nat} (hx : l[j]? = some x) (hy : l[j + 1]? = some y) (p : Nat) : (swp2 l j x y)[p]? = if p = j then some y else if p = j + 1 then some x else l[p]? := by
  have hj := (List.getElem?_eq_some_iff.1 hy).1
  simp only [swp2, List.getElem?_set, List.length_set]
  by_cases h1 : p = j
  · subst h1; simp; omega
  · rw [if_neg (fun e => h1 e.symm), if_neg h1]
    by_cases h2 : p = j + 1
    · subst h2; simp; omega
    · rw [if_neg (fun e => h2 e.symm), if_neg h2]
theorem SrtEx.step {l : List Nat} {i j x y : Nat} (h : SrtEx l i (j + 1)) (hx : l[j]? = some x) (hy : l[j + 1]? = some y) (hlt : y < x) : SrtEx (swp2 l j x y) i j := by
  intro p q a b hpq hq hqj ha hb
  rw [swp2_get hx hy] at ha hb
  rw [if_neg hqj] at hb
  by_cases hq1 : q = j + 1
  · rw [if_pos hq1] at hb
    cases hb
    by_cases hp : p = j
    · rw [if_pos hp] at ha; cases ha; omega
    · rw [if_neg hp, if_neg (by omega)] at ha
      exact h p j a x (by omega) (by omega) (by omega) ha hx
  · rw [if_neg hq1] at hb
    by_cases hp : p = j
    · rw [if_pos hp] at ha; cases ha
      exact h (j + 1) q y b (by omega) hq hq1 hy hb
    · rw [if_neg hp] at ha
      by_cases hp1 : p = j + 1
      · rw [if_pos hp1] at ha; cases ha
        exact h j q x b (by omega) hq hq1 hx hb
      · rw [if_neg hp1] at ha
        exact h p q a b hpq hq hq1 ha hb
def Srt (l : List Nat) (i : Nat) : Prop := ∀ (p q x y : Nat), p < q → q < i → l[p]? = some x → l[q]? = some y → x ≤ y
theorem SrtEx.ofSrt {l : List Nat} {i : Nat} (h : Srt l i) : SrtEx l i i := fun p q x y hpq hq hne hx hy => h p q x y hpq (by omega) hx hy
theorem SrtEx.zero {l : List Nat} {i : Nat} (h : SrtEx l i 0) : Srt l (i + 1) := fun p q x y hpq hq hx hy => h p q x y hpq (by omega) (by omega) hx hy
theorem SrtEx.stop {l : List Nat} {i j x y : Nat} (h : SrtEx l i (j + 1)) (hx : l[j]? = some x) (hy : l[j + 1]? = some y) (hle : ¬ y < x) : Srt l (i + 1) := by
  intro p q a b hpq hq ha hb
  by_cases hq1 : q = j + 1
  · subst hq1
    rw [hy] at hb; cases hb
    by_cases hp : p = j
    · subst hp; rw [hx] at ha; cases ha; omega
    · have := h p j a x (by omega) (by omega) (by omega) ha hx
      omega
  · exact h p q a b hpq (by omega) hq1 ha hb

def At1 (a : Nat) (l : List Nat) (σ0 σ' : St) : Prop := σ'.next = σ0.next ∧ σ'.mem.get a = some (.cells 1 (uc l)) ∧ ∀ x, x ≠ a → σ'.mem.get x = σ0.mem.get x
def IsJ (a : Nat) (t : Bool) (L : List Nat) (σ0 : St) (mm : Nat) (rg : Regs) (σ' : St) : Prop := ∃ (i : Nat) (l : List Nat), mm = L.length - i ∧ 1 ≤ i ∧ i ≤ L.length ∧ l.Perm L ∧ Srt l i ∧ At1 a l σ0 σ' ∧ rg = [(0, .sl a 0 L.length L.length t), (1, i64 0), (2, i64 L.length), (6, i64 i)]
def IsJ2 (a : Nat) (t : Bool) (L : List Nat) (i : Nat) (σ0 : St) (mm : Nat) (rg : Regs) (σ' : St) : Prop := ∃ (j : Nat) (l : List Nat), j = mm ∧ j ≤ i ∧ l.Perm L ∧ SrtEx l i j ∧ At1 a l σ0 σ' ∧ rg = [(0, .sl a 0 L.length L.length t), (1, i64 0), (2, i64 L.length), (6, i64 i), (7, i64 j)]
set_option maxHeartbeats 1000000 in
theorem ins_c {σ : St} {a : Nat} {t : Bool} {L : List Nat} (hL : 0 < L.length ∧ L.length ≤ 12) (hm : σ.mem.get a = some (.cells 1 (uc L))) (Q : AVal → St → Prop)
    (hQ : ∀ l σ', l.Perm L → Srt l l.length → At1 a l σ σ' → Q (.tup []) σ') : ACall Try.prog 86 [.sl a 0 L.length L.length t, i64 0, i64 L.length] σ Q := by
  refine ACall.of_compF hmx (fun a w => Try.call86 a w) Try.func86 cf86 (n := 3) (by decide) rfl ?_
  have w0 : IntKind.i64.wrap (0 + 1) = 1 := by rw [IntWalk.i64_in] <;> omega
  simp [ac86, rs86, lk_cons, w0]
  refine wp_loop (IsJ a t L σ) (L.length - 1) ?_ ?_
  · exact ⟨1, L, rfl, by omega, by omega, .refl _, fun p q x y h1 h2 => by omega, ⟨rfl, hm, fun _ _ => rfl⟩, rfl⟩
  · rintro mm rg σ1 ⟨i, l, rfl, hi1, hi, hp, hs, h1, rfl⟩
    by_cases hlt : i < L.length
    · obtain ⟨k, hk⟩ : ∃ k, i + 1 = k := ⟨_, rfl⟩
      have w1 : IntKind.i64.wrap ((i : Int) + 1) = (k : Int) := by rw [IntWalk.i64_in] <;> omega
      simp [lk_cons, hlt]
      refine wp_loop (IsJ2 a t L i σ) i ?_ ?_
      · exact ⟨i, l, rfl, Nat.le_refl _, hp, .ofSrt hs, h1, rfl⟩
      · rintro m2 rg2 σ2 ⟨j, l2, rfl, hj, hp2, hs2, h2, rfl⟩
        have hl2 := hp2.length_eq
        have fin : Srt l2 (i + 1) → ∃ m', m' < L.length - i ∧ IsJ a t L σ m' [(0, .sl a 0 L.length L.length t), (1, i64 0), (2, i64 L.length), (6, i64 k)] σ2 := fun hh => ⟨L.length - k, by omega, k, l2, rfl, by omega, by omega, hp2, hk ▸ hh, h2, rfl⟩
        obtain ⟨n2, g2, o2⟩ := h2
        match j, hj, hs2 with
        | 0, hj, hs2 =>
          simp [lk_cons, w1]
          exact fin hs2.zero
        | j + 1, hj, hs2 =>
          have hj1 : (0 : Int) < (j : Int) + 1 := by omega
          have w2 : IntKind.i64.wrap (j : Int) = (j : Int) := by rw [IntWalk.i64_in]; omega
          obtain ⟨x, hx⟩ : ∃ x, l2[j]? = some x := ⟨_, List.getElem?_eq_getElem (by omega)⟩
          obtain ⟨y, hy⟩ : ∃ y, l2[j + 1]? = some y := ⟨_, List.getElem?_eq_getElem (by omega)⟩
          have c1 : (j : Int) + 1 < L.length := by omega
          have c2 : j < L.length := by omega
          have c3 : 0 ≤ (j : Int) + 1 := by omega
          have c4 : j + 1 < L.length := by omega
          have t1 : ((j : Int) + 1).toNat = j + 1 := by omega
          have u1 := uc_get hx
          have u2 := uc_get hy
          simp [lk_cons, hj1, w2, c1, c2, c3, c4, t1, g2, u1, u2]
          refine less_c _ _ _ _ ?_
          by_cases hlt2 : y < x
          · have hlt2' : (y : Int) < x := by omega
            have q1 : j + 1 + 1 ≤ (uc l2).length := by rw [uc_len]; omega
            have q2 : j + 1 ≤ (uc l2).length := by rw [uc_len]; omega
            have q3 : j + 1 ≤ l2.length := by omega
            have q4 : j < l2.length := by omega
            have q5 : j + 1 < l2.length := by omega
            simp [lk_cons, hlt2, hlt2', w2, c1, c2, c3, c4, t1, g2, u1, u2, q1, q2, storeL]
            refine ⟨j, by omega, j, swp2 l2 j x y, rfl, by omega, (swp2_perm hx hy).trans hp2, hs2.step hx hy hlt2, ⟨n2, ?_, fun z hz => ?_⟩, rfl⟩
            · simp [swp2, uc]
            · simp [hz]
              exact o2 z hz
          · have hlt2' : ¬ (y : Int) < x := by omega
            simp [lk_cons, hlt2', w1]
            exact fin (hs2.stop hx hy hlt2)
    · have : i = L.length := by omega
      subst this
      have hl := hp.length_eq
      simp [lk_cons]
      exact hQ l _ hp (by rw [hl]; exact hs) h1
end Go.Proofs.Ytiikaajopgjliaa.AM

/- Numbers sorted; a checksum. -/
namespace Go.Proofs.Ytiikaajopgjliaa.AM
set_option maxRecDepth 100000
set_option linter.unusedVariables false
set_option linter.unusedSimpArgs false

theorem pdq_c {σ : St} {a : Nat} {t : Bool} {L : List Nat} (hL : 0 < L.length ∧ L.length ≤ 12) (hm : σ.mem.get a = some (.cells 1 (uc L))) (k : Int) (Q : AVal → St → Prop)
    (hQ : ∀ l σ', l.Perm L → Srt l l.length → At1 a l σ σ' → Q (.tup []) σ') : ACall Try.prog 80 [.sl a 0 L.length L.length t, i64 0, i64 L.length, i64 k] σ Q := by
  refine ACall.of_compF hmx (fun a w => Try.call80 a w) Try.func80 cf80 (n := 4) (by decide) rfl ?_
  simp [ac80, rs80, lk_cons]
  refine wp_loop (fun m rg σ' => m = 0 ∧ σ' = σ ∧ rg = [(0, .sl a 0 L.length L.length t), (1, i64 0), (2, i64 L.length), (3, i64 k), (8, .bool true), (9, .bool true)]) 0 ?_ ?_
  · exact ⟨rfl, rfl, rfl⟩
  · rintro mm rg σ1 ⟨rfl, rfl, rfl⟩
    have w1 : IntKind.i64.wrap (L.length : Int) = L.length := by rw [IntWalk.i64_in] <;> omega
    have w2 : (L.length : Int) ≤ 12 := by omega
    simp [lk_cons, w1, w2]
    refine ins_c hL hm _ fun l σ' p1 p2 p3 => ?_
    simp [lk_cons]
    exact hQ l σ' p1 p2 p3
theorem sort66_c {σ : St} {a : Nat} {t : Bool} {L : List Nat} (hL : 0 < L.length ∧ L.length ≤ 12) (hm : σ.mem.get a = some (.cells 1 (uc L))) (Q : AVal → St → Prop)
    (hQ : ∀ l σ', l.Perm L → Srt l l.length → At1 a l σ σ' → Q (.tup []) σ') : ACall Try.prog 66 [.sl a 0 L.length L.length t] σ Q := by
  refine ACall.of_compF hmx (fun a w => Try.call66 a w) Try.func66 cf66 (n := 1) (by decide) rfl ?_
  have w1 : IntKind.u64.wrap (L.length : Int) = L.length := by rw [IntWalk.u64_in] <;> omega
  simp [ac66, rs66, lk_cons, w1]
  refine bits_c _ hL.2 _ _ fun k => ?_
  simp [lk_cons]
  refine pdq_c hL hm k _ fun l σ' p1 p2 p3 => ?_
  simp [lk_cons]
  exact hQ l σ' p1 p2 p3
/-- Sorted, of some. -/
theorem sorted57_c {σ : St} {b1 : Nat} {lv : AVal} {L : List Nat} (hb : σ.mem.get b1 = some (.cells 1 [lv])) (hL : UM σ lv L) (hb1 : b1 < σ.next) (hl : 0 < L.length ∧ L.length ≤ 12)
    (Q : AVal → St → Prop) (hQ : ∀ o l σ', l.Perm L → Srt l l.length → σ'.mem.get o = some (.cells 1 (uc l)) → σ.next ≤ o → o < σ'.next → Grow σ σ' → Q (.sl o 0 l.length l.length false) σ') : ACall Try.prog 57 [.fn 67 [] [.ptr b1 0]] σ Q := by
  refine ACall.of_compF hmx (fun a w => Try.call57 a w) Try.func57 cf57 (n := 1) (by decide) rfl ?_
  simp [ac57, rs57, lk_cons]
  refine ACall.of_compF hmx (fun a w => Try.call65 a w) Try.func65 cf65 (n := 1) (by decide) rfl ?_
  simp [ac65, rs65, lk_cons]
  refine appu_c hb hL hb1 (by omega) _ fun v σ' p1 p2 => ?_
  rcases p1 with ⟨_, rfl⟩ | ⟨o, rfl, q1, q2, q3, q4⟩
  · simp at hl
  · simp [lk_cons]
    refine sort66_c hl q4 _ fun l σ2 r1 r2 r3 => ?_
    obtain ⟨n1, n2, n3⟩ := r3
    simp [lk_cons]
    have h := r1.length_eq
    rw [← h]
    refine hQ o l σ2 r1 r2 n2 q2 (by omega) ⟨by rw [n1]; exact p2.1, fun a ha => ?_⟩
    rw [n3 a (by omega)]
    exact p2.2 a ha

def U32 (v : AVal) : Prop := ∃ k : Int, v = .int .u32 k ∧ 0 ≤ k ∧ k < 4294967296
theorem u32_wrap (x : Int) : 0 ≤ IntKind.u32.wrap x ∧ IntKind.u32.wrap x < 4294967296 := by
  simp only [IntKind.wrap, IntKind.signed, IntKind.bits]
  constructor <;> simp <;> omega
def andU (a b : Int) : Int := IntKind.u32.wrap ((BitVec.ofInt 32 a &&& BitVec.ofInt 32 b).toNat : Int)
def xorU (a b : Int) : Int := IntKind.u32.wrap ((BitVec.ofInt 32 a ^^^ BitVec.ofInt 32 b).toNat : Int)
theorem and_u (a b : Int) (ρ : St) : evalV ρ (.bin .and (.int .u32 a) (.int .u32 b)) = some (.int .u32 (andU a b), ρ) := rfl
theorem xor_u (a b : Int) (ρ : St) : evalV ρ (.bin .xor (.int .u32 a) (.int .u32 b)) = some (.int .u32 (xorU a b), ρ) := rfl
theorem shr_u (a : Int) (ρ : St) : evalV ρ (.bin .shr (.int .u32 a) (.int .u64 1)) = some (.int .u32 (a.fdiv (2 ^ 1)), ρ) := rfl
theorem and_in (a b : Int) : 0 ≤ andU a b ∧ andU a b < 4294967296 := u32_wrap _
theorem xor_in (a b : Int) : 0 ≤ xorU a b ∧ xorU a b < 4294967296 := u32_wrap _
def Su1 (s : ByteArray) (b : Nat) (σ0 : St) (mm : Nat) (rg : Regs) (σ' : St) : Prop := ∃ (i : Nat) (k : Int), mm = s.size - i ∧ i ≤ s.size ∧ σ' = σ0 ∧ 0 ≤ k ∧ k < 4294967296 ∧ rg = [(5, .int .u32 k), (11, .sl b 0 s.size s.size false), (12, i64 s.size), (13, i64 i)]
def Su2 (s : ByteArray) (b i : Nat) (σ0 : St) (mm : Nat) (rg : Regs) (σ' : St) : Prop := ∃ (j : Nat) (k : Int), mm = 8 - j ∧ j ≤ 8 ∧ σ' = σ0 ∧ 0 ≤ k ∧ k < 4294967296 ∧ rg = [(5, .int .u32 k), (11, .sl b 0 s.size s.size false), (12, i64 s.size), (13, i64 i), (21, i64 j)]
theorem sum_c {σ : St} {b : Nat} {s : ByteArray} (hm : σ.mem.get b = some (.cells 1 (s.data.toList.map fun x => .int .u8 x.toNat))) (hs : s.size ≤ 100000) (Q : AVal → St → Prop) (hQ : ∀ k : Int, 0 ≤ k → k < 4294967296 → Q (.int .u32 k) σ) :
    ACall Try.prog 59 [.sl b 0 s.size s.size false] σ Q := by
  refine ACall.of_compF hmx (fun a w => Try.call59 a w) Try.func59 cf59 (n := 1) (by decide) rfl ?_
  simp [ac59, rs59, lk_cons]
  refine ACall.of_compF hmx (fun a w => Try.call68 a w) Try.func68 cf68 (n := 2) (by decide) rfl ?_
  simp [ac68, rs68, lk_cons]
  have w9 := u32_wrap 0
  refine wp_loop (Su1 s b σ) s.size ?_ ?_
  · exact ⟨0, _, rfl, Nat.zero_le _, rfl, by first | exact (xor_in _ _).1 | exact (u32_wrap _).1 | omega, by first | exact (xor_in _ _).2 | exact (u32_wrap _).2 | omega, rfl⟩
  · rintro mm rg σ1 ⟨i, k, rfl, hi, rfl, hk0, hk1, rfl⟩
    by_cases hlt : i < s.size
    · obtain ⟨x, hx⟩ : ∃ x, s.data.toList[i]? = some x := ⟨_, List.getElem?_eq_getElem (by simpa using hlt)⟩
      obtain ⟨i', hi'⟩ : ∃ k, i + 1 = k := ⟨_, rfl⟩
      have w0 : IntKind.i64.wrap ((i : Int) + 1) = (i' : Int) := by rw [IntWalk.i64_in] <;> omega
      simp [lk_cons, hlt, hm, hx, ↓and_u, ↓xor_u, ↓shr_u]
      refine wp_loop (Su2 s b i σ1) 8 ?_ ?_
      · exact ⟨0, _, rfl, by omega, rfl, by first | exact (xor_in _ _).1 | exact (u32_wrap _).1 | omega, by first | exact (xor_in _ _).2 | exact (u32_wrap _).2 | omega, rfl⟩
      · rintro m2 rg2 σ2 ⟨j, k, rfl, hj, rfl, hk0, hk1, rfl⟩
        by_cases hlt2 : j < 8
        · have hlt2' : (j : Int) < 8 := by omega
          obtain ⟨j', hj'⟩ : ∃ k, j + 1 = k := ⟨_, rfl⟩
          have w3 : IntKind.i64.wrap ((j : Int) + 1) = (j' : Int) := by rw [IntWalk.i64_in] <;> omega
          simp [lk_cons, hlt2, hlt2', w3, ↓and_u, ↓xor_u, ↓shr_u]
          exact ⟨8 - j', by omega, j', _, rfl, by omega, rfl, (xor_in _ _).1, (xor_in _ _).2, rfl⟩
        · have : j = 8 := by omega
          subst this
          simp [lk_cons, w0]
          exact ⟨s.size - i', by omega, i', _, rfl, by omega, rfl, hk0, hk1, rfl⟩
    · have : i = s.size := by omega
      subst this
      simp [lk_cons]
      exact hQ _ (by first | exact (xor_in _ _).1 | exact (u32_wrap _).1 | omega) (by first | exact (xor_in _ _).2 | exact (u32_wrap _).2 | omega)
end Go.Proofs.Ytiikaajopgjliaa.AM

/- The checksum, twice. -/
namespace Go.Proofs.Ytiikaajopgjliaa.AM
set_option maxRecDepth 100000
set_option linter.unusedVariables false
set_option linter.unusedSimpArgs false

def u32ok (k : Int) : Prop := 0 ≤ k ∧ k < 4294967296
theorem xorU_comm (a b : Int) : xorU a b = xorU b a := by simp only [xorU, BitVec.xor_comm]
theorem ofInt_nat (k : Nat) : BitVec.ofInt 32 (k : Int) = BitVec.ofNat 32 k := by simp
theorem xorU_zero {k : Int} (h : u32ok k) : xorU k 0 = k := by
  obtain ⟨n, rfl⟩ : ∃ n : Nat, k = n := ⟨k.toNat, (Int.toNat_of_nonneg h.1).symm⟩
  have hn : n < 4294967296 := by have := h.2; omega
  have h1 : (BitVec.ofInt 32 (n : Int) ^^^ BitVec.ofInt 32 0).toNat = n := by
    rw [ofInt_nat]; simp; omega
  rw [xorU, h1, IntKind.wrap_u32]; omega
theorem andU_one {k : Int} (h : u32ok k) : andU k 1 = k % 2 := by
  obtain ⟨n, rfl⟩ : ∃ n : Nat, k = n := ⟨k.toNat, (Int.toNat_of_nonneg h.1).symm⟩
  have hn : n < 4294967296 := by have := h.2; omega
  have h1 : (BitVec.ofInt 32 (n : Int) &&& BitVec.ofInt 32 1).toNat = n % 2 := by
    rw [ofInt_nat, BitVec.toNat_and]
    have : (BitVec.ofInt 32 1).toNat = 1 := by decide
    rw [this, BitVec.toNat_ofNat, Nat.mod_eq_of_lt hn, Nat.and_one_is_mod]
  rw [andU, h1, IntKind.wrap_u32]; omega
def poly : Int := 2197175160
def bitN (k : Int) : Int := if k % 2 = 1 then xorU (k / 2) poly else k / 2
theorem bitN_ok {k : Int} (h : u32ok k) : u32ok (bitN k) := by
  unfold bitN; split
  · exact xor_in _ _
  · exact ⟨by have := h.1; omega, by have := h.2; have := h.1; omega⟩
def itN : Nat → Int → Int
  | 0, k => k
  | n + 1, k => bitN (itN n k)
theorem itN_ok {k : Int} (h : u32ok k) : ∀ n, u32ok (itN n k)
  | 0 => h
  | n + 1 => bitN_ok (itN_ok h n)
def byteN (k : Int) (x : UInt8) : Int := itN 8 (xorU k (x.toNat : Int))
def sumN (l : List UInt8) : Int := l.foldl byteN 4294967295
theorem sumN_ok (l : List UInt8) : u32ok (sumN l) := by
  have : ∀ (l : List UInt8) (k : Int), u32ok k → u32ok (l.foldl byteN k) := by
    intro l
    induction l with
    | nil => intro k h; exact h
    | cons x l ih => intro k h; exact ih _ (itN_ok (xor_in _ _) 8)
  exact this l _ ⟨by decide, by decide⟩
def crcS (s : ByteArray) : Int := xorU (sumN s.data.toList) 4294967295
theorem bit68 {k : Int} (h : u32ok k) : xorU (k.fdiv 2) (andU (IntKind.u32.wrap (-(andU k 1))) 2197175160) = bitN k := by
  have h2 : k.fdiv 2 = k / 2 := Int.fdiv_eq_ediv_of_nonneg k (by decide)
  rw [andU_one h, h2]
  have hk : u32ok (k / 2) := ⟨by have := h.1; omega, by have := h.2; have := h.1; omega⟩
  unfold bitN
  rcases (by omega : k % 2 = 0 ∨ k % 2 = 1) with e | e
  · rw [e, if_neg (by omega)]
    have : andU (IntKind.u32.wrap (-0)) 2197175160 = 0 := by decide
    rw [this, xorU_zero hk]
  · rw [e, if_pos rfl]
    have : andU (IntKind.u32.wrap (-1)) 2197175160 = poly := by decide
    rw [this]
def T1 (s : ByteArray) (b : Nat) (σ0 : St) (mm : Nat) (rg : Regs) (σ' : St) : Prop := ∃ i : Nat, mm = s.size - i ∧ i ≤ s.size ∧ σ' = σ0 ∧ rg = [(5, .int .u32 (sumN (s.data.toList.take i))), (11, .sl b 0 s.size s.size false), (12, i64 s.size), (13, i64 i)]
def T2 (s : ByteArray) (b i : Nat) (k0 : Int) (σ0 : St) (mm : Nat) (rg : Regs) (σ' : St) : Prop := ∃ j : Nat, mm = 8 - j ∧ j ≤ 8 ∧ σ' = σ0 ∧ rg = [(5, .int .u32 (itN j k0)), (11, .sl b 0 s.size s.size false), (12, i64 s.size), (13, i64 i), (21, i64 j)]
theorem sum_step {s : ByteArray} {i : Nat} {x : UInt8} (hx : s.data.toList[i]? = some x) : itN 8 (xorU (sumN (s.data.toList.take i)) (x.toNat : Int)) = sumN (s.data.toList.take (i + 1)) := by
  rw [List.take_add_one, hx]
  simp [sumN, byteN]
theorem unx (k : Int) (ρ : St) : evalV ρ (.un .xor (.int .u32 k)) = some (.int .u32 (xorU 4294967295 k), ρ) := rfl
theorem sum68_c {σ : St} {b : Nat} {s : ByteArray} (hm : σ.mem.get b = some (.cells 1 (s.data.toList.map fun x => .int .u8 x.toNat))) (hs : s.size ≤ 100000) (Q : AVal → St → Prop) (hQ : Q (.int .u32 (crcS s)) σ) :
    ACall Try.prog 59 [.sl b 0 s.size s.size false] σ Q := by
  refine ACall.of_compF hmx (fun a w => Try.call59 a w) Try.func59 cf59 (n := 1) (by decide) rfl ?_
  simp [ac59, rs59, lk_cons]
  refine ACall.of_compF hmx (fun a w => Try.call68 a w) Try.func68 cf68 (n := 2) (by decide) rfl ?_
  have u0 : xorU 4294967295 0 = 4294967295 := by decide
  simp [ac68, rs68, lk_cons, ↓unx, u0]
  refine wp_loop (T1 s b σ) s.size ?_ ?_
  · exact ⟨0, rfl, Nat.zero_le _, rfl, rfl⟩
  · rintro mm rg σ1 ⟨i, rfl, hi, rfl, rfl⟩
    by_cases hlt : i < s.size
    · have hlt' : i < s.data.size := hlt
      have hx : s.data.toList[i]? = some (s.data[i]'hlt') := by rw [List.getElem?_eq_getElem (by simpa using hlt)]; simp
      obtain ⟨i', hi'⟩ : ∃ k, i + 1 = k := ⟨_, rfl⟩
      have w0 : IntKind.i64.wrap ((i : Int) + 1) = (i' : Int) := by rw [IntWalk.i64_in] <;> omega
      have w9 : IntKind.u32.wrap ((s.data[i]'hlt').toNat : Int) = (s.data[i]'hlt').toNat := by have := (s.data[i]'hlt').toNat_lt; simp (disch := omega) only [IntWalk.u32_in]
      simp [lk_cons, hlt, hm, hx, ↓and_u, ↓xor_u, w9]
      refine wp_loop (T2 s b i (xorU (sumN (s.data.toList.take i)) ((s.data[i]'hlt').toNat : Int)) σ1) 8 ?_ ?_
      · exact ⟨0, rfl, by omega, rfl, rfl⟩
      · rintro m2 rg2 σ2 ⟨j, rfl, hj, rfl, rfl⟩
        by_cases hlt2 : j < 8
        · have hlt2' : (j : Int) < 8 := by omega
          obtain ⟨j', hj'⟩ : ∃ k, j + 1 = k := ⟨_, rfl⟩
          have w3 : IntKind.i64.wrap ((j : Int) + 1) = (j' : Int) := by rw [IntWalk.i64_in] <;> omega
          have kk := itN_ok (k := xorU (sumN (s.data.toList.take i)) ((s.data[i]'hlt').toNat : Int)) (xor_in _ _) j
          have b8 := bit68 kk
          simp [lk_cons, hlt2, hlt2', w3, ↓and_u, ↓xor_u, ↓shr_u]
          refine ⟨8 - j', by omega, j', rfl, by omega, rfl, ?_⟩
          rw [← hj', show itN (j + 1) (xorU (sumN (s.data.toList.take i)) ((s.data[i]'hlt').toNat : Int)) = bitN (itN j (xorU (sumN (s.data.toList.take i)) ((s.data[i]'hlt').toNat : Int))) from rfl, ← b8]
        · have : j = 8 := by omega
          subst this
          rw [sum_step hx, hi']
          simp [lk_cons, w0]
          exact ⟨s.size - i', by omega, i', rfl, by omega, rfl, rfl⟩
    · have : i = s.size := by omega
      subst this
      have ht : s.data.toList.take s.size = s.data.toList := List.take_of_length_le (by simp)
      rw [ht]
      simp [lk_cons, ↓unx]
      rw [xorU_comm]
      exact hQ

def U1 (s : ByteArray) (b : Nat) (σ0 : St) (mm : Nat) (rg : Regs) (σ' : St) : Prop := ∃ i : Nat, mm = s.size - i ∧ i ≤ s.size ∧ σ' = σ0 ∧ rg = [(0, .sl b 0 s.size s.size false), (3, .int .u32 (sumN (s.data.toList.take i))), (4, i64 i)]
def U2 (s : ByteArray) (b i : Nat) (k0 : Int) (σ0 : St) (mm : Nat) (rg : Regs) (σ' : St) : Prop := ∃ j : Nat, mm = 8 - j ∧ j ≤ 8 ∧ σ' = σ0 ∧ rg = [(0, .sl b 0 s.size s.size false), (3, .int .u32 (itN j k0)), (4, i64 i), (5, i64 j)]
theorem tmod2 {k : Int} (h : u32ok k) : k.tmod 2 = k % 2 := Int.tmod_eq_emod_of_nonneg h.1
theorem tdiv2 {k : Int} (h : u32ok k) : k.tdiv 2 = k / 2 := Int.tdiv_eq_ediv_of_nonneg h.1
theorem sum60_c {σ : St} {b : Nat} {s : ByteArray} (hm : σ.mem.get b = some (.cells 1 (s.data.toList.map fun x => .int .u8 x.toNat))) (hs : s.size ≤ 100000) (Q : AVal → St → Prop) (hQ : Q (.int .u32 (crcS s)) σ) :
    ACall Try.prog 60 [.sl b 0 s.size s.size false] σ Q := by
  refine ACall.of_compF hmx (fun a w => Try.call60 a w) Try.func60 cf60 (n := 1) (by decide) rfl ?_
  simp [ac60, rs60, lk_cons]
  refine wp_loop (U1 s b σ) s.size ?_ ?_
  · exact ⟨0, rfl, Nat.zero_le _, rfl, rfl⟩
  · rintro mm rg σ1 ⟨i, rfl, hi, rfl, rfl⟩
    by_cases hlt : i < s.size
    · have hlt' : i < s.data.size := hlt
      have hx : s.data.toList[i]? = some (s.data[i]'hlt') := by rw [List.getElem?_eq_getElem (by simpa using hlt)]; simp
      obtain ⟨i', hi'⟩ : ∃ k, i + 1 = k := ⟨_, rfl⟩
      have w0 : IntKind.i64.wrap ((i : Int) + 1) = (i' : Int) := by rw [IntWalk.i64_in] <;> omega
      have w9 : IntKind.u32.wrap ((s.data[i]'hlt').toNat : Int) = (s.data[i]'hlt').toNat := by have := (s.data[i]'hlt').toNat_lt; simp (disch := omega) only [IntWalk.u32_in]
      simp [lk_cons, hlt, hm, hx, ↓xor_u, w9]
      refine wp_loop (U2 s b i (xorU (sumN (s.data.toList.take i)) ((s.data[i]'hlt').toNat : Int)) σ1) 8 ?_ ?_
      · exact ⟨0, rfl, by omega, rfl, rfl⟩
      · rintro m2 rg2 σ2 ⟨j, rfl, hj, rfl, rfl⟩
        by_cases hlt2 : j < 8
        · have hlt2' : (j : Int) < 8 := by omega
          obtain ⟨j', hj'⟩ : ∃ k, j + 1 = k := ⟨_, rfl⟩
          have w3 : IntKind.i64.wrap ((j : Int) + 1) = (j' : Int) := by rw [IntWalk.i64_in] <;> omega
          have kk := itN_ok (k := xorU (sumN (s.data.toList.take i)) ((s.data[i]'hlt').toNat : Int)) (xor_in _ _) j
          have e0 : itN j' (xorU (sumN (s.data.toList.take i)) ((s.data[i]'hlt').toNat : Int)) = bitN (itN j (xorU (sumN (s.data.toList.take i)) ((s.data[i]'hlt').toNat : Int))) := by rw [← hj']; rfl
          have m2 := tmod2 kk
          have d2 := tdiv2 kk
          have okw : IntKind.u32.wrap ((itN j (xorU (sumN (s.data.toList.take i)) ((s.data[i]'hlt').toNat : Int))) / 2) = (itN j (xorU (sumN (s.data.toList.take i)) ((s.data[i]'hlt').toNat : Int))) / 2 := by
            rw [IntWalk.u32_in]; have := kk.1; have := kk.2; omega
          rcases (by omega : itN j (xorU (sumN (s.data.toList.take i)) ((s.data[i]'hlt').toNat : Int)) % 2 = 0 ∨ itN j (xorU (sumN (s.data.toList.take i)) ((s.data[i]'hlt').toNat : Int)) % 2 = 1) with e | e
          · rw [e] at m2
            simp [lk_cons, hlt2, hlt2', w3, ↓xor_u, m2, d2, okw]
            refine ⟨8 - j', by omega, j', rfl, by omega, rfl, ?_⟩
            rw [e0, bitN, if_neg (by omega)]
          · rw [e] at m2
            simp [lk_cons, hlt2, hlt2', w3, ↓xor_u, m2, d2, okw]
            refine ⟨8 - j', by omega, j', rfl, by omega, rfl, ?_⟩
            rw [e0, bitN, if_pos e]; rfl
        · have : j = 8 := by omega
          subst this
          rw [sum_step hx, hi']
          simp [lk_cons, w0]
          exact ⟨s.size - i', by omega, i', rfl, by omega, rfl, rfl⟩
    · have : i = s.size := by omega
      subst this
      have ht : s.data.toList.take s.size = s.data.toList := List.take_of_length_le (by simp)
      rw [ht]
      simp [lk_cons, ↓xor_u]
      exact hQ
end Go.Proofs.Ytiikaajopgjliaa.AM

/- A desk: whose a key is. -/
namespace Go.Proofs.Ytiikaajopgjliaa.AM
set_option maxRecDepth 100000
set_option linter.unusedVariables false
set_option linter.unusedSimpArgs false

theorem All2.get' {α β : Type} {R : α → β → Prop} : ∀ {us : List α} {bs : List β} {i : Nat} {b : β}, All2 R us bs → bs[i]? = some b → ∃ a, us[i]? = some a ∧ R a b
  | a :: us, b :: bs, 0, c, h, hb => by simp at hb; subst hb; exact ⟨a, rfl, h.1⟩
  | a :: us, b :: bs, i + 1, c, h, hb => All2.get' (i := i) h.2 (by simpa using hb)
  | [], _ :: _, _, _, h, _ => h.elim
  | _ :: _, [], _, _, h, _ => h.elim
  | [], [], _, _, _, hb => by simp at hb
theorem stamp_inj {ents : List MEnt} (h : (ents.map (·.1)).Nodup) {a b : MEnt} (ha : a ∈ ents) (hb : b ∈ ents) (e : a.1 = b.1) : a = b := by
  have h1 := stamp_find h ha
  have h2 := stamp_find h hb
  rw [e, h2] at h1
  exact (Option.some.inj h1).symm
theorem bytes_eq (a b : ByteArray) (ρ : St) : evalV ρ (.bin .eql (.str a) (.str b)) = some (.bool (decide (a = b)), ρ) := by
  have h := str_eq a.data.toList b.data.toList
  have e : ∀ x : ByteArray, (⟨x.data.toList.toArray⟩ : ByteArray) = x := fun x => by cases x; simp
  rw [e, e] at h
  simp only [evalV, abin, h, Option.map_some]
  have : (a.data.toList = b.data.toList) ↔ a = b := ⟨fun h => by cases a; cases b; simpa using h, fun h => by rw [h]⟩
  simp [this]
theorem LW.one {σ : St} {w : Own} {lv : AVal} {L : List Nat} (h : LW σ w lv L) : lv.one = true ∧ cellsOf lv = [lv] := by
  rcases h with ⟨rfl, _⟩ | ⟨lb, c, vals, _, rfl, _⟩ <;> simp
def KpJ (w : Own) (key : ByteArray) (clock : Nat) (ents : List MEnt) (σ0 : St) (mm : Nat) (rg : Regs) (σ' : St) : Prop := ∃ S : List Nat, mm = leftE S ents ∧ (∀ e ∈ ents, e.1 ∈ S → ∀ x, VOut e x → x.k ≠ key) ∧ σ'.mem.get σ0.next = some (.iter (some w.om) clock S clock) ∧ σ0.next < σ'.next ∧ Grow σ0 σ' ∧ rg = [(0, .ptr w.d 0), (1, .str key), (12, .ptr σ0.next 0)]
def keepsK (D : Dk) (key : ByteArray) (c : Nat) : Prop := (∃ x ∈ D.O, x.k = key ∧ c = x.c) ∨ (∀ x ∈ D.O, x.k ≠ key) ∧ (c = 0 ∧ D.L = [] ∨ ∃ (l : List Nat) (m : Nat), l.Perm D.L ∧ Srt l l.length ∧ (crcS key).tmod (l.length : Int) = (m : Int) ∧ l[m]? = some c)
theorem keeper_c {σ : St} {w : Own} {D : Dk} (h : DR σ w D) (hL : D.L.length ≤ 12) (hl : D.O.length ≤ 10000) (key : ByteArray) (hk : key.size ≤ 100000) (Q : AVal → St → Prop) (hQ : ∀ c : Nat, keepsK D key c → Q (u64 (c : Int)) σ) :
    ACall Try.prog 46 [.ptr w.d 0, .str key] σ Q := by
  refine ACall.scrub ?_
  refine ACall.of_compF hmx (fun a w => Try.call46 a w) Try.func46 cf46 (n := 2) (by decide) rfl ?_
  obtain ⟨⟨lv, hh, hlv⟩, hpm, ⟨clock, ents, ho1, ho2, ho3, ho4⟩, hne, hlt⟩ := id h
  have hum := hlv.um
  have l1 := hum.len
  have z1 : ¬ w.d = σ.next := by omega
  have z2 : ¬ w.om = σ.next := by omega
  have fin : ∀ (c : Nat) (σ' : St), keepsK D key c → Grow σ σ' → Old σ σ' ∧ Q (u64 (c : Int)) σ := fun c σ' hc hg => ⟨hg.2, hQ c hc⟩
  simp [ac46, rs46, lk_cons, hh, ho1, z1, z2]
  refine wp_loop (KpJ w key clock ents σ) (leftE [] ents) ?_ ?_
  · exact ⟨[], rfl, fun e _ he => (by cases he), by simp, by simp, ⟨by simp, fun a ha => by simp [show ¬ a = σ.next by omega]⟩, rfl⟩
  · rintro mm rg σ' ⟨S, rfl, g0, g1, g2, g3, rfl⟩
    obtain ⟨L, n1, n2⟩ := next_all g1 ((g3.2 _ hlt.2.2).trans ho1) ho3
    simp [lk_cons, ↓n1]
    intro p1 p2 hp
    rcases n2 _ hp with ⟨he, hall⟩ | ⟨e, he, hne1, hpe⟩
    · cases he
      have hno : ∀ x ∈ D.O, x.k ≠ key := fun x hx => by
        obtain ⟨i, hi⟩ := List.getElem?_of_mem hx
        obtain ⟨e, he1, he2⟩ := All2.get' (EO.vout ho2) hi
        exact g0 e (List.mem_of_getElem? he1) (hall e (List.mem_of_getElem? he1)) x he2
      have md := (g3.2 _ hlt.1).trans hh
      by_cases h0 : D.L.length = 0
      · have h0' : D.L = [] := List.length_eq_zero_iff.1 h0
        simp [lk_cons, md, ↓l1, h0']
        exact fin 0 _ (.inr ⟨hno, .inl ⟨rfl, h0'⟩⟩) g3
      · have h0' : ¬ D.L = [] := fun e => h0 (by simp [e])
        simp [lk_cons, md, ↓l1, h0, h0']
        refine ACall.of_compF hmx (fun a w => Try.call58 a w) Try.func58 cf58 (n := 1) (by decide) rfl ?_
        simp [ac58, rs58, lk_cons, hlv.one]
        refine sorted57_c (b1 := σ'.next) (by simp) (hum.frame (by simp; have := g3.1; omega) fun a ha => by simp [show ¬ a = σ'.next by omega]; exact g3.2 a ha) (by simp) ⟨by omega, hL⟩ _ fun o l σ2 q1 q2 q3 q4 q5 q6 => ?_
        simp at q4
        have q7 := q1.length_eq
        have hk' : key.size ≤ 140737488355328 := by omega
        simp [lk_cons, hk']
        have hk0 : 0 ≤ crcS key := (xor_in _ _).1
        refine sum68_c (by simp) hk _ ?_
        generalize hkk : crcS key = k at hk0 ⊢
        have w1 : IntKind.u32.wrap (l.length : Int) = l.length := by simp (disch := omega) only [IntWalk.u32_in]
        have w2 : ¬ (l.length : Int) = 0 := by omega
        have w2' : ¬ l = [] := fun e => w2 (by simp [e])
        obtain ⟨m, hm⟩ : ∃ m : Nat, k.tmod (l.length : Int) = m := ⟨(k.tmod (l.length : Int)).toNat, (Int.toNat_of_nonneg (Int.tmod_nonneg _ hk0)).symm⟩
        have hml : m < l.length := by have := Int.tmod_lt_of_pos k (b := (l.length : Int)) (by omega); omega
        obtain ⟨c, hc⟩ : ∃ c, l[m]? = some c := ⟨_, List.getElem?_eq_getElem hml⟩
        have e9 : ¬ o = σ2.next := by omega
        simp [lk_cons, w1, w2, w2', hm, hml, q3, e9, uc_get hc]
        refine fin c _ (.inr ⟨hno, .inr ⟨l, m, q1, q2, by rw [hkk]; exact hm, hc⟩⟩) ⟨by simp; have := q6.1; have := g3.1; simp at *; omega, fun a ha => ?_⟩
        have := g3.1
        simp [show ¬ a = σ2.next by have := q6.1; simp at this; omega]
        rw [q6.2 a (by simp; omega)]
        simp [show ¬ a = σ'.next by omega]
        exact g3.2 a ha
    · cases hpe
      have el := entry_last (σ := ⟨σ'.mem.set σ.next (.iter (some w.om) clock (S ++ [e.1]) clock), σ'.next⟩) (it := σ.next) (mp := w.om) (clock := clock) (S := S) (by simp) (by simp [z2, g3.2 _ hlt.2.2, ho1]) ho4 he
      obtain ⟨j, hj⟩ := List.getElem?_of_mem he
      obtain ⟨x, hx1, hx2⟩ := (EO.vout ho2).get hj
      simp only [VOut] at hx2
      rw [hx2] at el
      have e1 : ¬ σ.next = σ'.next := by omega
      have gg : ∀ (A B : Blk), Grow σ ⟨((σ'.mem.set σ.next (.iter (some w.om) clock (S ++ [e.1]) clock)).set σ'.next A).set σ'.next B, σ'.next + 1⟩ := fun A B => ⟨by simp; omega, fun a ha => by simp [show ¬ a = σ.next by omega, show ¬ a = σ'.next by omega]; exact g3.2 a ha⟩
      by_cases hkk : x.k = key
      · simp [lk_cons, ↓el, storeL, ↓bytes_eq, hkk]
        exact fin x.c _ (.inl ⟨x, List.mem_of_getElem? hx1, hkk, rfl⟩) (gg _ _)
      · simp [lk_cons, ↓el, storeL, ↓bytes_eq, hkk]
        refine ⟨leftE (S ++ [e.1]) ents, leftE_lt he hne1, S ++ [e.1], rfl, fun e2 he2 hs x2 hx => ?_, by simp [e1], by simp; omega, gg _ _, rfl⟩
        rcases List.mem_append.1 hs with hs | hs
        · exact g0 e2 he2 hs x2 hx
        · have := stamp_inj ho4 he2 he (List.mem_singleton.1 hs)
          subst this
          simp only [VOut] at hx
          rw [hx] at hx2
          rw [orow_inj (AVal.agg.inj hx2)]
          exact hkk
end Go.Proofs.Ytiikaajopgjliaa.AM

/- A desk: who may have something. -/
namespace Go.Proofs.Ytiikaajopgjliaa.AM
set_option maxRecDepth 100000
set_option linter.unusedVariables false
set_option linter.unusedSimpArgs false

theorem tail_um {σ ρ : St} {lb c n i : Nat} {t : Bool} {vals : List AVal} {L : List Nat} (hn : n = L.length) (hi : i ≤ n) (h1 : vals.length = c) (h2 : n ≤ c) (h3 : vals.take L.length = uc L) (hb : lb < ρ.next) (hm : ρ.mem.get lb = some (.cells 1 vals)) : UM ρ (.sl lb i (n - i) (c - i) t) (L.drop i) := by
  subst hn
  refine .inr ⟨lb, i, c - i, t, vals, by rw [List.length_drop], by rw [List.length_drop]; omega, hb, hm, by rw [List.length_drop]; omega, ?_⟩
  rw [List.length_drop, ← List.drop_take, h3]
  simp [uc]
theorem head_um {σ ρ : St} {lb c i cap : Nat} {t : Bool} {vals : List AVal} {L : List Nat} (hi : i ≤ L.length) (h1 : vals.length = c) (h2 : L.length ≤ c) (h4 : i ≤ cap) (h3 : vals.take L.length = uc L) (hb : lb < ρ.next) (hm : ρ.mem.get lb = some (.cells 1 vals)) : UM ρ (.sl lb 0 i cap t) (L.take i) := by
  refine .inr ⟨lb, 0, cap, t, vals, by rw [List.length_take, Nat.min_eq_left hi], by rw [List.length_take]; omega, hb, hm, by rw [List.length_take]; omega, ?_⟩
  rw [List.length_take, Nat.min_eq_left hi, List.drop_zero]
  have : vals.take i = (vals.take L.length).take i := by rw [List.take_take, Nat.min_eq_left hi]
  rw [this, h3]
  simp [uc]
theorem turn18_c {σ : St} {w : Own} {D : Dk} (h : DR σ w D) (hL : D.L.length ≤ 1000) (i : Nat) (hi : idxN D.L D.last + 1 = i) (hil : i ≤ D.L.length) (Q : AVal → St → Prop) (hQ : ∀ v, UI v (D.L.drop i ++ D.L.take i) → Q v σ) : ACall Try.prog 45 [.ptr w.d 0] σ Q := by
  refine ACall.scrub ?_
  refine ACall.of_compF hmx (fun a w => Try.call45 a w) Try.func45 cf45 (n := 1) (by decide) rfl ?_
  obtain ⟨⟨lv, hh, hlv⟩, hpm, hom, hne, hlt⟩ := id h
  have hum := hlv.um
  have w1 : IntKind.i64.wrap (idxN D.L D.last + 1) = (i : Int) := by rw [hi, IntWalk.i64_in]; omega
  have hup : ∀ v l, UI v l → v.upto σ.next = true := by
    intro v l hv
    rcases hv with ⟨rfl, _⟩ | ⟨t, rfl⟩
    · rfl
    · simp [AVal.upto, uc_upto]
  simp [ac45, rs45, lk_cons, hh]
  refine index_c hum (by omega) D.last _ ?_
  simp [lk_cons, w1, hh]
  have cc : ∀ (v1 v2 : AVal), UM ⟨σ.mem.set σ.next (.cells 1 [v1, v2]), σ.next + 1⟩ v1 (D.L.drop i) → UM ⟨σ.mem.set σ.next (.cells 1 [v1, v2]), σ.next + 1⟩ v2 (D.L.take i) → ∀ Q', (∀ v', UI v' (D.L.drop i ++ D.L.take i) → Q' v' ⟨σ.mem.set σ.next (.cells 1 [v1, v2]), σ.next + 1⟩) → ACall Try.prog 56 [.sl σ.next 0 2 2 true] ⟨σ.mem.set σ.next (.cells 1 [v1, v2]), σ.next + 1⟩ Q' := by
    intro v1 v2 h1 h2 Q' h'
    refine concat_c (N := 2) (vs := [v1, v2]) (ls := [D.L.drop i, D.L.take i]) (by omega) rfl (by simp) (by simp) ⟨h1, h2, trivial⟩ (by simp [cat]; omega) Q' fun v' hv' => h' v' ?_
    simpa [cat] using hv'
  rcases hlv with ⟨rfl, h0, _⟩ | ⟨lb, c, vals, _, rfl, g1, g2, g3, g3b, g4, g4b, g5, g6, g7, g8, g9⟩
  · have hi0 : i = 0 := by rw [h0] at hil; simpa using hil
    simp [lk_cons, hi0, optM, asliceSl, bnd, fillL, repL, storeL, hh]
    refine cc .nilsl .nilsl (.inl (.inl ⟨rfl, by simp [h0]⟩)) (.inl (.inl ⟨rfl, by simp [h0]⟩)) _ fun v' hv' => ?_
    simp [lk_cons]
    exact ⟨hup _ _ hv', fun a ha => by simp [show ¬ a = σ.next by omega], hQ v' hv'⟩
  · have f1 : ¬ lb = σ.next := by omega
    have k1 : i ≤ c := by omega
    have k2 : D.L.length ≤ vals.length := by omega
    have k3 : i ≤ vals.length := by omega
    simp [lk_cons, optM, asliceSl, bnd, fillL, repL, storeL, hh, hil, g9, f1, g1, k1, k2, k3, g3]
    refine cc _ _ ?_ ?_ _ fun v' hv' => ?_
    · exact tail_um (σ := σ) rfl hil g3 g1 g4 (by simp; omega) (by simp [f1, g9])
    · exact head_um (σ := σ) hil g3 g1 k1 g4 (by simp; omega) (by simp [f1, g9])
    simp [lk_cons]
    exact ⟨hup _ _ hv', fun a ha => by simp [show ¬ a = σ.next by omega], hQ v' hv'⟩

theorem idxN_le : ∀ (l : List Nat) (n : Nat), ∃ i : Nat, idxN l n + 1 = i ∧ i ≤ l.length := fun l n => by
  simp only [idxN]
  cases h : l.findIdx? fun x => decide (x = n) with
  | none => exact ⟨0, rfl, Nat.zero_le _⟩
  | some i =>
    have := (List.findIdx?_eq_some_iff_getElem.1 h).1
    exact ⟨i + 1, by simp, this⟩
def mayL (D : Dk) (key : ByteArray) (l : List Nat) : Prop :=
  D.kind = 3 ∧ (∃ i : Nat, idxN D.L D.last + 1 = i ∧ i ≤ D.L.length ∧ l = D.L.drop i ++ D.L.take i) ∨ D.kind = 4 ∧ (∃ c, keepsK D key c ∧ l = [c]) ∨ D.kind ≠ 3 ∧ D.kind ≠ 4 ∧ l = D.L.take 1
theorem may_c {σ : St} {w : Own} {D : Dk} (h : DR σ w D) (hL : D.L.length ≤ 12) (hl : D.O.length ≤ 10000) (key : ByteArray) (hk : key.size ≤ 100000) (Q : AVal → St → Prop) (hQ : ∀ v l σ', mayL D key l → UM σ' v l → Grow σ σ' → Q v σ') :
    ACall Try.prog 30 [.ptr w.d 0, .str key] σ Q := by
  refine ACall.of_compF hmx (fun a w => Try.call30 a w) Try.func30 cf30 (n := 2) (by decide) rfl ?_
  obtain ⟨⟨lv, hh, hlv⟩, hpm, hom, hne, hlt⟩ := id h
  have hum := hlv.um
  have l1 := hum.len
  by_cases h3 : D.kind = 3
  · have h3' : (D.kind : Int) = 3 := by omega
    simp [ac30, rs30, lk_cons, hh, h3, h3']
    obtain ⟨i, i1, i2⟩ := idxN_le D.L D.last
    refine turn18_c h (by omega) i i1 i2 _ fun v hv => ?_
    simp [lk_cons]
    exact hQ v _ σ (.inl ⟨h3, i, i1, i2, rfl⟩) (.inl hv) (Grow.refl _)
  by_cases h4 : D.kind = 4
  · have h4' : (D.kind : Int) = 4 := by omega
    simp [ac30, rs30, lk_cons, hh, h4, h4']
    refine keeper_c h hL hl key hk _ fun c hc => ?_
    simp [lk_cons, fillL, repL, storeL]
    exact hQ _ [c] _ (.inr (.inl ⟨h4, c, hc, rfl⟩)) (.inr ⟨σ.next, 0, 1, true, [u64 (c : Int)], rfl, Nat.le_refl _, by simp, by simp, by simp, by simp [uc]⟩) ⟨by simp, fun a ha => by simp [show ¬ a = σ.next by omega]⟩
  · have h3' : ¬ (D.kind : Int) = 3 := by omega
    have h4' : ¬ (D.kind : Int) = 4 := by omega
    rcases hlv with ⟨rfl, h0, _⟩ | ⟨lb, c, vals, _, rfl, g1, g2, g3, g3b, g4, g4b, g5, g6, g7, g8, g9⟩
    · simp [ac30, rs30, lk_cons, hh, h3, h4, h3', h4', optM, asliceSl, bnd]
      exact hQ _ [] _ (.inr (.inr ⟨h3, h4, by rw [h0]; rfl⟩)) (.inl (.inl ⟨rfl, rfl⟩)) (Grow.refl _)
    · obtain ⟨m, hm, hm2⟩ : ∃ m : Nat, (if (D.L.length : Int) < 1 then (D.L.length : Int) else 1) = m ∧ m = min 1 D.L.length := by
        refine ⟨min 1 D.L.length, ?_, rfl⟩
        split <;> omega
      have k1 : m ≤ c := by omega
      have k3 : m ≤ vals.length := by omega
      simp [ac30, rs30, lk_cons, hh, h3, h4, h3', h4', optM, asliceSl, bnd, hm, g9, k1, k3, g3]
      refine hQ _ (D.L.take 1) _ (.inr (.inr ⟨h3, h4, rfl⟩)) ?_ (Grow.refl _)
      have ht : D.L.take 1 = D.L.take m := by
        rw [hm2]
        by_cases h0 : D.L.length = 0
        · rw [List.length_eq_zero_iff.1 h0]; simp
        · rw [Nat.min_eq_left (by omega)]
      rw [ht]
      exact head_um (σ := σ) (by omega) g3 g1 k1 g4 g5 g9
end Go.Proofs.Ytiikaajopgjliaa.AM

/- A desk: Offer. -/
namespace Go.Proofs.Ytiikaajopgjliaa.AM
set_option maxRecDepth 100000
set_option linter.unusedVariables false
set_option linter.unusedSimpArgs false

theorem Grow.trans {a b c : St} (h : Grow a b) (k : Grow b c) : Grow a c := ⟨Nat.le_trans h.1 k.1, fun x hx => (k.2 x (Nat.lt_of_lt_of_le hx h.1)).trans (h.2 x hx)⟩
def OfJ (w : Own) (D : Dk) (key : ByteArray) (pb : Nat) (v : AVal) (ls : List Nat) (σ1 : St) (mm : Nat) (rg : Regs) (σ' : St) : Prop := ∃ i : Nat, mm = ls.length - i ∧ i ≤ ls.length ∧ (∀ y ∈ ls.take i, ¬ 0 < tk D.T y) ∧ σ' = σ1 ∧ rg = [(0, .ptr w.d 0), (2, .str key), (4, .ptr pb 0), (32, v), (33, i64 ls.length), (34, i64 i)]
set_option maxHeartbeats 1000000 in
theorem offer18_c {σ : St} {w : Own} {D : Dk} (h : DR σ w D) (hL : D.L.length ≤ 12) (hl : D.O.length ≤ 10000) (hT : Per D.T) (l e : Nat) (key : ByteArray) (hk : key.size ≤ 100000) (Q : AVal → St → Prop)
    (h1 : ∀ σ', (∃ x ∈ D.O, x.l = l ∧ x.e = e) → Grow σ σ' → Q (.tup [u64 0, i64 62]) σ')
    (h2 : ∀ σ', 256 ≤ D.O.length → (∀ x ∈ D.O, ¬ (x.l = l ∧ x.e = e)) → Grow σ σ' → Q (.tup [u64 0, i64 14]) σ')
    (h3 : ∀ (σ' : St) (ls : List Nat) (i c : Nat), D.O.length < 256 → (∀ x ∈ D.O, ¬ (x.l = l ∧ x.e = e)) → mayL D key ls → ls[i]? = some c → (∀ y ∈ ls.take i, ¬ 0 < tk D.T y) → 0 < tk D.T c → DR σ' w { D with T := setN D.T c (tk D.T c - 1), O := D.O ++ [⟨l, e, c, key⟩], last := c } → Stp w w σ σ' → Q (.tup [u64 (c : Int), i64 0]) σ')
    (h4 : ∀ σ' ls, D.O.length < 256 → (∀ x ∈ D.O, ¬ (x.l = l ∧ x.e = e)) → mayL D key ls → (∀ y ∈ ls, ¬ 0 < tk D.T y) → Grow σ σ' → Q (.tup [u64 0, i64 60]) σ') :
    ACall Try.prog 14 [.ptr w.d 0, ps (l : Int) (e : Int), .str key] σ Q := by
  refine ACall.of_compF hmx (fun a w => Try.call14 a w) Try.func14 cf14 (n := 3) (by decide) rfl ?_
  obtain ⟨⟨lv, hh, hlv⟩, ⟨cp, ep, hp1, hp2, hp3, hp4⟩, ⟨co, eo, ho1, ho2, ho3, ho4⟩, hne, hlt⟩ := id h
  have e1 : ¬ w.d = σ.next := by omega
  have e2 : ¬ w.d = σ.next + 1 := by omega
  have e3 : ¬ w.om = σ.next := by omega
  have e4 : ¬ w.om = σ.next + 1 := by omega
  have e5 : ¬ σ.next = σ.next + 1 := by omega
  have e6 : ¬ w.pm = σ.next := by omega
  have e7 : ¬ w.pm = σ.next + 1 := by omega
  have hlen := ho2.len
  have hg : ∀ (A B C : Blk), Grow σ ⟨((σ.mem.set σ.next A).set (σ.next + 1) B).set (σ.next + 1) C, σ.next + 1 + 1⟩ := fun A B C => ⟨by simp; omega, fun a ha => by simp [show ¬ a = σ.next by omega, show ¬ a = σ.next + 1 by omega]⟩
  rcases findO l e ho2 with ⟨f1, f2⟩ | ⟨i, x, f1, f2, f3, f4, f5⟩
  · by_cases hfull : 256 ≤ D.O.length
    · have k1 : (256 : Int) ≤ (eo.length : Int) := by omega
      have k2 : 256 ≤ eo.length := by omega
      simp [ac14, rs14, lk_cons, hh, ho1, f1, keyIs, shapeOk, kShape, storeL, e1, e2, e3, e4, e5, k1, k2]
      exact h2 _ hfull f2 (hg _ _ _)
    · have k1 : ¬ (256 : Int) ≤ (eo.length : Int) := by omega
      have k2 : ¬ 256 ≤ eo.length := by omega
      simp [ac14, rs14, lk_cons, hh, ho1, f1, keyIs, shapeOk, kShape, storeL, e1, e2, e3, e4, e5, k1, k2]
      refine may_c (D := D) (h.frame (hg _ _ _)) hL hl key hk _ fun v ls σ1 m1 m2 m3 => ?_
      have m4 : Grow σ σ1 := Grow.trans (hg _ _ _) m3
      have l1 := m2.len
      have mb : σ1.mem.get σ.next = some (.cells 2 [u64 (l : Int), u64 (e : Int)]) := by
        rw [m3.2 _ (by simp; omega)]
        simp [e5]
      have md := (m4.2 _ hlt.1).trans hh
      have mp := (m4.2 _ hlt.2.1).trans hp1
      have mo := (m4.2 _ hlt.2.2).trans ho1
      have ll : ls.length ≤ 1000 := by
        rcases m1 with ⟨_, i, _, hi, rfl⟩ | ⟨_, c, _, rfl⟩ | ⟨_, _, rfl⟩ <;> simp <;> omega
      simp [lk_cons, ↓l1]
      refine wp_loop (OfJ w D key σ.next v ls σ1) ls.length ?_ ?_
      · exact ⟨0, rfl, Nat.zero_le _, fun y hy => by simp at hy, rfl, rfl⟩
      · rintro mm rg σ2 ⟨i, rfl, hi, g0, rfl, rfl⟩
        by_cases hlt2 : i < ls.length
        · obtain ⟨c, hc⟩ : ∃ c, ls[i]? = some c := ⟨_, List.getElem?_eq_getElem hlt2⟩
          obtain ⟨k, hk⟩ : ∃ k, i + 1 = k := ⟨_, rfl⟩
          have w1 : IntKind.i64.wrap ((i : Int) + 1) = (k : Int) := by rw [IntWalk.i64_in] <;> omega
          obtain ⟨q, q1, q2⟩ := m2.at hc (ρ := σ2) (fun _ _ => rfl)
          have ht := hT c
          have again : ¬ 0 < tk D.T c → ∃ m', m' < ls.length - i ∧ OfJ w D key σ.next v ls σ2 m' [(0, .ptr w.d 0), (2, .str key), (4, .ptr σ.next 0), (32, v), (33, i64 ls.length), (34, i64 k)] σ2 := fun h0 => by
            refine ⟨ls.length - k, by omega, k, rfl, by omega, fun y hy => ?_, rfl, rfl⟩
            rw [← hk, List.take_add_one, hc] at hy
            rcases List.mem_append.1 hy with hy | hy
            · exact g0 y hy
            · rw [List.mem_singleton.1 hy]; exact h0
          rcases MapN.put hp2 hp3 hp4 c (tk D.T c - 1) with ⟨p1, p2, p3⟩ | ⟨j, x, p1, p2, p3⟩
          · have hz : ¬ 0 < tk D.T c := by simp [tk, p2]
            simp [lk_cons, hlt2, ↓q1, ↓q2, md, mp, p1, keyIs, shapeOk, kShape, w1]
            exact again hz
          · have hx : tk D.T c = x := by simp [tk, p2]
            by_cases hpos : 0 < x
            · have w2 : IntKind.i64.wrap (x - 1) = x - 1 := by rw [IntWalk.i64_in] <;> omega
              simp [lk_cons, hlt2, ↓q1, ↓q2, md, mp, mo, mb, p1, keyIs, shapeOk, kShape, iV, hpos, w2, f1, fillL, repL, storeL, hne.1, hne.2.1, hne.2.2, Ne.symm hne.1, Ne.symm hne.2.1, Ne.symm hne.2.2, Ne.symm e1, Ne.symm e3, Ne.symm e6]
              have nlb : ∀ a, w.lb = some a → a ≠ w.d ∧ a ≠ w.pm ∧ a ≠ w.om := fun a e => by
                rcases hlv with ⟨_, _, h0⟩ | ⟨lb, _, _, h0, _, _, _, _, _, _, _, _, h7, h8, h9, _⟩
                · rw [h0] at e; cases e
                · rw [h0] at e; cases e; exact ⟨h7, h8, h9⟩
              refine h3 _ ls i c (by omega) f2 m1 hc g0 (by rw [hx]; exact hpos) ⟨⟨lv, by simp, hlv.frame m4.1 fun a ha hb => ?_⟩, ?_, ⟨co + 1, eo ++ [(co, ps (l : Int) (e : Int), .agg (orow ⟨l, e, c, key⟩))], by simp [Ne.symm hne.2.1], All2.snoc (R := EO) ⟨rfl, rfl⟩ ho2, ?_, ?_⟩, hne, by have := m4.1; show _ < σ2.next ∧ _ < σ2.next ∧ _ < σ2.next; omega⟩ ⟨rfl, rfl, rfl, fun _ h => .inl h, m4.1, fun a ha hn => ?_⟩
              · obtain ⟨n1, n2, n3⟩ := nlb a hb
                simp [n1, n2, n3]
                exact m4.2 a ha
              · exact p3 _ _ (by simp [iV, hne.1, hne.2.2, Ne.symm hne.1, Ne.symm hne.2.2, hx])
              · intro y hy
                rcases List.mem_append.1 hy with hy | hy
                · have := ho3 y hy; omega
                · rw [List.mem_singleton.1 hy]; exact Nat.lt_succ_self _
              · rw [List.map_append, List.nodup_append]
                refine ⟨ho4, by simp, fun a ha b hb e => ?_⟩
                simp at hb
                obtain ⟨y, hy1, hy2⟩ := List.mem_map.1 ha
                have := ho3 y hy1
                omega
              · have n1 : ¬ a = w.d := fun e => hn (.inl e)
                have n2 : ¬ a = w.pm := fun e => hn (.inr (.inl e))
                have n3 : ¬ a = w.om := fun e => hn (.inr (.inr (.inl e)))
                simp [n1, n2, n3]
                exact m4.2 a ha
            · simp [lk_cons, hlt2, ↓q1, ↓q2, md, mp, p1, keyIs, shapeOk, kShape, w1, iV, hpos]
              exact again (by rw [hx]; exact hpos)
        · have : i = ls.length := by omega
          subst this
          rw [List.take_length] at g0
          simp [lk_cons]
          exact h4 _ ls (by omega) f2 m1 g0 m4
  · simp [ac14, rs14, lk_cons, hh, ho1, f1, keyIs, shapeOk, kShape, storeL, e1, e2, e3, e4, e5]
    exact h1 _ ⟨x, List.mem_of_getElem? f2, f3, f4⟩ (hg _ _ _)
end Go.Proofs.Ytiikaajopgjliaa.AM

/- A desk: a list without a consumer; a map without an entry. -/
namespace Go.Proofs.Ytiikaajopgjliaa.AM
set_option maxRecDepth 100000
set_option linter.unusedVariables false
set_option linter.unusedSimpArgs false

def delN {β : Type} : List (Nat × β) → Nat → List (Nat × β)
  | [], _ => []
  | (k, x) :: T, n => if n = k then T else (k, x) :: delN T n
theorem delN_none {β : Type} {k : Nat} : ∀ {T : List (Nat × β)}, lkN T k = none → delN T k = T
  | [], _ => rfl
  | (n, x) :: T, h => by
    simp only [lkN] at h
    by_cases hk : k = n
    · rw [if_pos hk] at h; cases h
    · rw [if_neg hk] at h
      simp only [delN]
      rw [if_neg hk, delN_none h]
theorem dropN {β : Type} {f : β → AVal} {k : Nat} : ∀ {ents : List Entry} {T : List (Nat × β)}, All2 (EN f) ents T → (findA (u64 (k : Int)) ents = some none ∧ delN T k = T) ∨ ∃ i x, findA (u64 (k : Int)) ents = some (some (i, f x)) ∧ All2 (EN f) (ents.eraseIdx i) (delN T k)
  | [], [], _ => .inl ⟨rfl, rfl⟩
  | (st, y, d) :: ents, (n, x) :: T, h => by
    obtain ⟨⟨hy, hd⟩, ht⟩ := h
    simp only at hy hd
    subst hy hd
    by_cases hnk : k = n
    · subst hnk
      refine .inr ⟨0, x, by simp [findA, keyEqA, keyEq], ?_⟩
      simp only [List.eraseIdx_zero, List.tail_cons, delN, if_true]
      exact ht
    · have hkn : ¬ (k : Int) = (n : Int) := by omega
      have hf : keyEqA (u64 (k : Int)) (u64 (n : Int)) = some false := by simp [keyEqA, keyEq, hkn]
      rcases dropN (k := k) ht with ⟨h1, h2⟩ | ⟨i, x1, h1, h3⟩
      · exact .inl ⟨by simp only [findA]; rw [hf]; simp only; rw [h1]; rfl, by simp [delN, hnk, h2]⟩
      · refine .inr ⟨i + 1, x1, by simp only [findA]; rw [hf]; simp only; rw [h1]; rfl, ?_⟩
        simp only [List.eraseIdx_cons_succ, delN, if_neg hnk]
        exact ⟨⟨rfl, rfl⟩, h3⟩
  | [], _ :: _, h => h.elim
  | _ :: _, [], h => h.elim
theorem MapN.drop {β : Type} {f : β → AVal} {clock : Nat} {ents : List Entry} {T : List (Nat × β)} (ha : All2 (EN f) ents T) (hs : ∀ e ∈ ents, e.1 < clock) (hd : (ents.map (·.1)).Nodup) (k : Nat) :
    (findA (u64 (k : Int)) ents = some none ∧ delN T k = T) ∨
    ∃ i x, findA (u64 (k : Int)) ents = some (some (i, f x)) ∧ ∀ (σ : St) (mp : Nat), σ.mem.get mp = some (.map clock (ents.eraseIdx i)) → MapN f σ mp (delN T k) := by
  rcases dropN (k := k) ha with h | ⟨i, x, f1, f2⟩
  · exact .inl h
  · refine .inr ⟨i, x, f1, fun σ mp hm => ⟨_, _, hm, f2, fun e he => hs e (List.mem_of_mem_eraseIdx he), hd.sublist ((List.eraseIdx_sublist _ _).map _)⟩⟩

theorem OI.len {v : AVal} {l : List OutR} (h : OI v l) (ρ : St) : evalV ρ (.len 1 v) = some (i64 l.length, ρ) := by
  rcases h with ⟨rfl, rfl⟩ | ⟨t, rfl⟩ <;> simp
theorem oc_at {l : List OutR} {i : Nat} {x : OutR} (h : l[i]? = some x) : ((oc l).drop (i * 4)).take 4 = orow x := by
  induction l generalizing i with
  | nil => simp at h
  | cons y l ih =>
    cases i with
    | zero => simp at h; subst h; simp [oc]
    | succ i =>
      have := ih (by simpa using h)
      simp only [oc, List.map_cons, List.flatten_cons] at this ⊢
      rw [show (i + 1) * 4 = i * 4 + 4 by omega]
      simpa using this
theorem OI.at {v : AVal} {l : List OutR} (hv : OI v l) {i : Nat} {x : OutR} (hx : l[i]? = some x) (ρ : St) :
    evalV ρ (.idxAddr 4 v (i64 i)) = some (.iptr (orow x), ρ) := by
  have hi := (List.getElem?_eq_some_iff.1 hx).1
  rcases hv with ⟨_, rfl⟩ | ⟨t, rfl⟩
  · simp at hx
  · have := oc_at hx
    simp [hi, this]
theorem OI.one {v : AVal} {l : List OutR} (h : OI v l) : v.one = true ∧ cellsOf v = [v] := by
  rcases h with ⟨rfl, _⟩ | ⟨t, rfl⟩ <;> simp

theorem same42_c {σ : St} {cb : Nat} {c x : Nat} (hm : σ.mem.get cb = some (.cells 1 [u64 (c : Int)])) (Q : AVal → St → Prop) (h : Q (.bool (decide (x = c))) σ) : ACall Try.prog 42 [u64 (x : Int), .ptr cb 0] σ Q := by
  refine ACall.of_compF hmx (fun a w => Try.call42 a w) Try.func42 cf42 (n := 2) (by decide) rfl ?_
  by_cases hx : x = c
  · subst hx
    simp [ac42, rs42, lk_cons, hm]
    simpa using h
  · have hx' : ¬ (x : Int) = c := by omega
    simp [ac42, rs42, lk_cons, hm, hx']
    simpa [hx] using h
def IdF (v fv : AVal) (n : Nat) (l : List Nat) (σ0 : St) (mm : Nat) (rg : Regs) (σ' : St) : Prop := ∃ i : Nat, mm = l.length - i ∧ i ≤ l.length ∧ (∀ x ∈ l.take i, x ≠ n) ∧ σ' = σ0 ∧ rg = [(0, v), (1, fv), (7, i64 l.length), (8, i64 i)]
theorem idxf_c {σ : St} {v : AVal} {l : List Nat} (hv : UM σ v l) (hl : l.length ≤ 1000000) {cb n : Nat} (hm : σ.mem.get cb = some (.cells 1 [u64 (n : Int)])) (Q : AVal → St → Prop) (h : Q (i64 (idxN l n)) σ) : ACall Try.prog 54 [v, .fn 42 [] [.ptr cb 0]] σ Q := by
  refine ACall.of_compF hmx (fun a w => Try.call54 a w) Try.func54 cf54 (n := 2) (by decide) rfl ?_
  have l1 := hv.len
  simp [ac54, rs54, lk_cons, ↓l1]
  refine wp_loop (IdF v (.fn 42 [] [.ptr cb 0]) n l σ) l.length ?_ ?_
  · exact ⟨0, rfl, Nat.zero_le _, by simp, rfl, rfl⟩
  · rintro mm rg σ' ⟨i, rfl, hi, hp, rfl, rfl⟩
    by_cases hlt : i < l.length
    · obtain ⟨x, hx⟩ : ∃ x, l[i]? = some x := ⟨_, List.getElem?_eq_getElem hlt⟩
      obtain ⟨k, hk⟩ : ∃ k, i + 1 = k := ⟨_, rfl⟩
      have w1 : IntKind.i64.wrap ((i : Int) + 1) = (k : Int) := by rw [IntWalk.i64_in] <;> omega
      obtain ⟨p, p1, p2⟩ := hv.at hx (ρ := σ') fun _ _ => rfl
      simp [lk_cons, hlt, ↓p1, ↓p2]
      refine same42_c hm _ ?_
      by_cases hxn : x = n
      · have := idxN_some (l := l) (n := n) (i := i) (hxn ▸ hx) hp
        rw [this] at h
        simp [lk_cons, hxn]
        exact h
      · simp [lk_cons, hxn, w1]
        refine ⟨l.length - k, by omega, k, rfl, by omega, fun y hy => ?_, rfl, rfl⟩
        rw [← hk, List.take_add_one, hx] at hy
        rcases List.mem_append.1 hy with hy | hy
        · exact hp y hy
        · simp at hy; subst hy; exact hxn
    · have : i = l.length := by omega
      subst this
      rw [List.take_length] at hp
      rw [idxN_none hp] at h
      simp [lk_cons]
      exact h

abbrev rmv (L : List Nat) (c : Nat) : List Nat := L.filter fun x => decide (x ≠ c)
theorem idxN_at {L : List Nat} {c k : Nat} (h : idxN L c = k) : rmv (L.take (k + 1)) c = L.take k := by
  have hf : L.findIdx? (fun x => decide (x = c)) = some k := by
    simp only [idxN] at h
    split at h
    · rename_i i hi; rw [hi]; congr 1; omega
    · omega
  obtain ⟨h1, h2, h3⟩ := List.findIdx?_eq_some_iff_getElem.1 hf
  rw [List.take_succ_eq_append_getElem h1, rmv, List.filter_append]
  have e1 : L[k] = c := by simpa using h2
  rw [List.filter_eq_self.2 fun x hx => ?_]
  · simp [e1]
  · obtain ⟨j, hj, rfl⟩ := List.mem_iff_getElem.1 hx
    rw [List.length_take] at hj
    have := h3 j (by omega)
    simpa using this
theorem uc_take (l : List Nat) (n : Nat) : (uc l).take n = uc (l.take n) := by simp [uc]
theorem take_storeL : ∀ (ys l : List AVal) (i : Nat), (storeL l i ys).take i = l.take i
  | [], l, i => rfl
  | y :: ys, l, i => by
    simp only [storeL]
    have h := congrArg (List.take i) (take_storeL ys (l.set i y) (i + 1))
    rw [List.take_take, List.take_take, Nat.min_eq_left (by omega)] at h
    rw [h, List.take_set_of_le (Nat.le_refl _)]
theorem mem_storeL {v : AVal} : ∀ {ys l : List AVal} {i : Nat}, v ∈ storeL l i ys → v ∈ l ∨ v ∈ ys
  | [], l, i, h => .inl h
  | y :: ys, l, i, h => by
    rcases mem_storeL (ys := ys) h with h | h
    · rcases List.mem_or_eq_of_mem_set h with h | h
      · exact .inl h
      · exact .inr (by rw [h]; exact List.mem_cons_self)
    · exact .inr (List.mem_cons_of_mem _ h)
theorem mem_repL {v x : AVal} {n : Nat} (h : v ∈ repL n [x]) : v = x := by
  simp only [repL, List.mem_flatten] at h
  obtain ⟨l, h1, h2⟩ := h
  rw [List.eq_of_mem_replicate h1] at h2
  exact List.mem_singleton.1 h2
def AtV (a : Nat) (vals : List AVal) (σ0 σ' : St) : Prop := σ'.next = σ0.next ∧ σ'.mem.get a = some (.cells 1 vals) ∧ ∀ x, x ≠ a → σ'.mem.get x = σ0.mem.get x
def DlJ (lb cap cb c : Nat) (t : Bool) (L : List Nat) (σ0 : St) (mm : Nat) (rg : Regs) (σ' : St) : Prop := ∃ (i j : Nat) (vals : List AVal), mm = L.length - j ∧ i < j ∧ j ≤ L.length ∧ vals.length = cap ∧ (∀ v ∈ vals, v.one = true) ∧ i = (rmv (L.take j) c).length ∧ vals.take i = uc (rmv (L.take j) c) ∧ (∀ p, j ≤ p → p < L.length → vals[p]? = (uc L)[p]?) ∧
  AtV lb vals σ0 σ' ∧ rg = [(0, .sl lb 0 L.length cap t), (1, .fn 42 [] [.ptr cb 0]), (5, i64 i), (6, i64 j)]
theorem del41_c {σ : St} {lb cap cb c : Nat} {t : Bool} {vals : List AVal} {L : List Nat} (h1 : L.length ≤ cap) (h2 : vals.length = cap) (hcap : cap ≤ 100000) (h3 : vals.take L.length = uc L) (h4 : ∀ v ∈ vals, v.one = true) (hb : lb < σ.next) (hm : σ.mem.get lb = some (.cells 1 vals)) (hcb : σ.mem.get cb = some (.cells 1 [u64 (c : Int)])) (hne : cb ≠ lb) (hc : c ∈ L) (Q : AVal → St → Prop)
    (hQ : ∀ vals' σ', vals'.length = cap → vals'.take (rmv L c).length = uc (rmv L c) → (∀ v ∈ vals', v.one = true) → AtV lb vals' σ σ' → Q (.sl lb 0 (rmv L c).length cap t) σ') : ACall Try.prog 41 [.sl lb 0 L.length cap t, .fn 42 [] [.ptr cb 0]] σ Q := by
  refine ACall.of_compF hmx (fun a w => Try.call41 a w) Try.func41 cf41 (n := 2) (by decide) rfl ?_
  have hum : UM σ (.sl lb 0 L.length cap t) L := .inr ⟨lb, 0, cap, t, vals, rfl, h1, hb, hm, by omega, by simpa using h3⟩
  obtain ⟨k, hk, hkl⟩ : ∃ k : Nat, idxN L c = k ∧ k < L.length := by
    simp only [idxN]
    cases h : L.findIdx? fun x => decide (x = c) with
    | none =>
      simp only [List.findIdx?_eq_none_iff] at h
      have := h c hc
      simp at this
    | some i => exact ⟨i, rfl, (List.findIdx?_eq_some_iff_getElem.1 h).1⟩
  have w0 : IntKind.i64.wrap ((k : Int) + 1) = ((k + 1 : Nat) : Int) := by rw [IntWalk.i64_in] <;> omega
  have n1 : ¬ (k : Int) = -1 := by omega
  simp [ac41, rs41, lk_cons]
  refine idxf_c hum (by omega) hcb _ ?_
  simp [lk_cons, hk, n1, w0]
  refine wp_loop (DlJ lb cap cb c t L σ) (L.length - (k + 1)) ?_ ?_
  · have hk2 := idxN_at hk
    refine ⟨k, k + 1, vals, rfl, by omega, by omega, h2, h4, ?_, ?_, fun p hp hp2 => ?_, ⟨rfl, hm, fun _ _ => rfl⟩, rfl⟩
    · rw [hk2, List.length_take]; omega
    · rw [hk2, ← uc_take, ← h3, List.take_take, Nat.min_eq_left (by omega)]
    · rw [← h3, List.getElem?_take, if_pos hp2]
  · rintro mm rg σ' ⟨i, j, vals, rfl, hij, hj, g1, g2, g3, g4, g5, ⟨a1, a2, a3⟩, rfl⟩
    by_cases hlt : j < L.length
    · obtain ⟨x, hx⟩ : ∃ x, L[j]? = some x := ⟨_, List.getElem?_eq_getElem hlt⟩
      obtain ⟨k, hk⟩ : ∃ k, j + 1 = k := ⟨_, rfl⟩
      have w1 : IntKind.i64.wrap ((j : Int) + 1) = (k : Int) := by rw [IntWalk.i64_in] <;> omega
      have vx : vals[j]? = some (u64 (x : Int)) := by rw [g5 j (Nat.le_refl _) hlt]; exact uc_get hx
      have htk : L.take k = L.take j ++ [x] := by rw [← hk, List.take_add_one, hx]; rfl
      have ij : i < L.length := by omega
      simp [lk_cons, hlt, vx, a2]
      refine same42_c (c := c) (by rw [a3 _ hne]; exact hcb) _ ?_
      by_cases hxc : x = c
      · simp [lk_cons, hxc, w1]
        have e : rmv (L.take k) c = rmv (L.take j) c := by rw [htk, rmv, List.filter_append]; simp [rmv, hxc]
        exact ⟨L.length - k, by omega, i, k, vals, rfl, by omega, by omega, g1, g2, by rw [e]; exact g3, by rw [e]; exact g4, fun p hp => g5 p (by omega), ⟨a1, a2, a3⟩, rfl⟩
      · have w2 : IntKind.i64.wrap ((i : Int) + 1) = ((i + 1 : Nat) : Int) := by rw [IntWalk.i64_in] <;> omega
        have iv : i < vals.length := by omega
        have iv' : i + 1 ≤ vals.length := by omega
        simp [lk_cons, hxc, w1, ij, storeL, w2, a2, iv, iv', vx]
        have e : rmv (L.take k) c = rmv (L.take j) c ++ [x] := by rw [htk, rmv, List.filter_append]; simp [rmv, hxc]
        refine ⟨L.length - k, by omega, i + 1, k, vals.set i (u64 (x : Int)), rfl, by omega, by omega, by simpa using g1, fun v hv => ?_, by rw [e, List.length_append, ← g3]; rfl, ?_, fun p hp hp2 => ?_, ⟨a1, by simp, fun y hy => by simp [hy]; exact a3 y hy⟩, rfl⟩
        · rcases List.mem_or_eq_of_mem_set hv with hv | hv
          · exact g2 v hv
          · rw [hv]; rfl
        · rw [List.take_succ_eq_append_getElem (by rw [List.length_set]; exact iv), List.take_set_of_le (Nat.le_refl _), g4, e, uc_app]
          simp [uc]
        · rw [List.getElem?_set, if_neg (by omega)]
          exact g5 p (by omega) hp2
    · have : j = L.length := by omega
      subst this
      rw [List.take_length] at g3 g4
      have q1 : i ≤ L.length := by omega
      have q2 : i ≤ cap := by omega
      have q3 : L.length ≤ vals.length := by omega
      have q4 : i ≤ vals.length := by omega
      have q5 : ¬ L.length - i = 0 := by omega
      have q6 : i + (L.length - i) ≤ vals.length := by omega
      have q7 : L.length ≤ cap := h1
      simp [lk_cons, optM, asliceSl, bnd, ← g3, a2, g1, q1, q2, q3, q4, q5, q6, q7]
      have g4' : vals.take (rmv L c).length = uc (rmv L c) := by rw [← g3]; exact g4
      rw [g3]
      refine hQ (storeL vals (rmv L c).length (repL (L.length - (rmv L c).length) [.int .u64 0])) _ (by rw [length_storeL]; exact g1) (by rw [take_storeL, g4']) (fun v hv => ?_) ⟨a1, by simp, fun y hy => by simp [hy]; exact a3 y hy⟩
      rcases mem_storeL hv with hv | hv
      · exact g2 v hv
      · rw [mem_repL hv]; rfl
end Go.Proofs.Ytiikaajopgjliaa.AM

/- A desk: Leave. -/
namespace Go.Proofs.Ytiikaajopgjliaa.AM
set_option maxRecDepth 100000
set_option linter.unusedVariables false
set_option linter.unusedSimpArgs false

abbrev his (l : List OutR) (c : Nat) : List OutR := l.filter fun x => decide (x.c = c)
abbrev notHis (l : List OutR) (c : Nat) : List OutR := l.filter fun x => decide (x.c ≠ c)
def okey (x : OutR) : Nat × Nat := (x.l, x.e)
def KO (O : List OutR) : Prop := (O.map okey).Nodup
def LvJ (w : Own) (D : Dk) (c : Nat) (v : AVal) (ys : List OutR) (lp : Loop) (σ0 : St) (mm : Nat) (rg : Regs) (σ' : St) : Prop := ∃ (i : Nat) (O' : List OutR) (ov : AVal), mm = ys.length - i ∧ i ≤ ys.length ∧ σ'.mem.get (σ0.next + 1 + 1 + 1 + 1) = some (.loop lp) ∧ σ'.mem.get (σ0.next + 1 + 1) = some (.cells 1 [ov]) ∧ σ'.mem.get σ0.next = some (.cells 1 [.ptr w.d 0]) ∧ σ'.mem.get (σ0.next + 1) = some (.cells 1 [u64 (c : Int)]) ∧
  OSl (σ0.next + 1 + 1 + 1 + 1 + 1) σ' ov (his (ys.take i) c) ∧ DR σ' w { D with L := rmv D.L c, T := delN D.T c, O := O' } ∧ O'.Perm (notHis (ys.take i) c ++ ys.drop i) ∧ σ0.next + 1 + 1 + 1 + 1 + 1 ≤ σ'.next ∧ (∀ a, a < σ0.next → ¬ w.has a → σ'.mem.get a = σ0.mem.get a) ∧ rg = [(0, .yld (σ0.next + 1 + 1 + 1 + 1)), (5, v), (6, i64 ys.length), (7, i64 i)]
theorem nodup_inj {α β : Type} {f : α → β} : ∀ {l : List α}, (l.map f).Nodup → ∀ {a b : α}, a ∈ l → b ∈ l → f a = f b → a = b
  | [], _, _, _, h, _, _ => by cases h
  | x :: l, hn, a, b, ha, hb, e => by
    rw [List.map_cons, List.nodup_cons] at hn
    cases List.mem_cons.1 ha with
    | inl h1 =>
      cases List.mem_cons.1 hb with
      | inl h2 => rw [h1, h2]
      | inr h2 => exact absurd (List.mem_map.2 ⟨b, h2, by rw [← e, h1]⟩) hn.1
    | inr h1 =>
      cases List.mem_cons.1 hb with
      | inl h2 => exact absurd (List.mem_map.2 ⟨a, h1, by rw [e, h2]⟩) hn.1
      | inr h2 => exact nodup_inj hn.2 h1 h2 e
theorem cons_erase {α : Type} {x : α} : ∀ {O : List α} {j : Nat}, O[j]? = some x → O.Perm (x :: O.eraseIdx j)
  | [], _, h => by simp at h
  | y :: O, 0, h => by simp at h; subst h; simp
  | y :: O, j + 1, h => by
    have := cons_erase (O := O) (j := j) (by simpa using h)
    rw [List.eraseIdx_cons_succ]
    exact (this.cons y).trans (.swap _ _ _)
theorem perm_erase {α : Type} {O A B : List α} {j : Nat} {x : α} (h : O.Perm (A ++ x :: B)) (hj : O[j]? = some x) : (O.eraseIdx j).Perm (A ++ B) :=
  List.Perm.cons_inv (((cons_erase hj).symm.trans h).trans List.perm_middle)
theorem drop_at {α : Type} {l : List α} {i : Nat} {x : α} (h : l[i]? = some x) : l.drop i = x :: l.drop (i + 1) := by
  obtain ⟨hl, hx⟩ := List.getElem?_eq_some_iff.1 h
  rw [List.drop_eq_getElem_cons hl, hx]
set_option maxHeartbeats 1000000 in
theorem leave18_c {σ : St} {w : Own} {D : Dk} (h : DR σ w D) (hL : D.L.length ≤ 1000) (hl : D.O.length ≤ 10000) (hk : KO D.O) (c : Nat) (Q : AVal → St → Prop)
    (h1 : ∀ σ', c ∉ D.L → Grow σ σ' → Q (.tup [.nilsl, i64 61]) σ')
    (h2 : ∀ v ys O' σ', c ∈ D.L → ys.Perm D.O → Ris ys → O'.Perm (notHis D.O c) → OSl σ.next σ' v (his ys c) → DR σ' w { D with L := rmv D.L c, T := delN D.T c, O := O' } → Stp w w σ σ' → Q (.tup [v, i64 0]) σ') :
    ACall Try.prog 26 [.ptr w.d 0, u64 (c : Int)] σ Q := by
  refine ACall.of_compF hmx (fun a w => Try.call26 a w) Try.func26 cf26 (n := 2) (by decide) rfl ?_
  obtain ⟨⟨lv, hh, hlv⟩, ⟨cp, ep, hp1, hp2, hp3, hp4⟩, hom, hne, hlt⟩ := id h
  have hum := hlv.um
  have e1 : ¬ w.d = σ.next := by omega
  have e2 : ¬ w.d = σ.next + 1 := by omega
  have e3 : ¬ w.pm = σ.next := by omega
  have e4 : ¬ w.pm = σ.next + 1 := by omega
  have e5 : ¬ σ.next = σ.next + 1 := by omega
  have g2 : ∀ A B : Blk, Grow σ ⟨(σ.mem.set σ.next A).set (σ.next + 1) B, σ.next + 1 + 1⟩ := fun A B => ⟨by simp; omega, fun a ha => by simp [show ¬ a = σ.next by omega, show ¬ a = σ.next + 1 by omega]⟩
  simp [ac26, rs26, lk_cons, hh, e1, e2, e5]
  refine contains_c (hum.frame (by simp; omega) (g2 _ _).2) (by omega) c _ ?_
  by_cases hc : c ∈ D.L
  rotate_left
  · simp [lk_cons, hc]
    exact h1 _ hc (g2 _ _)
  rcases hlv with ⟨_, h0, _⟩ | ⟨lb, cap, vals, hlb, rfl, q1, q2, q3, q4, q5, q6, q7, q8, q9, q10, q11⟩
  · rw [h0] at hc; cases hc
  have e6 : ¬ lb = σ.next := by omega
  have e7 : ¬ lb = σ.next + 1 := by omega
  simp [lk_cons, hc, hh, e1, e2, e5]
  refine del41_c (c := c) (vals := vals) q1 q3 q4 q5 q6 (by simp; omega) (by simp [e6, e7, q11]) (by simp) (by omega) hc _ fun vals' σ1 p1 p2 p3 p4 => ?_
  obtain ⟨n1, n2, n3⟩ := p4
  simp at n1
  have m0 : σ1.mem.get σ.next = some (.cells 1 [.ptr w.d 0]) := by rw [n3 _ (by omega)]; simp [e5]
  have m1 : σ1.mem.get (σ.next + 1) = some (.cells 1 [u64 (c : Int)]) := by rw [n3 _ (by omega)]; simp
  have old : ∀ a, a < σ.next → a ≠ lb → σ1.mem.get a = σ.mem.get a := fun a ha hn => by rw [n3 _ hn]; exact (g2 _ _).2 a ha
  have md := (old _ hlt.1 (Ne.symm q8)).trans hh
  have mp := (old _ hlt.2.1 (Ne.symm q9)).trans hp1
  have e8 : ¬ σ.next = w.d := by omega
  have e9 : ¬ σ.next + 1 = w.d := by omega
  have e10 : ¬ w.pm = w.d := Ne.symm hne.1
  obtain ⟨ents', s1, s2⟩ : ∃ ents', (∀ S : St, S.mem.get w.pm = some (.map cp ep) → evalV S (.delete false [1] (.map w.pm) (u64 (c : Int))) = some (.tup [], ⟨S.mem.set w.pm (.map cp ents'), S.next⟩)) ∧ ∀ (σ : St) (mp : Nat), σ.mem.get mp = some (.map cp ents') → MapN iV σ mp (delN D.T c) := by
    rcases MapN.drop hp2 hp3 hp4 c with ⟨f1, f2⟩ | ⟨i, x, f1, f2⟩
    · exact ⟨ep, fun S hS => by simp [hS, f1, keyIs, shapeOk, kShape], fun σ mp hm => ⟨cp, ep, hm, by rw [f2]; exact hp2, hp3, hp4⟩⟩
    · exact ⟨ep.eraseIdx i, fun S hS => by simp [hS, f1, keyIs, shapeOk, kShape], f2⟩
  have s3 := s1 ⟨σ1.mem.set w.d (.cells 5 [.int .u8 (D.kind : Int), .sl lb 0 (rmv D.L c).length cap false, .map w.pm, .map w.om, u64 (D.last : Int)]), σ.next + 1 + 1⟩ (by simp [e10, mp])
  have e11 : ¬ σ.next = σ.next + 1 + 1 := by omega
  have e12 : ¬ σ.next = w.pm := Ne.symm e3
  have e13 : ¬ σ.next + 1 = w.pm := Ne.symm e4
  have e14 : ¬ w.pm = σ.next + 1 + 1 := by omega
  have e15 : ¬ w.d = σ.next + 1 + 1 := by omega
  have e16 : ¬ w.om = σ.next + 1 + 1 := by omega
  simp [lk_cons, md, m0, m1, storeL, e8, e9, ↓s3, n1, e11, e12]
  have dr : ∀ S : St, σ.next + 1 + 1 + 1 ≤ S.next → S.mem.get w.d = some (.cells 5 [.int .u8 (D.kind : Int), .sl lb 0 (rmv D.L c).length cap false, .map w.pm, .map w.om, u64 (D.last : Int)]) → S.mem.get w.pm = some (.map cp ents') → S.mem.get lb = some (.cells 1 vals') → S.mem.get w.om = σ.mem.get w.om → DR S w { D with L := rmv D.L c, T := delN D.T c } := fun S a1 a2 a3 a4 a5 => by
    have hf : (rmv D.L c).length ≤ D.L.length := List.length_filter_le _ _
    exact ⟨⟨_, a2, .inr ⟨lb, cap, vals', hlb, rfl, by show (rmv D.L c).length ≤ cap; omega, q2, p1, q4, p2, p3, by omega, q8, q9, q10, a4⟩⟩, s2 _ _ a3, hom.frame a5, hne, by omega⟩
  refine all_c (w := w) (D := { D with L := rmv D.L c, T := delN D.T c }) (dr _ (by simp) (by simp [e15, hne.1]) (by simp [e14]) (by simp [q8, q9, show ¬ lb = σ.next + 1 + 1 by omega, n2]) (by simp [e16, Ne.symm hne.2.2, Ne.symm hne.2.1]; rw [old _ hlt.2.2 (Ne.symm q10)])) hl _ fun v ys y1 y2 y3 => ?_
  simp [lk_cons]
  refine ACall.of_compF hmx (fun a w => Try.call43 a w) Try.func43 cf43 (n := 1) (by decide) rfl ?_
  simp [ac43, rs43, lk_cons, y3.one]
  intro lp hlp1 hlp2
  refine ACall.of_compF hmx (fun a w => Try.call55 a w) Try.func55 cf55 (n := 2) (by decide) rfl ?_
  have l1 := y3.len
  simp [ac55, rs55, lk_cons, ↓l1]
  refine wp_loop (LvJ w D c v ys lp σ) ys.length ?_ ?_
  · refine ⟨0, D.O, .nilsl, rfl, Nat.zero_le _, by simp, by simp [show ¬ σ.next + 1 + 1 = σ.next + 1 + 1 + 1 + 1 by omega, show ¬ σ.next + 1 + 1 = σ.next + 1 + 1 + 1 by omega], ?_, ?_, .inl ⟨rfl, by simp⟩, dr _ (by simp) ?_ ?_ ?_ ?_, by simpa using y1.symm, by simp, fun a ha hn => ?_, rfl⟩
    · simp [show ¬ σ.next = σ.next + 1 + 1 + 1 + 1 by omega, show ¬ σ.next = σ.next + 1 + 1 + 1 by omega, e11, e12, e8, m0]
    · simp [show ¬ σ.next + 1 = σ.next + 1 + 1 + 1 + 1 by omega, show ¬ σ.next + 1 = σ.next + 1 + 1 + 1 by omega, show ¬ σ.next + 1 = σ.next + 1 + 1 by omega, e13, e9, m1]
    · simp [show ¬ w.d = σ.next + 1 + 1 + 1 + 1 by omega, show ¬ w.d = σ.next + 1 + 1 + 1 by omega, e15, hne.1]
    · simp [show ¬ w.pm = σ.next + 1 + 1 + 1 + 1 by omega, show ¬ w.pm = σ.next + 1 + 1 + 1 by omega, e14]
    · simp [show ¬ lb = σ.next + 1 + 1 + 1 + 1 by omega, show ¬ lb = σ.next + 1 + 1 + 1 by omega, show ¬ lb = σ.next + 1 + 1 by omega, q8, q9, n2]
    · simp [show ¬ w.om = σ.next + 1 + 1 + 1 + 1 by omega, show ¬ w.om = σ.next + 1 + 1 + 1 by omega, e16, Ne.symm hne.2.2, Ne.symm hne.2.1]
      exact old _ hlt.2.2 (Ne.symm q10)
    · simp [show ¬ a = σ.next + 1 + 1 + 1 + 1 by omega, show ¬ a = σ.next + 1 + 1 + 1 by omega, show ¬ a = σ.next + 1 + 1 by omega, show ¬ a = w.d from fun e => hn (.inl e), show ¬ a = w.pm from fun e => hn (.inr (.inl e))]
      exact old _ ha fun e => hn (.inr (.inr (.inr (by rw [hlb, e]))))
  · rintro mm rg σ' ⟨i, O', ov, rfl, hi, b1, b2, b3, b4, b5, b6, b7, b8, b9, rfl⟩
    have yl : ys.length = D.O.length := y1.length_eq
    by_cases hlt2 : i < ys.length
    · obtain ⟨x, hx⟩ : ∃ x, ys[i]? = some x := ⟨_, List.getElem?_eq_getElem hlt2⟩
      obtain ⟨k, hk2⟩ : ∃ k, i + 1 = k := ⟨_, rfl⟩
      have w1 : IntKind.i64.wrap ((i : Int) + 1) = (k : Int) := by rw [IntWalk.i64_in] <;> omega
      have q1 := y3.at hx
      have htk : ys.take k = ys.take i ++ [x] := by rw [← hk2, List.take_add_one, hx]; rfl
      have hdr : ys.drop i = x :: ys.drop k := by rw [← hk2]; exact drop_at hx
      simp [lk_cons, hlt2, ↓q1, storeL]
      refine ⟨fun r σ3 => r = .bool true ∧ ∃ O' ov', σ3.mem.get (σ.next + 1 + 1 + 1 + 1) = some (.loop lp) ∧ σ3.mem.get (σ.next + 1 + 1) = some (.cells 1 [ov']) ∧ σ3.mem.get σ.next = some (.cells 1 [.ptr w.d 0]) ∧ σ3.mem.get (σ.next + 1) = some (.cells 1 [u64 (c : Int)]) ∧
        OSl (σ.next + 1 + 1 + 1 + 1 + 1) σ3 ov' (his (ys.take k) c) ∧ DR σ3 w { D with L := rmv D.L c, T := delN D.T c, O := O' } ∧ O'.Perm (notHis (ys.take k) c ++ ys.drop k) ∧ σ'.next ≤ σ3.next ∧ (∀ a, a < σ.next → ¬ w.has a → σ3.mem.get a = σ.mem.get a), ?_, ?_⟩
      · by_cases hxc : x.c = c
        · have v0 : ¬ σ.next = σ'.next := by omega
          have v1 : ¬ σ.next + 1 = σ'.next := by omega
          have v2 : ¬ σ.next + 1 + 1 = σ'.next := by omega
          have v3 : ¬ σ.next + 1 + 1 + 1 = σ'.next := by omega
          have v4 : ¬ σ.next + 1 + 1 + 1 + 1 = σ'.next := by omega
          have u0 : ¬ σ.next = σ'.next + 1 := by omega
          have u1 : ¬ σ.next + 1 = σ'.next + 1 := by omega
          have u2 : ¬ σ.next + 1 + 1 = σ'.next + 1 := by omega
          have u4 : ¬ σ.next + 1 + 1 + 1 + 1 = σ'.next + 1 := by omega
          have t0 : ¬ σ.next = σ'.next + 1 + 1 := by omega
          have t1 : ¬ σ.next + 1 = σ'.next + 1 + 1 := by omega
          have t2 : ¬ σ.next + 1 + 1 = σ'.next + 1 + 1 := by omega
          have t4 : ¬ σ.next + 1 + 1 + 1 + 1 = σ'.next + 1 + 1 := by omega
          have r0 : ¬ σ.next = σ.next + 1 + 1 + 1 + 1 := by omega
          have r1 : ¬ σ.next + 1 = σ.next + 1 + 1 + 1 + 1 := by omega
          have r2 : ¬ σ.next + 1 + 1 = σ.next + 1 + 1 + 1 + 1 := by omega
          have o0 : ¬ σ'.next = σ.next + 1 + 1 + 1 + 1 := by omega
          have o2 : ¬ σ'.next = σ.next + 2 := by omega
          have o3 : ¬ σ'.next = σ.next + 3 := by omega
          have o4 : ¬ σ'.next = σ.next + 1 := by omega
          have o5 : ¬ σ'.next = σ.next := by omega
          have o1 : ¬ σ'.next + 1 = σ.next + 1 + 1 + 1 + 1 := by omega
          have hyl : (his (ys.take i) c).length ≤ 100000 := Nat.le_trans (List.length_filter_le _ _) (by simp; omega)
          obtain ⟨⟨lv2, hh2, hlv2⟩, hpm2, ⟨co, eo, ho1, ho2, ho3, ho4⟩, hne2, hlt3⟩ := id b6
          obtain ⟨wv, ρ', k1, k2, k3, k4⟩ := osl_app (x := x) (b := σ'.next + 1 + 1) (ρ := ⟨(((((σ'.mem.set σ'.next (.cells 4 [.int .u64 0, .int .u64 0, .int .u64 0, .str ⟨#[]⟩])).set σ'.next (.cells 4 [u64 (x.l : Int), u64 (x.e : Int), u64 (c : Int), .str x.k])).set (σ'.next + 1) (.cells 4 [.int .u64 0, .int .u64 0, .int .u64 0, .str ⟨#[]⟩])).set (σ'.next + 1) (.cells 4 [u64 (x.l : Int), u64 (x.e : Int), u64 (c : Int), .str x.k])).set (σ.next + 1 + 1 + 1 + 1) (.loop { lp with state := .busy })).set (σ'.next + 1 + 1) (.cells 4 [u64 (x.l : Int), u64 (x.e : Int), u64 (c : Int), .str x.k]), σ'.next + 1 + 1 + 1⟩) b5 (by simp; omega) (fun a ha hb => by simp [show ¬ a = σ.next + 1 + 1 + 1 + 1 by omega, show ¬ a = σ'.next by omega, show ¬ a = σ'.next + 1 by omega, show ¬ a = σ'.next + 1 + 1 by omega]) hyl (by simp [orow, hxc]) (by simp; omega)
          have olt : ∀ o, ov = .sl o 0 (his (ys.take i) c).length (his (ys.take i) c).length false → o < σ'.next ∧ σ.next + 1 + 1 + 1 + 1 + 1 ≤ o := fun o ho => by
            rcases b5 with ⟨rfl, _⟩ | ⟨o', rfl, _, z1, z2, _⟩
            · cases ho
            · cases ho; exact ⟨z2, z1⟩
          have mo : ∀ a, a < σ.next + 1 + 1 + 1 + 1 → ρ'.mem.get a = σ'.mem.get a := fun a ha => by
            rw [k4 _ (by simp; omega) fun o ho => by have := olt o ho; omega]
            simp [show ¬ a = σ.next + 1 + 1 + 1 + 1 by omega, show ¬ a = σ'.next by omega, show ¬ a = σ'.next + 1 by omega, show ¬ a = σ'.next + 1 + 1 by omega]
          have m0 := (mo _ (by omega)).trans b3
          have m1 := (mo _ (by omega)).trans b4
          have m2 := (mo _ (by omega)).trans b2
          have m4 : ρ'.mem.get (σ.next + 1 + 1 + 1 + 1) = some (.loop { lp with state := .busy }) := by
            rw [k4 _ (by simp; omega) fun o ho => by have := olt o ho; omega]
            simp [t4, show ¬ σ.next + 2 = σ'.next by omega, v2]
          have m7 : ρ'.mem.get (σ'.next + 1) = some (.cells 4 [u64 (x.l : Int), u64 (x.e : Int), u64 (c : Int), .str x.k]) := by
            rw [k4 _ (by simp) fun o ho => by have := olt o ho; omega]
            simp [o1, o3]
          have md := (mo _ (by omega)).trans hh2
          have mm := (mo _ (by omega)).trans ho1
          have z0 : ¬ σ'.next + 1 = σ.next + 1 + 1 := by omega
          have z1 : ¬ w.d = σ.next + 1 + 1 := by omega
          have z2 : ¬ w.om = σ.next + 1 + 1 := by omega
          have z3 : ¬ σ.next = σ.next + 1 + 1 := by omega
          have z4 : ¬ σ.next + 1 = σ.next + 1 + 1 := by omega
          have z5 : ¬ σ.next + 1 + 1 + 1 + 1 = w.om := by omega
          have z6 : ¬ σ.next + 1 + 1 = w.om := by omega
          have z7 : ¬ σ.next + 1 = w.om := by omega
          have z8 : ¬ σ.next = w.om := by omega
          have ho2' : All2 EO eo O' := ho2
          have b7' : O'.Perm (notHis (ys.take i) c ++ x :: ys.drop k) := by rw [← hdr]; exact b7
          have hko : KO O' := by
            have s1 : (notHis (ys.take i) c ++ ys.drop i).Sublist ys := by
              have := (List.filter_sublist (p := fun x : OutR => decide (x.c ≠ c)) (l := ys.take i)).append (List.Sublist.refl (ys.drop i))
              rwa [List.take_append_drop] at this
            exact ((b7.map okey).nodup_iff).2 ((((y1.map okey).nodup_iff).2 hk).sublist (s1.map okey))
          have hxm : x ∈ O' := b7'.mem_iff.2 (by simp)
          rcases findO x.l x.e ho2' with ⟨_, f2⟩ | ⟨j, y, f1, f2, f3, f4, f5⟩
          · exact absurd ⟨rfl, rfl⟩ (f2 x hxm)
          have hy : y = x := nodup_inj hko (List.mem_of_getElem? f2) hxm (by simp [okey, f3, f4])
          subst hy
          simp [roundY, bindP, lk_cons, storeL, v0, v1, v2, v3, v4, u0, u1, u2, u4, t0, t1, t2, t4, r0, r1, r2, o0, o1, o2, o3, o4, o5, b1, b2, b3, b4, hxc, fillL, repL, ↓k1, m0, m1, m2, m4, m7, md, mm, k2.one, z0, z1, z2, z3, z4, z5, z6, z7, z8, f1, keyIs, shapeOk, kShape, roundQ]
          have hhis : his (ys.take k) c = his (ys.take i) c ++ [y] := by rw [htk, his, List.filter_append]; simp [his, hxc]
          have hnot : notHis (ys.take k) c = notHis (ys.take i) c := by rw [htk, notHis, List.filter_append]; simp [notHis, hxc]
          refine ⟨by omega, by rw [hhis]; exact k2.frame (Nat.le_refl _) fun a ha hb => by simp [show ¬ a = σ.next + 1 + 1 + 1 + 1 by omega, show ¬ a = w.om by omega, show ¬ a = σ.next + 1 + 1 by omega], O'.eraseIdx j, ⟨⟨lv2, ?_, hlv2.frame (by rw [k3]; simp; omega) fun a ha hb => ?_⟩, hpm2.frame ?_, ⟨co, eo.eraseIdx j, by simp [show ¬ w.om = σ.next + 1 + 1 + 1 + 1 by omega], f5, fun y hy => ho3 y (List.mem_of_mem_eraseIdx hy), ho4.sublist ((List.eraseIdx_sublist eo j).map _)⟩, hne2, by show _ < ρ'.next ∧ _ < ρ'.next ∧ _ < ρ'.next; rw [k3]; simp; omega⟩, by rw [hnot]; exact perm_erase b7' f2, by rw [k3]; simp; omega, fun a ha hn => ?_⟩
          · simp [show ¬ w.d = σ.next + 1 + 1 + 1 + 1 by omega, z1, hne2.2.1]
            exact md
          · rw [hlb] at hb; cases hb
            simp [show ¬ lb = σ.next + 1 + 1 + 1 + 1 by omega, q10, show ¬ lb = σ.next + 1 + 1 by omega]
            exact mo _ (by omega)
          · simp [show ¬ w.pm = σ.next + 1 + 1 + 1 + 1 by omega, hne2.2.2, e14]
            exact mo _ (by omega)
          · have : ¬ a = w.om := fun e => hn (.inr (.inr (.inl e)))
            simp [show ¬ a = σ.next + 1 + 1 + 1 + 1 by omega, this, show ¬ a = σ.next + 1 + 1 by omega]
            exact (mo _ (by omega)).trans (b9 a ha hn)
        · have v0 : ¬ σ.next = σ'.next := by omega
          have v1 : ¬ σ.next + 1 = σ'.next := by omega
          have v2 : ¬ σ.next + 1 + 1 = σ'.next := by omega
          have v3 : ¬ σ.next + 1 + 1 + 1 = σ'.next := by omega
          have v4 : ¬ σ.next + 1 + 1 + 1 + 1 = σ'.next := by omega
          have u0 : ¬ σ.next = σ'.next + 1 := by omega
          have u1 : ¬ σ.next + 1 = σ'.next + 1 := by omega
          have u2 : ¬ σ.next + 1 + 1 = σ'.next + 1 := by omega
          have u4 : ¬ σ.next + 1 + 1 + 1 + 1 = σ'.next + 1 := by omega
          have r0 : ¬ σ.next = σ.next + 1 + 1 + 1 + 1 := by omega
          have r1 : ¬ σ.next + 1 = σ.next + 1 + 1 + 1 + 1 := by omega
          have r2 : ¬ σ.next + 1 + 1 = σ.next + 1 + 1 + 1 + 1 := by omega
          have o0 : ¬ σ'.next = σ.next + 1 + 1 + 1 + 1 := by omega
          have o2 : ¬ σ'.next = σ.next + 2 := by omega
          have o3 : ¬ σ'.next = σ.next + 3 := by omega
          have o4 : ¬ σ'.next = σ.next + 1 := by omega
          have o5 : ¬ σ'.next = σ.next := by omega
          have o1 : ¬ σ'.next + 1 = σ.next + 1 + 1 + 1 + 1 := by omega
          have hxc' : ¬ (x.c : Int) = c := by omega
          simp [roundY, bindP, lk_cons, storeL, v0, v1, v2, v3, v4, u0, u1, u2, u4, r0, r1, r2, o0, o1, o2, o3, o4, o5, b1, b2, b3, b4, hxc', fillL, repL, roundQ]
          have hhis : his (ys.take k) c = his (ys.take i) c := by rw [htk, his, List.filter_append]; simp [his, hxc]
          have hnot : notHis (ys.take k) c = notHis (ys.take i) c ++ [x] := by rw [htk, notHis, List.filter_append]; simp [notHis, hxc]
          have mo : ∀ (A B C D E F : Blk) (a : Nat), a < σ'.next → a ≠ σ.next + 1 + 1 + 1 + 1 → ((((((σ'.mem.set σ'.next A).set σ'.next B).set (σ'.next + 1) C).set (σ'.next + 1) D).set (σ.next + 1 + 1 + 1 + 1) E).set (σ.next + 1 + 1 + 1 + 1) F).get a = σ'.mem.get a := fun A B C D E F a ha hb => by
            simp [hb, show ¬ a = σ'.next by omega, show ¬ a = σ'.next + 1 by omega]
          refine ⟨by rw [hhis]; exact b5.frame (by simp; omega) fun a ha hb => mo _ _ _ _ _ _ a hb (by omega), O', b6.keep (by simp; omega) fun a ha hh => mo _ _ _ _ _ _ a ha ?_, by rw [hnot, List.append_assoc]; show O'.Perm (_ ++ x :: ys.drop k); rw [← hdr]; exact b7, by omega, fun a ha hn => ?_⟩
          · rcases hh with e | e | e | e
            · omega
            · omega
            · omega
            · rw [hlb] at e; cases e; omega
          · have hz := b9 a ha hn
            simp [show ¬ a = σ.next + 1 + 1 + 1 + 1 by omega, show ¬ a = σ'.next by omega, show ¬ a = σ'.next + 1 by omega]
            exact hz
      · rintro r σ3 ⟨rfl, O2, ov2, b1, b2, b3, b4, b5, b6, b7, b8', b9⟩
        simp [lk_cons, w1]
        exact ⟨ys.length - k, by omega, k, O2, ov2, rfl, by omega, b1, b2, b3, b4, b5, b6, b7, by omega, b9, rfl⟩
    · have : i = ys.length := by omega
      subst this
      rw [List.take_length] at b5 b7
      rw [List.drop_length, List.append_nil] at b7
      simp [lk_cons, b1, b2, hlp1, hlp2, afterQ]
      refine h2 ov ys O' _ hc y1 y2 (b7.trans (y1.filter _)) (b5.frame' (Nat.le_refl _) (by omega) fun a ha hb => by simp [show ¬ a = σ.next + 1 + 1 + 1 + 1 by omega]) (b6.keep (Nat.le_refl _) fun a ha hh => ?_) ⟨rfl, rfl, rfl, fun _ h => .inl h, by show σ.next ≤ σ'.next; omega, fun a ha hn => ?_⟩
      · have : ¬ a = σ.next + 1 + 1 + 1 + 1 := by
          rcases hh with e | e | e | e
          · omega
          · omega
          · omega
          · rw [hlb] at e; cases e; omega
        simp [this]
      · simp [show ¬ a = σ.next + 1 + 1 + 1 + 1 by omega]
        exact b9 a ha hn
end Go.Proofs.Ytiikaajopgjliaa.AM

/- The example of chapter 18 is as it should be. -/
namespace Go.Proofs.Ytiikaajopgjliaa.AM
set_option maxRecDepth 100000
set_option linter.unusedVariables false
set_option linter.unusedSimpArgs false

def tabL : TabL := [(10, ac10, rs10, 0), (11, ac11, rs11, 1), (12, ac12, rs12, 2), (13, ac13, rs13, 3), (14, ac14, rs14, 3), (29, ac29, rs29, 2), (30, ac30, rs30, 2), (44, ac44, rs44, 2), (45, ac45, rs45, 1), (46, ac46, rs46, 2), (53, ac53, rs53, 1), (56, ac56, rs56, 1), (57, ac57, rs57, 1), (58, ac58, rs58, 1), (59, ac59, rs59, 1), (63, ac63, rs63, 1), (64, ac64, rs64, 2), (65, ac65, rs65, 1), (66, ac66, rs66, 1), (67, ac67, rs67, 2), (68, ac68, rs68, 2), (77, ac77, rs77, 1), (78, ac78, rs78, 1), (80, ac80, rs80, 4), (82, ac82, rs82, 1), (83, ac83, rs83, 1), (86, ac86, rs86, 3), (87, ac87, rs87, 3), (88, ac88, rs88, 3), (89, ac89, rs89, 3), (90, ac90, rs90, 3), (91, ac91, rs91, 3), (92, ac92, rs92, 2), (93, ac93, rs93, 4), (94, ac94, rs94, 4), (96, ac96, rs96, 4), (97, ac97, rs97, 3), (98, ac98, rs98, 5), (99, ac99, rs99, 4)]
theorem tabOk : TabOk Try.prog (look tabL) := by
  unfold tabL
  refine tab_cons ?_ (fun a w => Try.call10 a w) Try.func10 cf10 (by decide)
  refine tab_cons ?_ (fun a w => Try.call11 a w) Try.func11 cf11 (by decide)
  refine tab_cons ?_ (fun a w => Try.call12 a w) Try.func12 cf12 (by decide)
  refine tab_cons ?_ (fun a w => Try.call13 a w) Try.func13 cf13 (by decide)
  refine tab_cons ?_ (fun a w => Try.call14 a w) Try.func14 cf14 (by decide)
  refine tab_cons ?_ (fun a w => Try.call29 a w) Try.func29 cf29 (by decide)
  refine tab_cons ?_ (fun a w => Try.call30 a w) Try.func30 cf30 (by decide)
  refine tab_cons ?_ (fun a w => Try.call44 a w) Try.func44 cf44 (by decide)
  refine tab_cons ?_ (fun a w => Try.call45 a w) Try.func45 cf45 (by decide)
  refine tab_cons ?_ (fun a w => Try.call46 a w) Try.func46 cf46 (by decide)
  refine tab_cons ?_ (fun a w => Try.call53 a w) Try.func53 cf53 (by decide)
  refine tab_cons ?_ (fun a w => Try.call56 a w) Try.func56 cf56 (by decide)
  refine tab_cons ?_ (fun a w => Try.call57 a w) Try.func57 cf57 (by decide)
  refine tab_cons ?_ (fun a w => Try.call58 a w) Try.func58 cf58 (by decide)
  refine tab_cons ?_ (fun a w => Try.call59 a w) Try.func59 cf59 (by decide)
  refine tab_cons ?_ (fun a w => Try.call63 a w) Try.func63 cf63 (by decide)
  refine tab_cons ?_ (fun a w => Try.call64 a w) Try.func64 cf64 (by decide)
  refine tab_cons ?_ (fun a w => Try.call65 a w) Try.func65 cf65 (by decide)
  refine tab_cons ?_ (fun a w => Try.call66 a w) Try.func66 cf66 (by decide)
  refine tab_cons ?_ (fun a w => Try.call67 a w) Try.func67 cf67 (by decide)
  refine tab_cons ?_ (fun a w => Try.call68 a w) Try.func68 cf68 (by decide)
  refine tab_cons ?_ (fun a w => Try.call77 a w) Try.func77 cf77 (by decide)
  refine tab_cons ?_ (fun a w => Try.call78 a w) Try.func78 cf78 (by decide)
  refine tab_cons ?_ (fun a w => Try.call80 a w) Try.func80 cf80 (by decide)
  refine tab_cons ?_ (fun a w => Try.call82 a w) Try.func82 cf82 (by decide)
  refine tab_cons ?_ (fun a w => Try.call83 a w) Try.func83 cf83 (by decide)
  refine tab_cons ?_ (fun a w => Try.call86 a w) Try.func86 cf86 (by decide)
  refine tab_cons ?_ (fun a w => Try.call87 a w) Try.func87 cf87 (by decide)
  refine tab_cons ?_ (fun a w => Try.call88 a w) Try.func88 cf88 (by decide)
  refine tab_cons ?_ (fun a w => Try.call89 a w) Try.func89 cf89 (by decide)
  refine tab_cons ?_ (fun a w => Try.call90 a w) Try.func90 cf90 (by decide)
  refine tab_cons ?_ (fun a w => Try.call91 a w) Try.func91 cf91 (by decide)
  refine tab_cons ?_ (fun a w => Try.call92 a w) Try.func92 cf92 (by decide)
  refine tab_cons ?_ (fun a w => Try.call93 a w) Try.func93 cf93 (by decide)
  refine tab_cons ?_ (fun a w => Try.call94 a w) Try.func94 cf94 (by decide)
  refine tab_cons ?_ (fun a w => Try.call96 a w) Try.func96 cf96 (by decide)
  refine tab_cons ?_ (fun a w => Try.call97 a w) Try.func97 cf97 (by decide)
  refine tab_cons ?_ (fun a w => Try.call98 a w) Try.func98 cf98 (by decide)
  refine tab_cons ?_ (fun a w => Try.call99 a w) Try.func99 cf99 (by decide)
  exact tab_nil hmx

def runOk (x : Option (AVal × St)) : Bool := match x with
  | some (.bool true, _) => true
  | _ => false
theorem awake_run : runOk (callT (look tabL) 300 20 10 [] σ0) = true := by kernel_rfl
theorem awake (σ : St) (Q : AVal → St → Prop) (hq : Q (.bool true) σ) : ACall Try.prog 10 [] σ Q := by
  refine ACall.frame ?_ rfl
  have h := awake_run
  unfold runOk at h
  split at h
  · rename_i σ hs; exact ACall.of_run tabOk 300 20 hs ⟨rfl, hq⟩
  · cases h
end Go.Proofs.Ytiikaajopgjliaa.AM

/- The laws' acts; few. -/
namespace Go.Proofs.Ytiikaajopgjliaa.AM
set_option maxRecDepth 100000
set_option linter.unusedVariables false
set_option linter.unusedSimpArgs false

structure Act where
  k : Nat
  c : Nat
  n : Int
  l : Nat
  e : Nat
  key : ByteArray
  raw : Bool
abbrev arow (a : Act) : List AVal := [.int .u8 (a.k : Int), u64 (a.c : Int), i64 a.n, u64 (a.l : Int), u64 (a.e : Int), .str a.key, .bool a.raw]
structure Act.ok (a : Act) : Prop where
  k : a.k < 256
  c : a.c < 18446744073709551616
  n : -9223372036854775808 ≤ a.n ∧ a.n ≤ 9223372036854775807
theorem key4 (m : Nat) (h : m < 4) : ∃ s : ByteArray, ([AVal.str ⟨#[97]⟩, .str ⟨#[98]⟩, .str ⟨#[99]⟩, .str ⟨#[]⟩] : List AVal)[m]? = some (.str s) ∧ s.size ≤ 200 := by
  rcases (by omega : m = 0 ∨ m = 1 ∨ m = 2 ∨ m = 3) with rfl | rfl | rfl | rfl
  · exact ⟨_, rfl, by decide⟩
  · exact ⟨_, rfl, by decide⟩
  · exact ⟨_, rfl, by decide⟩
  · exact ⟨_, rfl, by decide⟩
theorem few_c (a : Act) (ha : a.ok) (hk : a.key.size ≤ 200) (σ : St) (Q : AVal → St → Prop) (h : ∀ b : Act, b.ok → b.key.size ≤ 200 → b.k = a.k → Q (.agg (arow b)) σ) : ACall Try.prog 16 [.agg (arow a)] σ Q := by
  refine ACall.scrub ?_
  refine ACall.of_compF hmx (fun a w => Try.call16 a w) Try.func16 cf16 (n := 1) (by decide) rfl ?_
  have e1 : ¬ σ.next = σ.next + 1 := by omega
  cases hr : a.raw
  · obtain ⟨z, hz⟩ : ∃ z : Nat, IntKind.u64.wrap a.n = z := ⟨(IntKind.u64.wrap a.n).toNat, by simp [IntKind.wrap, IntKind.signed, IntKind.bits]; omega⟩
    obtain ⟨c', t1, u1⟩ : ∃ m : Nat, (a.c : Int).tmod 12 = (m : Int) ∧ m < 12 := ⟨a.c % 12, rfl, by omega⟩
    obtain ⟨n', t2, u2⟩ : ∃ m : Nat, (z : Int).tmod 5 = (m : Int) ∧ m < 5 := ⟨z % 5, rfl, by omega⟩
    obtain ⟨l', t3⟩ : ∃ m : Nat, (a.l : Int).tmod 3 = (m : Int) := ⟨a.l % 3, rfl⟩
    obtain ⟨e', t4⟩ : ∃ m : Nat, (a.e : Int).tmod 6 = (m : Int) := ⟨a.e % 6, rfl⟩
    obtain ⟨m, t5, hlt⟩ : ∃ m : Nat, (a.key.size : Int).tmod 4 = (m : Int) ∧ m < 4 := ⟨a.key.size % 4, rfl, by omega⟩
    have w1 : IntKind.i64.wrap (n' : Int) = n' := by rw [IntWalk.i64_in] <;> omega
    obtain ⟨s, s1, s2⟩ := key4 m hlt
    have hlt' : (m : Int) < 4 := by omega
    have s3 := (List.getElem?_eq_some_iff.1 s1).2
    have e2 : ¬ σ.next = σ.next + 1 + 1 := by omega
    simp [ac16, rs16, lk_cons, hr, fillL, repL, storeL, e1, e2, hz, t1, t2, t3, t4, t5, w1, hlt, hlt', s1, s3]
    exact ⟨fun x hx => by simp [show ¬ x = σ.next by omega, show ¬ x = σ.next + 1 by omega, show ¬ x = σ.next + 1 + 1 by omega], h ⟨a.k, c', n', l', e', s, false⟩ ⟨ha.k, by show c' < _; omega, by show _ ≤ (n' : Int) ∧ (n' : Int) ≤ _; omega⟩ s2 rfl⟩
  · simp [ac16, rs16, lk_cons, hr, fillL, repL, storeL, e1]
    refine ⟨fun x hx => by simp [show ¬ x = σ.next by omega, show ¬ x = σ.next + 1 by omega], ?_⟩
    have := h a ha hk rfl
    rw [arow, hr] at this
    exact this
end Go.Proofs.Ytiikaajopgjliaa.AM

/- What a desk keeps. -/
namespace Go.Proofs.Ytiikaajopgjliaa.AM
set_option maxRecDepth 100000
set_option linter.unusedVariables false
set_option linter.unusedSimpArgs false

structure Inv (K : Nat) (D : Dk) : Prop where
  kind : D.kind = K
  nd : D.L.Nodup
  nz : 0 ∉ D.L
  len : D.L.length ≤ 8
  one : K = 1 → D.L.length ≤ 1
  tnd : (D.T.map (·.1)).Nodup
  tin : ∀ p ∈ D.T, p.1 ∈ D.L
  per : Per D.T
  olen : D.O.length ≤ 256
  ko : KO D.O
  oin : ∀ x ∈ D.O, x.c ∈ D.L
  ksz : ∀ x ∈ D.O, x.k.size ≤ 200
  first : K = 1 ∨ K = 2 → ∀ x ∈ D.O, D.L.head? = some x.c
  keys : K = 4 → ∀ x ∈ D.O, ∀ y ∈ D.O, x.k = y.k → x.c = y.c
def Did (D : Dk) (a : Act) (D' : Dk) (c : Nat) (e : Int) : Prop :=
  (a.k % 8 = 0 ∧ c = 0 ∧ e = 16 ∧ (D' = D ∨ joinK D.kind D.L a.c = 0 ∧ D' = { D with L := D.L ++ [a.c] })) ∨
  (a.k % 8 = 1 ∧ c = 0 ∧ e = 16 ∧ (D' = D ∨ a.c ∈ D.L ∧ ∃ O' : List OutR, O'.Perm (notHis D.O a.c) ∧ D' = { D with L := rmv D.L a.c, T := delN D.T a.c, O := O' })) ∨
  ((a.k % 8 = 2 ∨ a.k % 8 = 3) ∧ c = 0 ∧ e = 16 ∧ (D' = D ∨ a.c ∈ D.L ∧ 1 ≤ a.n ∧ a.n ≤ 1000 - tk D.T a.c ∧ D' = { D with T := setN D.T a.c (tk D.T a.c + a.n) })) ∨
  (a.k % 8 = 7 ∧ c = 0 ∧ e = 16 ∧ (D' = D ∨ ∃ i x, D.O[i]? = some x ∧ D' = { D with O := D.O.eraseIdx i })) ∨
  ((a.k % 8 = 4 ∨ a.k % 8 = 5 ∨ a.k % 8 = 6) ∧ (D' = D ∧ c = 0 ∧ e ≠ 0 ∨ e = 0 ∧ a.key.size ≤ 200 ∧ D.O.length < 256 ∧ (∀ x ∈ D.O, ¬ (x.l = a.l ∧ x.e = a.e)) ∧ 0 < tk D.T c ∧ (∃ ls : List Nat, ∃ i : Nat, mayL D a.key ls ∧ ls[i]? = some c) ∧ D' = { D with T := setN D.T c (tk D.T c - 1), O := D.O ++ [⟨a.l, a.e, c, a.key⟩], last := c }))

theorem lk_mem {β : Type} {n : Nat} {x : β} : ∀ {T : List (Nat × β)}, lkN T n = some x → (n, x) ∈ T
  | [], h => by cases h
  | (k, y) :: T, h => by
    simp only [lkN] at h
    by_cases hk : n = k
    · rw [if_pos hk] at h; cases h; subst hk; exact List.mem_cons_self
    · rw [if_neg hk] at h; exact List.mem_cons_of_mem _ (lk_mem h)
theorem tk_mem {T : List (Nat × Int)} {c : Nat} (h : tk T c ≠ 0) : ∃ p ∈ T, p.1 = c := by
  cases hl : lkN T c with
  | none => simp [tk, hl] at h
  | some x => exact ⟨_, lk_mem hl, rfl⟩
theorem lk_set {β : Type} (n : Nat) (y : β) (m : Nat) : ∀ T : List (Nat × β), lkN (setN T n y) m = if m = n then some y else lkN T m
  | [] => by simp [setN, lkN]
  | (k, x) :: T => by
    have ih := lk_set n y m T
    simp only [setN]
    by_cases hk : n = k
    · rw [if_pos hk]; subst hk; simp only [lkN]; split <;> rfl
    · rw [if_neg hk]; simp only [lkN, ih]
      by_cases hm : m = k
      · rw [if_pos hm, if_neg (by omega)]; simp [hm]
      · rw [if_neg hm]; simp [hm]
theorem lk_del {β : Type} (n m : Nat) : ∀ T : List (Nat × β), (T.map (·.1)).Nodup → lkN (delN T n) m = if m = n then none else lkN T m
  | [], _ => by simp [delN, lkN]
  | (k, x) :: T, h => by
    rw [List.map_cons, List.nodup_cons] at h
    have ih := lk_del n m T h.2
    simp only [delN]
    by_cases hk : n = k
    · rw [if_pos hk]
      subst hk
      by_cases hm : m = n
      · rw [if_pos hm]
        cases hl : lkN T m with
        | none => rfl
        | some y => exact absurd (List.mem_map.2 ⟨_, lk_mem hl, hm⟩) h.1
      · rw [if_neg hm]; simp [lkN, hm]
    · rw [if_neg hk]; simp only [lkN, ih]
      by_cases hm : m = k
      · rw [if_pos hm, if_neg (by omega), if_pos hm]
      · rw [if_neg hm, if_neg hm]
theorem tk_set (T : List (Nat × Int)) (n : Nat) (y : Int) (m : Nat) : tk (setN T n y) m = if m = n then y else tk T m := by
  simp only [tk, lk_set]; split <;> rfl
theorem tk_del (T : List (Nat × Int)) (h : (T.map (·.1)).Nodup) (n m : Nat) : tk (delN T n) m = if m = n then 0 else tk T m := by
  simp only [tk, lk_del n m T h]; split <;> rfl
theorem set_keys {β : Type} (n : Nat) (y : β) : ∀ T : List (Nat × β), (setN T n y).map (·.1) = if n ∈ T.map (·.1) then T.map (·.1) else T.map (·.1) ++ [n]
  | [] => rfl
  | (k, x) :: T => by
    have ih := set_keys n y T
    simp only [setN]
    by_cases hk : n = k
    · rw [if_pos hk]; subst hk; simp
    · rw [if_neg hk]; simp only [List.map_cons, ih]
      by_cases hm : n ∈ T.map (·.1)
      · rw [if_pos hm, if_pos (List.mem_cons_of_mem _ hm)]
      · rw [if_neg hm, if_neg (by simp only [List.mem_cons, not_or]; exact ⟨hk, hm⟩)]; rfl
theorem del_sub {β : Type} (n : Nat) : ∀ T : List (Nat × β), (delN T n).Sublist T
  | [] => .slnil
  | (k, x) :: T => by
    simp only [delN]
    split
    · exact List.sublist_cons_self _ _
    · exact (del_sub n T).cons_cons _
theorem del_notin {β : Type} {n : Nat} : ∀ {T : List (Nat × β)}, (T.map (·.1)).Nodup → ∀ p ∈ delN T n, p.1 ≠ n
  | [], _, p, hp => by cases hp
  | (k, x) :: T, h, p, hp => by
    rw [List.map_cons, List.nodup_cons] at h
    simp only [delN] at hp
    by_cases hk : n = k
    · rw [if_pos hk] at hp
      intro e
      exact h.1 (List.mem_map.2 ⟨p, hp, by rw [e, hk]⟩)
    · rw [if_neg hk] at hp
      rcases List.mem_cons.1 hp with rfl | hp
      · exact fun e => hk e.symm
      · exact del_notin h.2 p hp
theorem rmv_mem {L : List Nat} {c x : Nat} : x ∈ rmv L c ↔ x ∈ L ∧ x ≠ c := by simp [rmv]
theorem may_in {D : Dk} {key : ByteArray} {ls : List Nat} {c : Nat} (h : mayL D key ls) (hc : c ∈ ls) : D.kind = 4 ∨ c ∈ D.L := by
  rcases h with ⟨_, i, _, _, rfl⟩ | ⟨h4, _⟩ | ⟨_, _, rfl⟩
  · rcases List.mem_append.1 hc with h | h
    · exact .inr (List.mem_of_mem_drop h)
    · exact .inr (List.mem_of_mem_take h)
  · exact .inl h4
  · exact .inr (List.mem_of_mem_take hc)
theorem Inv.did {K : Nat} {D D' : Dk} {a : Act} {c : Nat} {e : Int} (hi : Inv K D) (h : Did D a D' c e) : Inv K D' := by
  rcases h with ⟨_, _, _, rfl | ⟨hj, rfl⟩⟩ | ⟨_, _, _, rfl | ⟨hc, O', hp, rfl⟩⟩ | ⟨_, _, _, rfl | ⟨hc, hn1, hn2, rfl⟩⟩ | ⟨_, _, _, rfl | ⟨i, x, hx, rfl⟩⟩ | ⟨_, ⟨rfl, _⟩ | ⟨_, hks, hl, hno, hpos, ⟨ls, i, hm, hg⟩, rfl⟩⟩
  · exact hi
  · have j1 : a.c ≠ 0 := fun e => by rw [joinK, if_pos e] at hj; cases hj
    have j2 : a.c ∉ D.L := fun e => by rw [joinK, if_neg j1, if_pos e] at hj; cases hj
    have j3 : ¬ (D.kind = 1 ∧ 0 < D.L.length) := fun e => by rw [joinK, if_neg j1, if_neg j2, if_pos e] at hj; cases hj
    have j4 : ¬ 8 ≤ D.L.length := fun e => by rw [joinK, if_neg j1, if_neg j2, if_neg j3, if_pos e] at hj; cases hj
    refine ⟨hi.kind, ?_, ?_, ?_, fun h1 => ?_, hi.tnd, fun p hp => List.mem_append_left _ (hi.tin p hp), hi.per, hi.olen, hi.ko, fun x hx => List.mem_append_left _ (hi.oin x hx), hi.ksz, fun hk x hx => ?_, hi.keys⟩
    · show (D.L ++ [a.c]).Nodup
      rw [List.nodup_append]
      exact ⟨hi.nd, by simp, fun x hx y hy e => by simp at hy; subst hy; subst e; exact j2 hx⟩
    · show 0 ∉ D.L ++ [a.c]
      intro h0
      rcases List.mem_append.1 h0 with h0 | h0
      · exact hi.nz h0
      · exact j1 (List.mem_singleton.1 h0).symm
    · show (D.L ++ [a.c]).length ≤ 8
      rw [List.length_append]; simp; omega
    · show (D.L ++ [a.c]).length ≤ 1
      have := hi.kind
      rw [List.length_append]; simp
      by_cases h0 : 0 < D.L.length
      · exact absurd ⟨by omega, h0⟩ j3
      · exact List.length_eq_zero_iff.1 (by omega)
    · show (D.L ++ [a.c]).head? = some x.c
      rw [List.head?_append, hi.first hk x hx]; rfl
  · exact hi
  · refine ⟨hi.kind, hi.nd.filter _, fun h0 => hi.nz (rmv_mem.1 h0).1, Nat.le_trans (List.length_filter_le _ _) hi.len, fun h1 => Nat.le_trans (List.length_filter_le _ _) (hi.one h1), hi.tnd.sublist ((del_sub _ _).map _), fun p hp => rmv_mem.2 ⟨hi.tin p ((del_sub _ _).mem hp), del_notin hi.tnd p hp⟩, fun m => ?_, ?_, ?_, fun x hx => ?_, fun x hx => hi.ksz x (List.mem_filter.1 (hp.mem_iff.1 hx)).1, fun hk x hx => ?_, fun hk x hx y hy => ?_⟩
    · show 0 ≤ tk (delN D.T a.c) m ∧ tk (delN D.T a.c) m ≤ 1000
      rw [tk_del _ hi.tnd]
      split
      · omega
      · exact hi.per m
    · show O'.length ≤ 256
      rw [hp.length_eq]
      exact Nat.le_trans (List.length_filter_le _ _) hi.olen
    · exact ((hp.map okey).nodup_iff).2 (hi.ko.sublist (List.filter_sublist.map okey))
    · have hx' := hp.mem_iff.1 hx
      simp only [notHis, List.mem_filter, decide_eq_true_eq] at hx'
      exact rmv_mem.2 ⟨hi.oin x hx'.1, hx'.2⟩
    · have hx' := hp.mem_iff.1 hx
      simp only [notHis, List.mem_filter, decide_eq_true_eq] at hx'
      have hh := hi.first hk x hx'.1
      show (rmv D.L a.c).head? = some x.c
      cases hL : D.L with
      | nil => rw [hL] at hh; cases hh
      | cons y t =>
        rw [hL] at hh
        simp at hh
        subst hh
        simp [rmv, hx'.2]
    · have hx' := hp.mem_iff.1 hx
      have hy' := hp.mem_iff.1 hy
      simp only [notHis, List.mem_filter, decide_eq_true_eq] at hx' hy'
      exact hi.keys hk x hx'.1 y hy'.1
  · exact hi
  · refine ⟨hi.kind, hi.nd, hi.nz, hi.len, hi.one, ?_, fun p hp => ?_, fun m => ?_, hi.olen, hi.ko, hi.oin, hi.ksz, hi.first, hi.keys⟩
    · show ((setN D.T a.c _).map (·.1)).Nodup
      rw [set_keys]
      split
      · exact hi.tnd
      · rename_i hn
        rw [List.nodup_append]
        exact ⟨hi.tnd, by simp, fun x hx y hy e => by simp at hy; subst hy; subst e; exact hn hx⟩
    · have hk : p.1 ∈ (setN D.T a.c (tk D.T a.c + a.n)).map (·.1) := List.mem_map_of_mem hp
      rw [set_keys] at hk
      split at hk
      · obtain ⟨q, hq, e⟩ := List.mem_map.1 hk
        show p.1 ∈ D.L
        rw [← e]; exact hi.tin q hq
      · rcases List.mem_append.1 hk with hk | hk
        · obtain ⟨q, hq, e⟩ := List.mem_map.1 hk
          show p.1 ∈ D.L
          rw [← e]; exact hi.tin q hq
        · show p.1 ∈ D.L
          rw [List.mem_singleton.1 hk]; exact hc
    · show 0 ≤ tk (setN D.T a.c _) m ∧ tk (setN D.T a.c _) m ≤ 1000
      rw [tk_set]
      have := hi.per a.c
      split
      · omega
      · exact hi.per m
  · exact hi
  · have sub := List.eraseIdx_sublist D.O i
    exact ⟨hi.kind, hi.nd, hi.nz, hi.len, hi.one, hi.tnd, hi.tin, hi.per, Nat.le_trans sub.length_le hi.olen, hi.ko.sublist (sub.map _), fun x hx => hi.oin x (sub.mem hx), fun x hx => hi.ksz x (sub.mem hx), fun hk x hx => hi.first hk x (sub.mem hx), fun hk x hx y hy => hi.keys hk x (sub.mem hx) y (sub.mem hy)⟩
  · exact hi
  · obtain ⟨p0, hp0, hpc⟩ := tk_mem (T := D.T) (c := c) (by omega)
    have hcL : c ∈ D.L := by rw [← hpc]; exact hi.tin p0 hp0
    have hcl : c ∈ ls := List.mem_of_getElem? hg
    refine ⟨hi.kind, hi.nd, hi.nz, hi.len, hi.one, ?_, fun p hp => ?_, fun m => ?_, ?_, ?_, fun x hx => ?_, fun x hx => ?_, fun hk x hx => ?_, fun hk x hx y hy => ?_⟩
    · show ((setN D.T c _).map (·.1)).Nodup
      rw [set_keys]
      split
      · exact hi.tnd
      · rename_i hn
        rw [List.nodup_append]
        exact ⟨hi.tnd, by simp, fun x hx y hy e => by simp at hy; subst hy; subst e; exact hn hx⟩
    · have hk : p.1 ∈ (setN D.T c (tk D.T c - 1)).map (·.1) := List.mem_map_of_mem hp
      rw [set_keys] at hk
      split at hk
      · obtain ⟨q, hq, e⟩ := List.mem_map.1 hk
        show p.1 ∈ D.L
        rw [← e]; exact hi.tin q hq
      · rcases List.mem_append.1 hk with hk | hk
        · obtain ⟨q, hq, e⟩ := List.mem_map.1 hk
          show p.1 ∈ D.L
          rw [← e]; exact hi.tin q hq
        · show p.1 ∈ D.L
          rw [List.mem_singleton.1 hk]; exact hcL
    · show 0 ≤ tk (setN D.T c _) m ∧ tk (setN D.T c _) m ≤ 1000
      rw [tk_set]
      have := hi.per c
      split
      · omega
      · exact hi.per m
    · show (D.O ++ [_]).length ≤ 256
      rw [List.length_append]; simp; omega
    · show ((D.O ++ [_]).map okey).Nodup
      rw [List.map_append, List.nodup_append]
      refine ⟨hi.ko, by simp, fun x hx y hy e => ?_⟩
      obtain ⟨z, hz, rfl⟩ := List.mem_map.1 hx
      simp at hy
      subst hy
      simp only [okey, Prod.mk.injEq] at e
      exact hno z hz e
    · rcases List.mem_append.1 hx with hx | hx
      · exact hi.oin x hx
      · rw [List.mem_singleton.1 hx]; exact hcL
    · rcases List.mem_append.1 hx with hx | hx
      · exact hi.ksz x hx
      · rw [List.mem_singleton.1 hx]; exact hks
    · rcases List.mem_append.1 hx with hx | hx
      · exact hi.first hk x hx
      · rw [List.mem_singleton.1 hx]
        have hkd := hi.kind
        rcases hm with ⟨h3, _⟩ | ⟨h4, _⟩ | ⟨_, _, rfl⟩
        · omega
        · omega
        · show D.L.head? = some c
          cases hL : D.L with
          | nil => rw [hL] at hcL; cases hcL
          | cons y t =>
            rw [hL] at hcl
            simp at hcl
            simp [hcl]
    · have hkd := hi.kind
      rcases hm with ⟨h3, _⟩ | ⟨_, c0, hkp, rfl⟩ | ⟨_, h4, _⟩
      · omega
      · have hcc : c = c0 := by simpa using hcl
        subst hcc
        have new : ∀ x ∈ D.O, x.k = a.key → x.c = c := fun x hx hxk => by
          rcases hkp with ⟨z, hz, hzk, hzc⟩ | ⟨hno2, _⟩
          · rw [hzc]; exact hi.keys hk x hx z hz (by rw [hxk, hzk])
          · exact absurd hxk (hno2 x hx)
        rcases List.mem_append.1 hx with hx | hx <;> rcases List.mem_append.1 hy with hy | hy
        · exact hi.keys hk x hx y hy
        · rw [List.mem_singleton.1 hy]; exact fun e => new x hx e
        · rw [List.mem_singleton.1 hx]; exact fun e => (new y hy e.symm).symm
        · rw [List.mem_singleton.1 hx, List.mem_singleton.1 hy]; exact fun _ => rfl
      · omega
end Go.Proofs.Ytiikaajopgjliaa.AM

/- Acts played on a desk. -/
namespace Go.Proofs.Ytiikaajopgjliaa.AM
set_option maxRecDepth 100000
set_option linter.unusedVariables false
set_option linter.unusedSimpArgs false

theorem DR.lt' {σ : St} {w : Own} {D : Dk} (h : DR σ w D) {a : Nat} (ha : w.has a) : a < σ.next := by
  obtain ⟨⟨lv, h1, h2⟩, _, _, _, h7⟩ := h
  rcases ha with e | e | e | e
  · omega
  · omega
  · omega
  · rcases h2 with ⟨_, _, h0⟩ | ⟨lb, _, _, h0, _, _, _, _, _, _, _, h6, _⟩
    · rw [h0] at e; cases e
    · rw [h0] at e; cases e; exact h6
def Nx (w : Own) (D : Dk) (a : Act) (σ : St) (c : Nat) (e : Int) (σ2 : St) : Prop := ∃ w2 D2, Did D a D2 c e ∧ DR σ2 w2 D2 ∧ Stp w w2 σ σ2
theorem op_join {σ : St} {w : Own} {D : Dk} {K : Nat} {a : Act} (h : DR σ w D) (hi : Inv K D) (hk : a.k % 8 = 0) : ACall Try.prog 12 [.ptr w.d 0, u64 (a.c : Int)] σ fun _ σ2 => Nx w D a σ 0 16 σ2 := by
  refine join18_c h (by have := hi.len; omega) a.c _ (fun h0 => ?_) fun w' σ' h0 h1 h2 => ?_
  · exact ⟨w, D, .inl ⟨hk, rfl, rfl, .inl rfl⟩, h, .refl _ _⟩
  · exact ⟨w', _, .inl ⟨hk, rfl, rfl, .inr ⟨h0, rfl⟩⟩, h1, h2⟩
theorem op_leave {σ : St} {w : Own} {D : Dk} {K : Nat} {a : Act} (h : DR σ w D) (hi : Inv K D) (hk : a.k % 8 = 1) : ACall Try.prog 26 [.ptr w.d 0, u64 (a.c : Int)] σ fun _ σ2 => Nx w D a σ 0 16 σ2 := by
  refine leave18_c h (by have := hi.len; omega) (by have := hi.olen; omega) hi.ko a.c _ (fun σ' h0 h1 => ?_) fun v ys O' σ' h0 h1 h2 h3 h4 h5 h6 => ?_
  · exact ⟨w, D, .inr (.inl ⟨hk, rfl, rfl, .inl rfl⟩), h.frame h1, h1.stp w⟩
  · exact ⟨w, _, .inr (.inl ⟨hk, rfl, rfl, .inr ⟨h0, O', h3, rfl⟩⟩), h5, h6⟩
theorem op_flow {σ : St} {w : Own} {D : Dk} {K : Nat} {a : Act} (ha : a.ok) (h : DR σ w D) (hi : Inv K D) (hk : a.k % 8 = 2 ∨ a.k % 8 = 3) : ACall Try.prog 13 [.ptr w.d 0, u64 (a.c : Int), i64 a.n] σ fun _ σ2 => Nx w D a σ 0 16 σ2 := by
  refine flow18_c h (by have := hi.len; omega) hi.per a.c a.n ha.n _ (fun h0 => ?_) (fun _ _ => ?_) fun σ' h0 h1 h2 h3 h4 => ?_
  · exact ⟨w, D, .inr (.inr (.inl ⟨hk, rfl, rfl, .inl rfl⟩)), h, .refl _ _⟩
  · exact ⟨w, D, .inr (.inr (.inl ⟨hk, rfl, rfl, .inl rfl⟩)), h, .refl _ _⟩
  · exact ⟨w, _, .inr (.inr (.inl ⟨hk, rfl, rfl, .inr ⟨h0, h1, h2, rfl⟩⟩)), h3, h4⟩
theorem op_done {σ : St} {w : Own} {D : Dk} {K : Nat} {a : Act} (h : DR σ w D) (hi : Inv K D) (hk : a.k % 8 = 7) : ACall Try.prog 27 [.ptr w.d 0, u64 (a.c : Int), ps (a.l : Int) (a.e : Int)] σ fun _ σ2 => Nx w D a σ 0 16 σ2 := by
  refine done18_c h a.c a.l a.e _ (fun σ' _ h1 => ?_) (fun σ' i x _ _ _ _ h1 => ?_) fun σ' i x h0 _ _ _ h1 h2 => ?_
  · exact ⟨w, D, .inr (.inr (.inr (.inl ⟨hk, rfl, rfl, .inl rfl⟩))), h.frame h1, h1.stp w⟩
  · exact ⟨w, D, .inr (.inr (.inr (.inl ⟨hk, rfl, rfl, .inl rfl⟩))), h.frame h1, h1.stp w⟩
  · exact ⟨w, _, .inr (.inr (.inr (.inl ⟨hk, rfl, rfl, .inr ⟨i, x, h0, rfl⟩⟩))), h1, h2⟩
theorem op_offer {σ : St} {w : Own} {D : Dk} {K : Nat} {a : Act} (ha : a.key.size ≤ 200) (h : DR σ w D) (hi : Inv K D) (hk : a.k % 8 = 4 ∨ a.k % 8 = 5 ∨ a.k % 8 = 6) : ACall Try.prog 14 [.ptr w.d 0, ps (a.l : Int) (a.e : Int), .str a.key] σ fun v σ2 => ∃ (c : Nat) (e : Int), v = .tup [u64 (c : Int), i64 e] ∧ Nx w D a σ c e σ2 := by
  have no : ∀ σ' (e : Int), e ≠ 0 → Grow σ σ' → Nx w D a σ 0 e σ' := fun σ' e h0 h1 => ⟨w, D, .inr (.inr (.inr (.inr ⟨hk, .inl ⟨rfl, rfl, h0⟩⟩))), h.frame h1, h1.stp w⟩
  refine offer18_c h (by have := hi.len; omega) (by have := hi.olen; omega) hi.per a.l a.e a.key (by omega) _ (fun σ' _ h1 => ?_) (fun σ' _ _ h1 => ?_) (fun σ' ls i c h0 h1 h2 h3 _ h5 h6 h7 => ?_) fun σ' ls _ _ _ _ h1 => ?_
  · exact ⟨0, 62, rfl, no _ _ (by omega) h1⟩
  · exact ⟨0, 14, rfl, no _ _ (by omega) h1⟩
  · exact ⟨c, 0, rfl, w, _, .inr (.inr (.inr (.inr ⟨hk, .inr ⟨rfl, ha, h0, h1, h5, ⟨ls, i, h2, h3⟩, rfl⟩⟩))), h6, h7⟩
  · exact ⟨0, 60, rfl, no _ _ (by omega) h1⟩

def acs (l : List Act) : List AVal := (l.map arow).flatten
def AI (v : AVal) (l : List Act) : Prop := v = .nilsl ∧ l = [] ∨ ∃ t, v = .isl (acs l) l.length t
theorem acs_at {l : List Act} {i : Nat} {x : Act} (h : l[i]? = some x) : ((acs l).drop (i * 7)).take 7 = arow x := by
  induction l generalizing i with
  | nil => simp at h
  | cons y l ih =>
    cases i with
    | zero => simp at h; subst h; simp [acs]
    | succ i =>
      have := ih (by simpa using h)
      simp only [acs, List.map_cons, List.flatten_cons] at this ⊢
      rw [show (i + 1) * 7 = i * 7 + 7 by omega]
      simpa using this
theorem AI.len {v : AVal} {l : List Act} (h : AI v l) (ρ : St) : evalV ρ (.len 1 v) = some (i64 l.length, ρ) := by
  rcases h with ⟨rfl, rfl⟩ | ⟨t, rfl⟩ <;> simp
theorem AI.at {v : AVal} {l : List Act} (hv : AI v l) {i : Nat} {x : Act} (hx : l[i]? = some x) (ρ : St) : evalV ρ (.idxAddr 7 v (i64 i)) = some (.iptr (arow x), ρ) := by
  have hi := (List.getElem?_eq_some_iff.1 hx).1
  rcases hv with ⟨_, rfl⟩ | ⟨t, rfl⟩
  · simp at hx
  · have := acs_at hx
    simp [hi, this]

def PlJ (K : Nat) (J : Own → Dk → St → Prop) (fv v : AVal) (l : List Act) (mm : Nat) (rg : Regs) (σ' : St) : Prop := ∃ (i : Nat) (w : Own) (D : Dk), mm = l.length - i ∧ i ≤ l.length ∧ DR σ' w D ∧ Inv K D ∧ J w D σ' ∧ rg = [(2, fv), (7, .ptr w.d 0), (20, v), (21, i64 l.length), (22, i64 i)]
set_option maxHeartbeats 1000000 in
theorem play_c (K : Nat) (hK : 1 ≤ K ∧ K ≤ 4) (fk : Nat) (caps : List AVal) {v : AVal} {l : List Act} (hv : AI v l) (hok : ∀ a ∈ l, a.ok) (hlen : l.length ≤ 9223372036854775807) (σ : St) (J : Own → Dk → St → Prop)
    (h0 : ∀ w σ', DR σ' w ⟨K, [], [], [], 0⟩ → Grow σ σ' → (∀ a, w.has a → σ.next ≤ a) → J w ⟨K, [], [], [], 0⟩ σ')
    (hlook : ∀ (σ0 σ1 : St) (w0 w : Own) (D0 D : Dk) (a : Act) (c : Nat) (e : Int) (Q : AVal → St → Prop), J w0 D0 σ0 → DR σ0 w0 D0 → Inv K D0 → a.ok → Did D0 a D c e → DR σ1 w D → Inv K D → Stp w0 w σ0 σ1 → (∀ w' D' σ', J w' D' σ' → DR σ' w' D' → Inv K D' → w'.d = w.d → Q (.bool true) σ') → ACall Try.prog fk ([.ptr w.d 0, .agg (arow a), u64 (c : Int), i64 e] ++ caps) σ1 Q)
    (Q : AVal → St → Prop) (hQ : ∀ σ', Q (.bool true) σ') : ACall Try.prog 21 [.int .u8 (K : Int), v, .fn fk [] caps] σ Q := by
  refine ACall.of_compF hmx (fun a w => Try.call21 a w) Try.func21 cf21 (n := 3) (by decide) rfl ?_
  have l1 := hv.len
  simp [ac21, rs21, lk_cons]
  refine new18_c K hK _ _ fun w σ1 d1 d2 d3 => ?_
  simp [lk_cons, ↓l1]
  refine wp_loop (PlJ K J (.fn fk [] caps) v l) l.length ?_ ?_
  · exact ⟨0, w, _, rfl, Nat.zero_le _, d1, ⟨rfl, by simp, by simp, by simp, by simp, by simp, by simp, fun c => by simp [tk, lkN], by simp, by simp [KO], by simp, by simp, by simp, by simp⟩, h0 w σ1 d1 d2 d3, rfl⟩
  · rintro mm rg σ' ⟨i, w, D, rfl, hi, dr, inv, hJ, rfl⟩
    by_cases hlt : i < l.length
    · obtain ⟨a, ha⟩ : ∃ a, l[i]? = some a := ⟨_, List.getElem?_eq_getElem hlt⟩
      obtain ⟨k, hk⟩ : ∃ k, i + 1 = k := ⟨_, rfl⟩
      have w1 : IntKind.i64.wrap ((i : Int) + 1) = (k : Int) := by rw [IntWalk.i64_in] <;> omega
      have q1 := hv.at ha
      have aok := hok a (List.mem_of_getElem? ha)
      by_cases h200 : 200 < i
      · have h200' : (200 : Int) < i := by omega
        simp [lk_cons, hlt, ↓q1, storeL, h200, h200']
        exact hQ _
      have h200' : ¬ (200 : Int) < i := by omega
      by_cases hkz : 200 < a.key.size
      · have hkz' : (200 : Int) < a.key.size := by omega
        simp [lk_cons, hlt, ↓q1, storeL, h200, h200', hkz, hkz']
        exact hQ _
      have hkz' : ¬ (200 : Int) < a.key.size := by omega
      simp [lk_cons, hlt, ↓q1, storeL, h200, h200', hkz, hkz']
      refine few_c a aok (by omega) _ _ fun b b1 b2 b3 => ?_
      obtain ⟨k8, hk8, hk9⟩ : ∃ k8 : Nat, (b.k : Int).tmod 8 = (k8 : Int) ∧ k8 = b.k % 8 := ⟨b.k % 8, rfl, rfl⟩
      simp [lk_cons, storeL, hk8]
      have grow : ∀ (A B C : Blk), Grow σ' ⟨((σ'.mem.set σ'.next A).set σ'.next B).set σ'.next C, σ'.next + 1⟩ := fun A B C => ⟨by simp, fun x hx => by simp [show ¬ x = σ'.next by omega]⟩
      have row : ∀ (w2 : Own) (σ2 : St) (A B C : Blk), Stp w w2 ⟨((σ'.mem.set σ'.next A).set σ'.next B).set σ'.next C, σ'.next + 1⟩ σ2 → σ2.mem.get σ'.next = some C := fun w2 σ2 A B C hs => by
        rw [hs.keep _ (by simp) fun hh => by have := dr.lt' hh; omega]
        simp
      have stp : ∀ (w2 : Own) (σ2 : St) (A B C : Blk), Stp w w2 ⟨((σ'.mem.set σ'.next A).set σ'.next B).set σ'.next C, σ'.next + 1⟩ σ2 → Stp w w2 σ' σ2 := fun w2 σ2 A B C hs => ((grow A B C).stp w).trans hs
      have dr1 : ∀ (A B C : Blk), DR ⟨((σ'.mem.set σ'.next A).set σ'.next B).set σ'.next C, σ'.next + 1⟩ w D := fun A B C => dr.frame (grow A B C)
      rcases (by omega : k8 = 0 ∨ k8 = 1 ∨ k8 = 2 ∨ k8 = 3 ∨ k8 = 7 ∨ k8 = 4 ∨ k8 = 5 ∨ k8 = 6) with rfl | rfl | rfl | rfl | rfl | rfl | rfl | rfl
      · simp [lk_cons]
        refine ACall.mono (op_join (a := b) (dr1 _ _ _) inv (by omega)) fun v σ2 nx => ?_
        simp [lk_cons]
        obtain ⟨w2, D2, n1, n2, n3⟩ := nx
        have hb := row w2 _ _ _ _ n3
        rw [← n3.d]
        simp [lk_cons, hb]
        refine hlook _ _ _ _ _ _ _ _ _ _ hJ dr inv b1 n1 n2 (inv.did n1) (stp _ _ _ _ _ n3) fun w3 D3 σ3 m1 m2 m3 m4 => ?_
        simp [lk_cons, w1]
        exact ⟨l.length - k, by omega, k, w3, D3, rfl, by omega, m2, m3, m1, by rw [m4, n3.d]⟩
      · simp [lk_cons]
        refine ACall.mono (op_leave (a := b) (dr1 _ _ _) inv (by omega)) fun v σ2 nx => ?_
        simp [lk_cons]
        obtain ⟨w2, D2, n1, n2, n3⟩ := nx
        have hb := row w2 _ _ _ _ n3
        rw [← n3.d]
        simp [lk_cons, hb]
        refine hlook _ _ _ _ _ _ _ _ _ _ hJ dr inv b1 n1 n2 (inv.did n1) (stp _ _ _ _ _ n3) fun w3 D3 σ3 m1 m2 m3 m4 => ?_
        simp [lk_cons, w1]
        exact ⟨l.length - k, by omega, k, w3, D3, rfl, by omega, m2, m3, m1, by rw [m4, n3.d]⟩
      · simp [lk_cons]
        refine ACall.mono (op_flow (a := b) b1 (dr1 _ _ _) inv (by omega)) fun v σ2 nx => ?_
        simp [lk_cons]
        obtain ⟨w2, D2, n1, n2, n3⟩ := nx
        have hb := row w2 _ _ _ _ n3
        rw [← n3.d]
        simp [lk_cons, hb]
        refine hlook _ _ _ _ _ _ _ _ _ _ hJ dr inv b1 n1 n2 (inv.did n1) (stp _ _ _ _ _ n3) fun w3 D3 σ3 m1 m2 m3 m4 => ?_
        simp [lk_cons, w1]
        exact ⟨l.length - k, by omega, k, w3, D3, rfl, by omega, m2, m3, m1, by rw [m4, n3.d]⟩
      · simp [lk_cons]
        refine ACall.mono (op_flow (a := b) b1 (dr1 _ _ _) inv (by omega)) fun v σ2 nx => ?_
        simp [lk_cons]
        obtain ⟨w2, D2, n1, n2, n3⟩ := nx
        have hb := row w2 _ _ _ _ n3
        rw [← n3.d]
        simp [lk_cons, hb]
        refine hlook _ _ _ _ _ _ _ _ _ _ hJ dr inv b1 n1 n2 (inv.did n1) (stp _ _ _ _ _ n3) fun w3 D3 σ3 m1 m2 m3 m4 => ?_
        simp [lk_cons, w1]
        exact ⟨l.length - k, by omega, k, w3, D3, rfl, by omega, m2, m3, m1, by rw [m4, n3.d]⟩
      · simp [lk_cons]
        refine ACall.mono (op_done (a := b) (dr1 _ _ _) inv (by omega)) fun v σ2 nx => ?_
        simp [lk_cons]
        obtain ⟨w2, D2, n1, n2, n3⟩ := nx
        have hb := row w2 _ _ _ _ n3
        rw [← n3.d]
        simp [lk_cons, hb]
        refine hlook _ _ _ _ _ _ _ _ _ _ hJ dr inv b1 n1 n2 (inv.did n1) (stp _ _ _ _ _ n3) fun w3 D3 σ3 m1 m2 m3 m4 => ?_
        simp [lk_cons, w1]
        exact ⟨l.length - k, by omega, k, w3, D3, rfl, by omega, m2, m3, m1, by rw [m4, n3.d]⟩
      · simp [lk_cons]
        refine ACall.mono (op_offer (a := b) b2 (dr1 _ _ _) inv (by omega)) fun v σ2 hx => ?_
        obtain ⟨c, e, rfl, nx⟩ := hx
        simp [lk_cons]
        obtain ⟨w2, D2, n1, n2, n3⟩ := nx
        have hb := row w2 _ _ _ _ n3
        rw [← n3.d]
        simp [lk_cons, hb]
        refine hlook _ _ _ _ _ _ _ _ _ _ hJ dr inv b1 n1 n2 (inv.did n1) (stp _ _ _ _ _ n3) fun w3 D3 σ3 m1 m2 m3 m4 => ?_
        simp [lk_cons, w1]
        exact ⟨l.length - k, by omega, k, w3, D3, rfl, by omega, m2, m3, m1, by rw [m4, n3.d]⟩
      · simp [lk_cons]
        refine ACall.mono (op_offer (a := b) b2 (dr1 _ _ _) inv (by omega)) fun v σ2 hx => ?_
        obtain ⟨c, e, rfl, nx⟩ := hx
        simp [lk_cons]
        obtain ⟨w2, D2, n1, n2, n3⟩ := nx
        have hb := row w2 _ _ _ _ n3
        rw [← n3.d]
        simp [lk_cons, hb]
        refine hlook _ _ _ _ _ _ _ _ _ _ hJ dr inv b1 n1 n2 (inv.did n1) (stp _ _ _ _ _ n3) fun w3 D3 σ3 m1 m2 m3 m4 => ?_
        simp [lk_cons, w1]
        exact ⟨l.length - k, by omega, k, w3, D3, rfl, by omega, m2, m3, m1, by rw [m4, n3.d]⟩
      · simp [lk_cons]
        refine ACall.mono (op_offer (a := b) b2 (dr1 _ _ _) inv (by omega)) fun v σ2 hx => ?_
        obtain ⟨c, e, rfl, nx⟩ := hx
        simp [lk_cons]
        obtain ⟨w2, D2, n1, n2, n3⟩ := nx
        have hb := row w2 _ _ _ _ n3
        rw [← n3.d]
        simp [lk_cons, hb]
        refine hlook _ _ _ _ _ _ _ _ _ _ hJ dr inv b1 n1 n2 (inv.did n1) (stp _ _ _ _ _ n3) fun w3 D3 σ3 m1 m2 m3 m4 => ?_
        simp [lk_cons, w1]
        exact ⟨l.length - k, by omega, k, w3, D3, rfl, by omega, m2, m3, m1, by rw [m4, n3.d]⟩
    · have : i = l.length := by omega
      subst this
      simp [lk_cons]
      exact hQ _
end Go.Proofs.Ytiikaajopgjliaa.AM

/- What the laws' acts are. -/
namespace Go.Proofs.Ytiikaajopgjliaa.AM
set_option maxRecDepth 100000
set_option linter.unusedVariables false
set_option linter.unusedSimpArgs false

theorem acts_arg {ok : List AVal → Prop} (hok : ∀ x, ok x → ∃ a : Act, a.ok ∧ x = arow a) : ∀ xs : List (List AVal), (∀ x ∈ xs, x.length = 7 ∧ ok x) → ∃ l : List Act, xs.flatten = acs l ∧ l.length = xs.length ∧ ∀ a ∈ l, a.ok
  | [], _ => ⟨[], rfl, rfl, fun a h => by cases h⟩
  | x :: xs, h => by
    obtain ⟨l, h1, h2, h3⟩ := acts_arg hok xs (fun y hy => h y (by simp [hy]))
    obtain ⟨a, ha, rfl⟩ := hok x (h x (by simp)).2
    refine ⟨a :: l, by simp [h1, acs], by simp [h2], fun b hb => ?_⟩
    rcases List.mem_cons.1 hb with rfl | hb
    · exact ha
    · exact h3 b hb
theorem act_of {ok5 ok30 ok3 ok36 ok9 ok4 : List AVal → Prop} (h5 : ∀ x, ok5 x → ∃ n, x = [.int .u8 n] ∧ (Lit.int .u8 n).wf = true) (h30 : ∀ x, ok30 x → ∃ n, x = [.int .u64 n] ∧ (Lit.int .u64 n).wf = true) (h3 : ∀ x, ok3 x → ∃ n, x = [.int .i64 n] ∧ (Lit.int .i64 n).wf = true)
    (h36 : ∀ x, ok36 x → ∃ a b, x = a ++ b ∧ ok30 a ∧ ok30 b) (h9 : ∀ x, ok9 x → ∃ s : ByteArray, x = [.str s] ∧ s.size ≤ 140737488351232) (h4 : ∀ x, ok4 x → ∃ b, x = [.bool b]) (x : List AVal)
    (h : ∃ a b, x = a ++ b ∧ ok5 a ∧ ∃ c d, b = c ++ d ∧ ok30 c ∧ ∃ e f, d = e ++ f ∧ ok3 e ∧ ∃ g i, f = g ++ i ∧ ok36 g ∧ ∃ j k, i = j ++ k ∧ ok9 j ∧ ok4 k) : ∃ a : Act, a.ok ∧ x = arow a := by
  obtain ⟨a, b, rfl, ha, c, d, rfl, hc, e, f, rfl, he, g, i, rfl, hg, j, k, rfl, hj, hk⟩ := h
  obtain ⟨n, rfl, wn⟩ := h5 _ ha
  obtain ⟨n, rfl, hn⟩ := wf_u8 wn
  obtain ⟨m, rfl, wm⟩ := h30 _ hc
  obtain ⟨m, rfl, hm⟩ := wf_u64 wm
  obtain ⟨z, rfl, wz⟩ := h3 _ he
  obtain ⟨p, q, rfl, hp, hq⟩ := h36 _ hg
  obtain ⟨p, rfl, wp⟩ := h30 _ hp
  obtain ⟨p, rfl, _⟩ := wf_u64 wp
  obtain ⟨q, rfl, wq⟩ := h30 _ hq
  obtain ⟨q, rfl, _⟩ := wf_u64 wq
  obtain ⟨s, rfl, _⟩ := h9 _ hj
  obtain ⟨t, rfl⟩ := h4 _ hk
  exact ⟨⟨n, m, z, p, q, s, t⟩, ⟨hn, hm, wf_i64 wz⟩, rfl⟩
end Go.Proofs.Ytiikaajopgjliaa.AM
