/- What the functions of this chapter give: their contracts over the machine. -/
import Derived.Test.YtiikaajopgjliaaC18
import Derived.Test.YtiikaajopgjliaaAm3
/- Maps of numbers; slices of numbers. -/
namespace Go.Proofs.Ytiikaajopgjliaa.AM
set_option maxRecDepth 100000
set_option linter.unusedVariables false
set_option linter.unusedSimpArgs false

abbrev i64 (n : Int) : AVal := .int .i64 n
abbrev u64 (n : Int) : AVal := .int .u64 n
def Grow (σ σ' : St) : Prop := σ.next ≤ σ'.next ∧ ∀ a, a < σ.next → σ'.mem.get a = σ.mem.get a
theorem Grow.refl (σ : St) : Grow σ σ := ⟨Nat.le_refl _, fun _ _ => rfl⟩

/-! ### Maps -/

section
variable {β : Type} (f : β → AVal)
def EN (e : Entry) (p : Nat × β) : Prop := e.2.1 = u64 (p.1 : Int) ∧ e.2.2 = f p.2
end
def lkN {β : Type} : List (Nat × β) → Nat → Option β
  | [], _ => none
  | (k, x) :: T, n => if n = k then some x else lkN T n
def setN {β : Type} : List (Nat × β) → Nat → β → List (Nat × β)
  | [], n, y => [(n, y)]
  | (k, x) :: T, n, y => if n = k then (n, y) :: T else (k, x) :: setN T n y
theorem setN_new {β : Type} {n : Nat} {y : β} : ∀ {T : List (Nat × β)}, lkN T n = none → setN T n y = T ++ [(n, y)]
  | [], _ => rfl
  | (k, x) :: T, h => by
    simp only [lkN] at h
    by_cases hk : n = k
    · rw [if_pos hk] at h; cases h
    · rw [if_neg hk] at h
      simp only [setN]
      rw [if_neg hk, setN_new h]; rfl
theorem findN {β : Type} {f : β → AVal} {k : Nat} : ∀ {ents : List Entry} {T : List (Nat × β)}, All2 (EN f) ents T → (findA (u64 (k : Int)) ents = some none ∧ lkN T k = none) ∨ ∃ i x, findA (u64 (k : Int)) ents = some (some (i, f x)) ∧ lkN T k = some x ∧ ∀ y, All2 (EN f) (ents.modify i fun e => (e.1, u64 (k : Int), f y)) (setN T k y)
  | [], [], _ => .inl ⟨rfl, rfl⟩
  | (st, y, d) :: ents, (n, x) :: T, h => by
    obtain ⟨⟨hy, hd⟩, ht⟩ := h
    simp only at hy hd
    subst hy hd
    by_cases hnk : k = n
    · subst hnk
      refine .inr ⟨0, x, by simp [findA, keyEqA, keyEq], by simp [lkN], fun y => ?_⟩
      simp only [List.modify_zero_cons, setN, if_true]
      exact ⟨⟨rfl, rfl⟩, ht⟩
    · have hkn : ¬ (k : Int) = (n : Int) := by omega
      have hf : keyEqA (u64 (k : Int)) (u64 (n : Int)) = some false := by simp [keyEqA, keyEq, hkn]
      rcases findN (k := k) ht with ⟨h1, h2⟩ | ⟨i, x1, h1, h2, h3⟩
      · exact .inl ⟨by simp only [findA]; rw [hf]; simp only; rw [h1]; rfl, by simp [lkN, hnk, h2]⟩
      · refine .inr ⟨i + 1, x1, by simp only [findA]; rw [hf]; simp only; rw [h1]; rfl, by simp [lkN, hnk, h2], fun y => ?_⟩
        simp only [List.modify_succ_cons, setN, if_neg hnk]
        exact ⟨⟨rfl, rfl⟩, h3 y⟩
  | [], _ :: _, h => h.elim
  | _ :: _, [], h => h.elim
/-- A map of numbers in memory. -/
def MapN {β : Type} (f : β → AVal) (σ : St) (mp : Nat) (T : List (Nat × β)) : Prop := ∃ clock ents, σ.mem.get mp = some (.map clock ents) ∧ All2 (EN f) ents T ∧ (∀ e ∈ ents, e.1 < clock) ∧ (ents.map (·.1)).Nodup
theorem MapN.frame {β : Type} {f : β → AVal} {σ σ' : St} {mp : Nat} {T : List (Nat × β)} (h : MapN f σ mp T) (hm : σ'.mem.get mp = σ.mem.get mp) : MapN f σ' mp T := by
  obtain ⟨c, e, h1, h2⟩ := h
  exact ⟨c, e, hm.trans h1, h2⟩
theorem stamps_modify (f : Entry → Entry) (hf : ∀ e, (f e).1 = e.1) : ∀ (ents : List Entry) (i : Nat), (ents.modify i f).map (·.1) = ents.map (·.1)
  | [], 0 => rfl
  | [], i + 1 => rfl
  | e :: es, 0 => by simp [hf]
  | e :: es, i + 1 => by simp [stamps_modify f hf es i]
theorem stamps_lt {ents : List Entry} {c : Nat} : (∀ e ∈ ents, e.1 < c) ↔ ∀ s ∈ ents.map (·.1), s < c := by simp
/-- Set: what the map is then. -/
theorem MapN.put {β : Type} {f : β → AVal} {clock : Nat} {ents : List Entry} {T : List (Nat × β)} (ha : All2 (EN f) ents T) (hs : ∀ e ∈ ents, e.1 < clock) (hd : (ents.map (·.1)).Nodup) (k : Nat) (y : β) :
    (findA (u64 (k : Int)) ents = some none ∧ lkN T k = none ∧ ∀ (σ : St) (mp : Nat), σ.mem.get mp = some (.map (clock + 1) (ents ++ [(clock, u64 (k : Int), f y)])) → MapN f σ mp (setN T k y)) ∨
    ∃ i x, findA (u64 (k : Int)) ents = some (some (i, f x)) ∧ lkN T k = some x ∧ ∀ (σ : St) (mp : Nat), σ.mem.get mp = some (.map clock (ents.modify i fun e => (e.1, u64 (k : Int), f y))) → MapN f σ mp (setN T k y) := by
  rcases findN (k := k) ha with ⟨f1, f2⟩ | ⟨i, x, f1, f2, f3⟩
  · refine .inl ⟨f1, f2, fun σ mp hm => ⟨_, _, hm, ?_, ?_, ?_⟩⟩
    · rw [setN_new f2]; exact All2.snoc ⟨rfl, rfl⟩ ha
    · intro e he
      rcases List.mem_append.1 he with he | he
      · have := hs e he; omega
      · simp at he; subst he; simp
    · rw [List.map_append, List.nodup_append]
      refine ⟨hd, by simp, ?_⟩
      rintro a ha b hb rfl
      simp at hb; subst hb
      have := stamps_lt.1 hs _ ha
      omega
  · refine .inr ⟨i, x, f1, f2, fun σ mp hm => ⟨_, _, hm, f3 y, ?_, ?_⟩⟩
    · rw [stamps_lt, stamps_modify (fun e => (e.1, u64 (k : Int), f y)) (fun e => rfl), ← stamps_lt]; exact hs
    · rw [stamps_modify (fun e => (e.1, u64 (k : Int), f y)) (fun e => rfl)]; exact hd

/-- A map that isn't changed, walked: what the next step may be. -/
theorem next_fix {σ : St} {it mp clock : Nat} {S : List Nat} {ents : List Entry} (hi : σ.mem.get it = some (.iter (some mp) clock S clock)) (hm : σ.mem.get mp = some (.map clock ents)) (hs : ∀ e ∈ ents, e.1 < clock) :
    ∃ L, nextC σ (.ptr it 0) = some L ∧ ∀ p ∈ L, p = (.tup [.bool false], σ) ∨ ∃ e ∈ ents, e.1 ∉ S ∧ p = (.tup [.bool true, e.2.1, e.2.2], ⟨σ.mem.set it (.iter (some mp) clock (S ++ [e.1]) clock), σ.next⟩) := by
  have hno : (!S.isEmpty && !ents.isEmpty && ents.all fun e => decide (clock ≤ e.1)) = false := by
    cases ents with
    | nil => simp
    | cons e es =>
      have := hs e (by simp)
      have : decide (clock ≤ e.1) = false := by simp; omega
      simp [this]
  simp only [nextC, hi, hm, hno]
  refine ⟨_, rfl, fun p hp => ?_⟩
  rcases List.mem_append.1 hp with hp | hp
  · split at hp
    · simp at hp; exact .inl hp
    · cases hp
  · obtain ⟨e, he, rfl⟩ := List.mem_map.1 hp
    have he2 : e ∈ ents ∧ e.1 ∉ S := by
      rcases List.mem_append.1 he with he | he <;>
      · rw [List.mem_filter, List.mem_filter] at he
        exact ⟨he.1.1, by simpa using he.1.2⟩
    exact .inr ⟨e, he2.1, he2.2, rfl⟩
def leftE (S : List Nat) (ents : List Entry) : Nat := ents.countP fun e => decide (e.1 ∉ S)
theorem leftE_lt {S : List Nat} {e : Entry} : ∀ {ents : List Entry}, e ∈ ents → e.1 ∉ S → leftE (S ++ [e.1]) ents < leftE S ents
  | e0 :: ents, h, hs => by
    have hle : leftE (S ++ [e.1]) ents ≤ leftE S ents := List.countP_mono_left fun z _ h => by
      simp only [decide_eq_true_eq, List.mem_append, not_or] at h ⊢; exact h.1
    simp only [leftE, List.countP_cons] at hle ⊢
    rcases List.mem_cons.1 h with rfl | h
    · simp [hs]
      exact Nat.lt_succ_of_le (by simpa using hle)
    · have ih := leftE_lt h hs
      simp only [leftE] at ih
      by_cases h0 : e0.1 ∈ S
      · simp [h0]; simpa using ih
      · by_cases h1 : e0.1 = e.1
        · simp [h0, h1] at ih ⊢; omega
        · simp [h0, h1]; simpa using ih
theorem stamp_findE {e : Entry} : ∀ {ents : List Entry}, (ents.map (·.1)).Nodup → e ∈ ents → ents.find? (fun x => x.1 == e.1) = some e
  | e0 :: ents, hs, h => by
    simp only [List.map_cons, List.nodup_cons] at hs
    rcases List.mem_cons.1 h with rfl | h
    · simp
    · have hs0 : e0.1 ≠ e.1 := fun x => hs.1 (by rw [x]; exact List.mem_map.2 ⟨e, h, rfl⟩)
      have ih := stamp_findE hs.2 h
      have hb : (e0.1 == e.1) = false := by simpa using hs0
      simp only [List.find?_cons, hb]; exact ih

/-! ### Slices of numbers -/

def uc (l : List Nat) : List AVal := l.map fun (n : Nat) => u64 (n : Int)
theorem uc_len (l : List Nat) : (uc l).length = l.length := by simp [uc]
theorem uc_upto (lo : Nat) : ∀ l : List Nat, uptoL lo (uc l) = true
  | [] => rfl
  | x :: t => by have := uc_upto lo t; simp [uc] at this ⊢; exact this
theorem uc_get {l : List Nat} {i n : Nat} (h : l[i]? = some n) : (uc l)[i]? = some (u64 (n : Int)) := by simp [uc, h]
def UI (v : AVal) (l : List Nat) : Prop := v = .nilsl ∧ l = [] ∨ ∃ t, v = .isl (uc l) l.length t
def UM (σ : St) (v : AVal) (l : List Nat) : Prop := UI v l ∨ ∃ a o c t vals, v = .sl a o l.length c t ∧ l.length ≤ c ∧ a < σ.next ∧ σ.mem.get a = some (.cells 1 vals) ∧ o + l.length ≤ vals.length ∧ (vals.drop o).take l.length = uc l
theorem UM.len {σ : St} {v : AVal} {l : List Nat} (h : UM σ v l) (ρ : St) : evalV ρ (.len 1 v) = some (i64 l.length, ρ) := by
  rcases h with (⟨rfl, rfl⟩ | ⟨t, rfl⟩) | ⟨a, o, c, t, vals, rfl, _⟩ <;> simp
theorem UM.frame {σ σ' : St} {v : AVal} {l : List Nat} (h : UM σ v l) (hn : σ.next ≤ σ'.next) (hm : ∀ a, a < σ.next → σ'.mem.get a = σ.mem.get a) : UM σ' v l := by
  rcases h with h | ⟨a, o, c, t, vals, h1, h2, h3, h4, h5⟩
  · exact .inl h
  · exact .inr ⟨a, o, c, t, vals, h1, h2, by omega, (hm a h3).trans h4, h5⟩
theorem UM.src {σ : St} {v : AVal} {l : List Nat} (h : UM σ v l) {ρ : St} (hm : ∀ a, a < σ.next → ρ.mem.get a = σ.mem.get a) : srcL ρ 1 v = some (uc l, l.length) := by
  rcases h with (⟨rfl, rfl⟩ | ⟨t, rfl⟩) | ⟨a, o, c, t, vals, rfl, h2, h3, h4, h5, h6⟩
  · rfl
  · simp [srcL, uc_len]
  · simp [srcL, hm a h3, h4, h5, h6]
theorem UM.at {σ : St} {v : AVal} {l : List Nat} (hv : UM σ v l) {i n : Nat} (hx : l[i]? = some n) {ρ : St} (hm : ∀ a, a < σ.next → ρ.mem.get a = σ.mem.get a) :
    ∃ p, evalV ρ (.idxAddr 1 v (i64 i)) = some (p, ρ) ∧ evalV ρ (.ld1 p) = some (u64 (n : Int), ρ) := by
  have hi := (List.getElem?_eq_some_iff.1 hx).1
  have hu := uc_get hx
  rcases hv with (⟨rfl, rfl⟩ | ⟨t, rfl⟩) | ⟨a, o, c, t, vals, rfl, c2, c3, c4, c5, c6⟩
  · simp at hx
  · have e1 : ((uc l).drop i).take 1 = [u64 (n : Int)] := by
      have hil : i < (uc l).length := by rw [uc_len]; exact hi
      rw [List.drop_eq_getElem_cons hil, (List.getElem?_eq_some_iff.1 hu).2]; rfl
    exact ⟨.iptr [u64 (n : Int)], by simp [hi, e1], by simp⟩
  · have e0 : vals[o + i]? = some (u64 (n : Int)) := by
      have : ((vals.drop o).take l.length)[i]? = some (u64 (n : Int)) := by rw [c6]; exact hu
      rw [List.getElem?_take, if_pos hi, List.getElem?_drop] at this
      exact this
    have ga := (hm a c3).trans c4
    exact ⟨.ptr a (o + i), by simp [hi], by simp [ga, e0]⟩
theorem frz_sl {lo n o len cap es : Nat} {t : Bool} {m : Mem} {vals : List AVal} (hn : lo ≤ n) (hm : m.get n = some (.cells es vals)) (hl : o + len * es ≤ vals.length) (hu : uptoL lo vals = true) : frz lo m (.sl n o len cap t) = some (.isl ((vals.drop o).take (len * es)) len (t && decide (cap = len))) := by
  simp only [frz, frz1]
  rw [if_neg (by omega), hm]
  simp only
  rw [if_pos ⟨hl, hu⟩]
theorem uptoL_app (lo : Nat) : ∀ a b : List AVal, uptoL lo (a ++ b) = (uptoL lo a && uptoL lo b)
  | [], b => by simp [uptoL]
  | x :: a, b => by simp [uptoL, uptoL_app lo a b, Bool.and_assoc]
theorem frz_uc {lo : Nat} {m : Mem} {b : Nat} {l : List Nat} {c : Nat} {t : Bool} {rest : List AVal} (hb : lo ≤ b) (hm : m.get b = some (.cells 1 (uc l ++ rest))) (hr : uptoL lo rest = true) : ∃ v', frz lo m (.sl b 0 l.length c t) = some v' ∧ UI v' l := by
  have h := frz_sl (o := 0) (len := l.length) (cap := c) (t := t) hb hm (by rw [List.length_append, uc_len]; omega) (by rw [uptoL_app, uc_upto, hr]; rfl)
  rw [List.drop_zero, Nat.mul_one, List.take_append_of_le_length (by rw [uc_len]; omega), List.take_of_length_le (by rw [uc_len]; omega)] at h
  exact ⟨_, h, .inr ⟨_, rfl⟩⟩

/-! ### Index, Contains, Grow, Concat -/

def idxN (l : List Nat) (n : Nat) : Int := match l.findIdx? fun x => decide (x = n) with
  | some i => i
  | none => -1
def IdxJ (v : AVal) (n : Nat) (l : List Nat) (σ0 : St) (mm : Nat) (rg : Regs) (σ' : St) : Prop := ∃ i : Nat, mm = l.length - i ∧ i ≤ l.length ∧ (∀ x ∈ l.take i, x ≠ n) ∧ σ' = σ0 ∧ rg = [(0, v), (1, u64 (n : Int)), (7, i64 l.length), (8, i64 i)]
theorem idxN_some {l : List Nat} {n i : Nat} (h1 : l[i]? = some n) (h3 : ∀ y ∈ l.take i, y ≠ n) : idxN l n = i := by
  have hi := (List.getElem?_eq_some_iff.1 h1).1
  have : (l.findIdx? fun x => decide (x = n)) = some i := by
    simp only [List.findIdx?_eq_some_iff_getElem]
    refine ⟨hi, by rw [(List.getElem?_eq_some_iff.1 h1).2]; simp, fun j hj => ?_⟩
    have := h3 l[j] (List.mem_of_getElem? (by rw [List.getElem?_take, if_pos hj]; exact List.getElem?_eq_getElem (by omega)))
    simpa using this
  rw [idxN, this]
theorem idxN_none {l : List Nat} {n : Nat} (h : ∀ y ∈ l, y ≠ n) : idxN l n = -1 := by
  have : (l.findIdx? fun x => decide (x = n)) = none := by
    simp only [List.findIdx?_eq_none_iff]
    intro x hx; simpa using h x hx
  rw [idxN, this]
theorem index_c {σ : St} {v : AVal} {l : List Nat} (hv : UM σ v l) (hl : l.length ≤ 1000000) (n : Nat) (Q : AVal → St → Prop) (h : Q (i64 (idxN l n)) σ) : ACall Try.prog 44 [v, u64 (n : Int)] σ Q := by
  refine ACall.of_compF hmx (fun a w => Try.call44 a w) Try.func44 cf44 (n := 2) (by decide) rfl ?_
  have l1 := hv.len
  simp [ac44, rs44, lk_cons, ↓l1]
  refine wp_loop (IdxJ v n l σ) l.length ?_ ?_
  · exact ⟨0, rfl, Nat.zero_le _, by simp, rfl, rfl⟩
  · rintro mm rg σ' ⟨i, rfl, hi, hp, rfl, rfl⟩
    by_cases hlt : i < l.length
    · obtain ⟨x, hx⟩ : ∃ x, l[i]? = some x := ⟨_, List.getElem?_eq_getElem hlt⟩
      obtain ⟨k, hk⟩ : ∃ k, i + 1 = k := ⟨_, rfl⟩
      have w1 : IntKind.i64.wrap ((i : Int) + 1) = (k : Int) := by rw [IntWalk.i64_in] <;> omega
      obtain ⟨p, p1, p2⟩ := hv.at hx (ρ := σ') fun _ _ => rfl
      by_cases hxn : x = n
      · have := idxN_some (l := l) (n := n) (i := i) (hxn ▸ hx) hp
        rw [this] at h
        simp [lk_cons, hlt, ↓p1, ↓p2, hxn]
        exact h
      · have hxn' : ¬ (n : Int) = (x : Int) := by omega
        have hxn2 : ¬ n = x := fun e => hxn e.symm
        simp [lk_cons, hlt, ↓p1, ↓p2, hxn', hxn2, w1]
        refine ⟨l.length - k, by omega, k, rfl, by omega, fun y hy => ?_, rfl, rfl⟩
        rw [← hk, List.take_add_one, hx] at hy
        rcases List.mem_append.1 hy with hy | hy
        · exact hp y hy
        · simp at hy; subst hy; exact hxn
    · have : i = l.length := by omega
      subst this
      rw [List.take_length] at hp
      rw [idxN_none hp] at h
      simp [lk_cons]
      exact h
theorem contains_c {σ : St} {v : AVal} {l : List Nat} (hv : UM σ v l) (hl : l.length ≤ 1000000) (n : Nat) (Q : AVal → St → Prop) (h : Q (.bool (decide (n ∈ l))) σ) : ACall Try.prog 29 [v, u64 (n : Int)] σ Q := by
  refine ACall.of_compF hmx (fun a w => Try.call29 a w) Try.func29 cf29 (n := 2) (by decide) rfl ?_
  simp [ac29, rs29, lk_cons]
  refine index_c hv hl n _ ?_
  by_cases hn : n ∈ l
  · rw [decide_eq_true hn] at h
    have : 0 ≤ idxN l n := by
      unfold idxN
      split
      · omega
      · rename_i he
        simp only [List.findIdx?_eq_none_iff] at he
        have := he n hn
        simp at this
    simp [lk_cons, this]
    exact h
  · rw [decide_eq_false hn] at h
    rw [idxN_none fun y hy e => hn (by rw [← e]; exact hy)]
    simp [lk_cons]
    exact h
end Go.Proofs.Ytiikaajopgjliaa.AM

/- Grow, Concat of numbers. -/
namespace Go.Proofs.Ytiikaajopgjliaa.AM
set_option maxRecDepth 100000
set_option linter.unusedVariables false
set_option linter.unusedSimpArgs false
theorem uc_app (l m : List Nat) : uc (l ++ m) = uc l ++ uc m := by simp [uc]

/-- Room for n. -/
def Room (v : AVal) (b n k : Nat) : Prop := n = 0 ∧ v = .nilsl ∧ k = 0 ∨ 0 < n ∧ v = .sl b 0 k n false
theorem grow_c (σ : St) (n : Nat) (hn : n ≤ 1000000) (Q : AVal → St → Prop) (h0 : n = 0 → Q .nilsl σ) (h1 : 0 < n → Q (.sl σ.next 0 0 n false) ⟨σ.mem.set σ.next (.cells 1 (repL n [u64 0])), σ.next + 1⟩) : ACall Try.prog 64 [.nilsl, i64 n] σ Q := by
  refine ACall.of_compF hmx (fun a w => Try.call64 a w) Try.func64 cf64 (n := 2) (by decide) rfl ?_
  have w0 : IntKind.i64.wrap 0 = 0 := by rw [IntWalk.i64_in]; omega
  have w1 : IntKind.i64.wrap (n : Int) = n := by rw [IntWalk.i64_in]; omega
  by_cases hz : n = 0
  · have := h0 hz
    subst hz
    simp [ac64, rs64, lk_cons, w0]
    exact this
  · have hp : 0 < n := by omega
    have := h1 hp
    have h16 : (n : Int) * 8 ≤ 140737488355328 ∧ (n : Int) ≤ 9223372036854775807 := by omega
    have hneg : ¬ (n : Int) < 0 := by omega
    have hp' : (0 : Int) < n := by omega
    simp [ac64, rs64, lk_cons, w0, w1, hneg, hp, hp', optM, asliceSl, bnd, h16]
    exact this

def cat (ls : List (List Nat)) : List Nat := ls.flatten
def CcJ1 (a N : Nat) (ls : List (List Nat)) (σ0 : St) (mm : Nat) (rg : Regs) (σ' : St) : Prop := ∃ i : Nat, mm = N - i ∧ i ≤ N ∧ σ' = σ0 ∧ rg = [(0, .sl a 0 N N true), (3, i64 (cat (ls.take i)).length), (9, .sl a 0 N N true), (10, i64 N), (11, i64 i)]
def CcJ2 (a N n : Nat) (ls : List (List Nat)) (σ0 : St) (mm : Nat) (rg : Regs) (σ' : St) : Prop := ∃ (i : Nat) (v : AVal) (rest : List AVal), mm = N - i ∧ i ≤ N ∧ Grow σ0 σ' ∧ (n = 0 ∧ v = .nilsl ∨ 0 < n ∧ v = .sl σ0.next 0 (cat (ls.take i)).length n false ∧ σ0.next < σ'.next ∧ σ'.mem.get σ0.next = some (.cells 1 (uc (cat (ls.take i)) ++ rest)) ∧ (cat (ls.take i)).length + rest.length = n ∧ uptoL σ0.next rest = true) ∧ rg = [(6, v), (25, .sl a 0 N N true), (26, i64 N), (27, i64 i)]

theorem store_mid : ∀ (y x r : List AVal), y.length ≤ r.length → storeL (x ++ r) x.length y = x ++ y ++ r.drop y.length
  | [], x, r, _ => by simp [storeL]
  | c :: y, x, [], h => by simp at h
  | c :: y, x, r0 :: r, h => by
    have e : (x ++ r0 :: r).set x.length c = (x ++ [c]) ++ r := by simp
    have e2 : x.length + 1 = (x ++ [c]).length := by simp
    simp only [storeL]
    rw [e, e2, store_mid y (x ++ [c]) r (by simpa using h)]
    simp
theorem upto_rep (lo : Nat) : ∀ n, uptoL lo (repL n [u64 0]) = true := by
  intro n
  induction n with
  | zero => rfl
  | succ n ih => simp only [repL, List.replicate_succ, List.flatten_cons] at ih ⊢; rw [uptoL_app, ih]; rfl
theorem upto_drop (lo : Nat) : ∀ (l : List AVal) (n : Nat), uptoL lo l = true → uptoL lo (l.drop n) = true
  | [], n, _ => by simp [uptoL]
  | x :: l, 0, h => h
  | x :: l, n + 1, h => by
    simp only [uptoL, Bool.and_eq_true] at h
    exact upto_drop lo l n h.2

theorem concat_c {σ : St} {a N : Nat} {vs : List AVal} {ls : List (List Nat)} (hN : N ≤ 1000) (hvs : vs.length = N) (ha : a < σ.next) (hm : σ.mem.get a = some (.cells 1 vs)) (hall : All2 (UM σ) vs ls) (hlen : (cat ls).length ≤ 100000) (Q : AVal → St → Prop) (h : ∀ v', UI v' (cat ls) → Q v' σ) : ACall Try.prog 56 [.sl a 0 N N true] σ Q := by
  refine ACall.freeze ?_
  refine ACall.of_compF hmx (fun a w => Try.call56 a w) Try.func56 cf56 (n := 1) (by decide) rfl ?_
  have hll : ls.length = N := by have := hall.len; omega
  have step : ∀ i, i < N → ∃ v l, vs[i]? = some v ∧ ls[i]? = some l ∧ UM σ v l ∧ cat (ls.take (i + 1)) = cat (ls.take i) ++ l ∧ (cat (ls.take i)).length + l.length ≤ (cat ls).length := by
    intro i hi
    obtain ⟨v, hv⟩ : ∃ v, vs[i]? = some v := ⟨_, List.getElem?_eq_getElem (by omega)⟩
    obtain ⟨l, hl, hr⟩ := hall.get hv
    have e : cat (ls.take (i + 1)) = cat (ls.take i) ++ l := by simp [cat, List.take_add_one, hl]
    refine ⟨v, l, hv, hl, hr, e, ?_⟩
    have : cat ls = cat (ls.take (i + 1)) ++ cat (ls.drop (i + 1)) := by simp only [cat, ← List.flatten_append, List.take_append_drop]
    rw [this, e]; simp <;> omega
  simp [ac56, rs56, lk_cons]
  refine wp_loop (CcJ1 a N ls σ) N ?_ ?_
  · exact ⟨0, rfl, Nat.zero_le _, rfl, rfl⟩
  · rintro mm rg σ' ⟨i, rfl, hi, rfl, rfl⟩
    by_cases hlt : i < N
    · obtain ⟨v, l, g1, g2, g3, g4, g5⟩ := step i hlt
      obtain ⟨k, hk⟩ : ∃ k, i + 1 = k := ⟨_, rfl⟩
      have w1 : IntKind.i64.wrap ((i : Int) + 1) = (k : Int) := by rw [IntWalk.i64_in] <;> omega
      have l1 := g3.len
      obtain ⟨s, hs⟩ : ∃ s, (cat (ls.take i)).length + l.length = s := ⟨_, rfl⟩
      have w2 : IntKind.i64.wrap (((cat (ls.take i)).length : Int) + (l.length : Int)) = (s : Int) := by rw [IntWalk.i64_in] <;> omega
      have hneg : ¬ (s : Int) < 0 := by omega
      simp [lk_cons, hlt, hm, g1, ↓l1, w2, w1, hneg]
      exact ⟨N - k, by omega, k, rfl, by omega, rfl, by rw [← hk, g4, List.length_append, hs]⟩
    · have : i = N := by omega
      subst this
      have ht : ls.take i = ls := List.take_of_length_le (by omega)
      rw [ht]
      obtain ⟨n, hn⟩ : ∃ n, (cat ls).length = n := ⟨_, rfl⟩
      simp [lk_cons]
      rw [hn]
      have old : ∀ (σ1 : St) (v' : AVal), Grow σ' σ1 → (∃ v'', frz σ'.next σ1.mem v' = some v'' ∧ UI v'' (cat ls)) → Old σ' σ1 ∧ ∃ v'', frz σ'.next σ1.mem v' = some v'' ∧ Q v'' σ' := fun σ1 v' hg ⟨v'', f1, f2⟩ => ⟨fun a ha => hg.2 a ha, v'', f1, h v'' f2⟩
      refine grow_c _ n (by omega) _ (fun hn0 => ?_) fun hnp => ?_
      case' refine_1 =>
        simp [lk_cons]
        refine wp_loop (CcJ2 a i n ls σ') i ⟨0, _, [], rfl, by omega, Grow.refl _, .inl ⟨hn0, rfl⟩, rfl⟩ ?_
        clear hn0
      case' refine_2 =>
        simp [lk_cons]
        refine wp_loop (CcJ2 a i n ls σ') i ⟨0, _, repL n [u64 0], rfl, by omega, ⟨by simp, fun a ha => by simp [show ¬ a = σ'.next by omega]⟩, .inr ⟨hnp, rfl, by simp, by simp [cat, uc], by simp [cat, repL_length], upto_rep _ n⟩, rfl⟩ ?_
        clear hnp
      all_goals
        rintro mm rg σ2 ⟨j, v, rest, rfl, hj, hg, hv, rfl⟩
        have hm2 := (hg.2 a ha).trans hm
        by_cases hlt2 : j < i
        · obtain ⟨w, l, g1, g2, g3, g4, g5⟩ := step j hlt2
          obtain ⟨k, hk⟩ : ∃ k, j + 1 = k := ⟨_, rfl⟩
          have w1 : IntKind.i64.wrap ((j : Int) + 1) = (k : Int) := by rw [IntWalk.i64_in] <;> omega
          have hs := g3.src (ρ := σ2) hg.2
          rw [hk] at g4
          rw [hn] at g5
          rcases hv with ⟨hn0, rfl⟩ | ⟨hnp, rfl, hb, hmb, hml, hru⟩
          · have hl0 : l.length = 0 := by omega
            simp [lk_cons, hlt2, hm2, g1, hs, hl0, w1]
            exact ⟨i - k, by omega, k, _, [], rfl, by omega, hg, .inl ⟨hn0, rfl⟩, rfl⟩
          · have hroom : (cat (ls.take j)).length + l.length ≤ n := g5
            have hc : ((cat (ls.take j)).length + l.length) ≤ (uc (cat (ls.take j)) ++ rest).length := by rw [List.length_append, uc_len]; omega
            have hc' : ((cat (ls.take j)).length + l.length) ≤ (uc (cat (ls.take j))).length + rest.length := by rw [uc_len]; omega
            have hsm := store_mid (uc l) (uc (cat (ls.take j))) rest (by rw [uc_len]; omega)
            rw [uc_len (cat (ls.take j)), ← uc_app, ← g4, uc_len] at hsm
            have hl2 := congrArg List.length g4
            rw [List.length_append] at hl2
            have hne : ¬ a = σ'.next := by omega
            simp [lk_cons, hlt2, hm2, g1, hs, hmb, hroom, w1, hc', hsm]
            refine ⟨i - k, by omega, k, _, rest.drop l.length, rfl, by omega, ⟨hg.1, fun x hx => ?_⟩, .inr ⟨hnp, by rw [hl2], hb, by simp, ?_, upto_drop _ _ _ hru⟩, rfl⟩
            · simp [show ¬ x = σ'.next by omega]; exact hg.2 x hx
            · simp; omega
        · have : j = i := by omega
          subst this
          simp [lk_cons, hlt2]
          rw [ht] at hv
          refine old σ2 v hg ?_
          rcases hv with ⟨hn0, rfl⟩ | ⟨hnp, rfl, hb, hmb, hml, hru⟩
          · exact ⟨.nilsl, rfl, .inl ⟨rfl, List.length_eq_zero_iff.1 (by omega)⟩⟩
          · exact frz_uc (Nat.le_refl _) hmb hru
end Go.Proofs.Ytiikaajopgjliaa.AM

/- A desk that hands out by turns. -/
namespace Go.Proofs.Ytiikaajopgjliaa.AM
set_option maxRecDepth 100000
set_option linter.unusedVariables false
set_option linter.unusedSimpArgs false

def iV (p : Int) : AVal := i64 p
def LV (σ : St) (d pm om : Nat) (lv : AVal) (L : List Nat) : Prop := lv = .nilsl ∧ L = [] ∨ ∃ lb, lv = .sl lb 0 L.length L.length false ∧ 0 < L.length ∧ lb < σ.next ∧ lb ≠ d ∧ lb ≠ pm ∧ lb ≠ om ∧ σ.mem.get lb = some (.cells 1 (uc L))
theorem LV.um {σ : St} {d pm om : Nat} {lv : AVal} {L : List Nat} (h : LV σ d pm om lv L) : UM σ lv L := by
  rcases h with h | ⟨lb, h1, h0, h2, _, _, _, h3⟩
  · exact .inl (.inl h)
  · exact .inr ⟨lb, 0, _, _, _, h1, Nat.le_refl _, h2, h3, by rw [uc_len]; omega, by rw [List.drop_zero, List.take_of_length_le (by rw [uc_len]; omega)]⟩
def OutM (σ : St) (om k : Nat) : Prop := ∃ clock ents, σ.mem.get om = some (.map clock ents) ∧ ents.length = k ∧ ∀ e ∈ ents, ∃ j : Nat, j < k ∧ e.2.1 = .agg [u64 0, u64 (j : Int)]
structure DRep (σ : St) (d pm om : Nat) (L : List Nat) (T : List (Nat × Int)) (k last : Nat) : Prop where
  head : ∃ lv, σ.mem.get d = some (.cells 5 [.int .u8 3, lv, .map pm, .map om, u64 (last : Int)]) ∧ LV σ d pm om lv L
  perm : MapN iV σ pm T
  outs : OutM σ om k
  ne : d ≠ pm ∧ d ≠ om ∧ pm ≠ om
  lt : d < σ.next ∧ pm < σ.next ∧ om < σ.next
def Keep3 (d pm om : Nat) (σ σ' : St) : Prop := σ.next ≤ σ'.next ∧ ∀ a, a < σ.next → a ≠ d → a ≠ pm → a ≠ om → σ'.mem.get a = σ.mem.get a
theorem DRep.frame {σ σ' : St} {d pm om : Nat} {L : List Nat} {T : List (Nat × Int)} {k last : Nat} (h : DRep σ d pm om L T k last) (hg : Grow σ σ') : DRep σ' d pm om L T k last := by
  obtain ⟨⟨lv, h1, h2⟩, h3, ⟨c, e, h4, h5⟩, h6, h7⟩ := h
  refine ⟨⟨lv, (hg.2 d h7.1).trans h1, ?_⟩, h3.frame (hg.2 pm h7.2.1), ⟨c, e, (hg.2 om h7.2.2).trans h4, h5⟩, h6, by have := hg.1; omega⟩
  rcases h2 with h | ⟨lb, g1, g0, g2, g3, g4, g5, g6⟩
  · exact .inl h
  · exact .inr ⟨lb, g1, g0, by have := hg.1; omega, g3, g4, g5, (hg.2 lb g2).trans g6⟩
/-- What else is written. -/
theorem DRep.keep {σ σ' : St} {d pm om : Nat} {L : List Nat} {T : List (Nat × Int)} {k last : Nat} (h : DRep σ d pm om L T k last) (hn : σ.next ≤ σ'.next) (x : Nat) (hx : x ≠ d ∧ x ≠ pm ∧ x ≠ om) (hb : ∀ b, σ.mem.get x = some b → ∃ c e, b = .map c e) (hm : ∀ a, a < σ.next → a ≠ x → σ'.mem.get a = σ.mem.get a) : DRep σ' d pm om L T k last := by
  obtain ⟨⟨lv, h1, h2⟩, h3, ⟨c, e, h4, h5⟩, h6, h7⟩ := h
  refine ⟨⟨lv, (hm d h7.1 (Ne.symm hx.1)).trans h1, ?_⟩, h3.frame (hm pm h7.2.1 (Ne.symm hx.2.1)), ⟨c, e, (hm om h7.2.2 (Ne.symm hx.2.2)).trans h4, h5⟩, h6, by omega⟩
  rcases h2 with h | ⟨lb, g1, g0, g2, g3, g4, g5, g6⟩
  · exact .inl h
  · refine .inr ⟨lb, g1, g0, by omega, g3, g4, g5, (hm lb g2 fun e => ?_).trans g6⟩
    subst e
    obtain ⟨c, e, he⟩ := hb _ g6
    cases he

theorem dnew_c (σ : St) (Q : AVal → St → Prop) (h : ∀ d pm om σ', DRep σ' d pm om [] [] 0 0 → Grow σ σ' → Q (.tup [.ptr d 0, i64 0]) σ') : ACall Try.prog 11 [.int .u8 3] σ Q := by
  refine ACall.of_compF hmx (fun a w => Try.call11 a w) Try.func11 cf11 (n := 1) (by decide) rfl ?_
  simp [ac11, rs11, lk_cons, fillL, storeL]
  have e1 : ¬ σ.next = σ.next + 1 := by omega
  have e2 : ¬ σ.next = σ.next + 1 + 1 := by omega
  have e3 : ¬ σ.next + 1 = σ.next + 1 + 1 := by omega
  refine h (σ.next + 1 + 1) σ.next (σ.next + 1) _ ⟨⟨.nilsl, by simp, .inl ⟨rfl, rfl⟩⟩, ⟨0, [], by simp [e1, e2], trivial, by simp, by simp⟩, ⟨0, [], by simp [e3], rfl, by simp⟩, ⟨by omega, by omega, by omega⟩, ⟨by simp, by simp; omega, by simp⟩⟩ ⟨by simp; omega, fun a ha => by simp [show ¬ a = σ.next by omega, show ¬ a = σ.next + 1 by omega, show ¬ a = σ.next + 1 + 1 by omega]⟩

def joinC (L : List Nat) (c : Nat) : Int := if c = 0 then 2 else if c ∈ L then 12 else if 8 ≤ L.length then 14 else 0
theorem join_c {σ : St} {d pm om : Nat} {L : List Nat} {T : List (Nat × Int)} {k last : Nat} (h : DRep σ d pm om L T k last) (hL : L.length ≤ 1000) (c : Nat) (Q : AVal → St → Prop) (hQ : ∀ σ', DRep σ' d pm om (if joinC L c = 0 then L ++ [c] else L) T k last → σ.next ≤ σ'.next → (∀ a, a < σ.next → a ≠ d → (∀ b, σ.mem.get a = some b → (∃ c e, b = .map c e) ∨ ∃ x y z w, b = .iter x y z w) → σ'.mem.get a = σ.mem.get a) → Q (i64 (joinC L c)) σ') :
    ACall Try.prog 12 [.ptr d 0, u64 (c : Int)] σ Q := by
  refine ACall.of_compF hmx (fun a w => Try.call12 a w) Try.func12 cf12 (n := 2) (by decide) rfl ?_
  obtain ⟨⟨lv, hh, hlv⟩, hpm, hom, hne, hlt⟩ := id h
  have hum := hlv.um
  have l1 := hum.len
  have bad : ∀ x : Int, joinC L c = x → x ≠ 0 → Q (i64 x) σ := fun x hx h0 => by
    have := hQ σ (by rw [hx, if_neg h0]; exact h) (Nat.le_refl _) (fun _ _ _ _ => rfl)
    rw [hx] at this; exact this
  by_cases hc0 : c = 0
  · have hc0' : (c : Int) = 0 := by omega
    simp [ac12, rs12, lk_cons, hc0, hc0']
    exact bad 2 (by simp [joinC, hc0]) (by omega)
  have hc0' : ¬ (c : Int) = 0 := by omega
  simp [ac12, rs12, lk_cons, hc0, hc0', hh]
  refine contains_c hum (by omega) c _ ?_
  by_cases hcL : c ∈ L
  · simp [lk_cons, hcL]
    exact bad 12 (by simp [joinC, hc0, hcL]) (by omega)
  by_cases h8 : 8 ≤ L.length
  · have h8' : (8 : Int) ≤ L.length := by omega
    simp [lk_cons, hcL, hh, ↓l1, h8, h8']
    exact bad 14 (by simp [joinC, hc0, hcL, h8]) (by omega)
  have hj : joinC L c = 0 := by simp [joinC, hc0, hcL, h8]
  have h8' : ¬ (8 : Int) ≤ L.length := by omega
  rw [hj] at hQ
  simp only [if_pos] at hQ
  have e1 : ¬ d = σ.next := by omega
  have e2 : ¬ d = σ.next + 1 := by omega
  have e3 : ¬ pm = σ.next := by omega
  have e4 : ¬ pm = σ.next + 1 := by omega
  have e5 : ¬ om = σ.next := by omega
  have e6 : ¬ om = σ.next + 1 := by omega
  have e7 : ¬ pm = d := Ne.symm hne.1
  have e8 : ¬ om = d := Ne.symm hne.2.1
  have e9 : ¬ σ.next + 1 = d := by omega
  obtain ⟨cp, ep, hp1, hp2⟩ := hpm
  obtain ⟨co, eo, ho1, ho2⟩ := hom
  rcases hlv with ⟨rfl, rfl⟩ | ⟨lb, rfl, hb0, hb1, hb2, hb3, hb4, hb5⟩
  · simp [lk_cons, hcL, hh, fillL, repL, srcL, storeL, e1, e2]
    refine hQ _ ⟨⟨.sl (σ.next + 1) 0 1 1 false, by simp, .inr ⟨σ.next + 1, rfl, by simp, by simp, by omega, by omega, by omega, by simp [e9, uc]⟩⟩, ⟨cp, ep, by simp [e3, e4, e7, hp1], hp2⟩, ⟨co, eo, by simp [e5, e6, e8, ho1], ho2⟩, hne, by simp; omega⟩ (by simp; omega) fun a ha had _ => by simp [show ¬ a = σ.next by omega, show ¬ a = σ.next + 1 by omega, had]
  · have k1 : ¬ L.length + 1 ≤ L.length := by omega
    have k2 : L.length ≤ (uc L).length := by rw [uc_len]; omega
    have k3 : (L.length + 1) * 8 ≤ 140737488355328 ∧ L.length + 1 ≤ 9223372036854775807 := by omega
    have k4 : (uc L).take L.length = uc L := List.take_of_length_le (by rw [uc_len]; omega)
    have k5 : L.length ≤ 9223372036854775806 := by omega
    have f1 : ¬ lb = σ.next := by omega
    have f2 : ¬ d = lb := Ne.symm hb2
    simp [lk_cons, hcL, hh, ↓l1, h8, h8', fillL, repL, srcL, storeL, e1, e2, hb5, f1, Ne.symm f1, k1, k2, k3, k4, k5, f2]
    refine hQ _ ⟨⟨_, by simp; rfl, .inr ⟨σ.next + 1, by simp, by simp, by simp, by omega, by omega, by omega, by simp [e9, uc_app, uc]⟩⟩, ⟨cp, ep, by simp [e3, e4, e7, Ne.symm hb3, hp1], hp2⟩, ⟨co, eo, by simp [e5, e6, e8, Ne.symm hb4, ho1], ho2⟩, hne, by simp; omega⟩ (by simp; omega) fun a ha had hk => ?_
    have : ¬ a = lb := fun e => by
      subst e
      rcases hk _ hb5 with ⟨c, e, he⟩ | ⟨_, _, _, _, he⟩ <;> cases he
    simp [show ¬ a = σ.next by omega, show ¬ a = σ.next + 1 by omega, had, this]

theorem flow_c {σ : St} {d pm om : Nat} {L : List Nat} {T : List (Nat × Int)} {k last : Nat} (h : DRep σ d pm om L T k last) (hL : L.length ≤ 1000) (c : Nat) (hc : c ∈ L) (hT : lkN T c = none) (Q : AVal → St → Prop) (hQ : ∀ σ', DRep σ' d pm om L (T ++ [(c, 100)]) k last → σ.next ≤ σ'.next → (∀ a, a < σ.next → a ≠ pm → σ'.mem.get a = σ.mem.get a) → Q (i64 0) σ') :
    ACall Try.prog 13 [.ptr d 0, u64 (c : Int), i64 100] σ Q := by
  refine ACall.of_compF hmx (fun a w => Try.call13 a w) Try.func13 cf13 (n := 3) (by decide) rfl ?_
  obtain ⟨⟨lv, hh, hlv⟩, ⟨cp, ep, hp1, hp2, hp3, hp4⟩, hom, hne, hlt⟩ := id h
  have hum := hlv.um
  have w1 : IntKind.i64.wrap 1000 = 1000 := by rw [IntWalk.i64_in]; omega
  have w2 : IntKind.i64.wrap 100 = 100 := by rw [IntWalk.i64_in]; omega
  rcases MapN.put hp2 hp3 hp4 c 100 with ⟨f1, f2, f3⟩ | ⟨i, x, f1, f2, f3⟩
  · simp [ac13, rs13, lk_cons, hh]
    refine contains_c hum (by omega) c _ ?_
    simp [lk_cons, hc, hh, hp1, f1, keyIs, shapeOk, kShape, w1, w2]
    have hset := setN_new (y := (100 : Int)) f2
    rw [hset] at f3
    refine hQ _ ⟨⟨lv, by simp [hne.1, hh], ?_⟩, f3 _ _ (by simp [iV]), ?_, hne, by simpa using hlt⟩ (by simp) fun a ha hx => by simp [hx]
    · rcases hlv with h | ⟨lb, g1, g0, g2, g3, g4, g5, g6⟩
      · exact .inl h
      · exact .inr ⟨lb, g1, g0, g2, g3, g4, g5, by simp [g4, g6]⟩
    · obtain ⟨c, e, h4, h5⟩ := hom
      exact ⟨c, e, by simp [Ne.symm hne.2.2, h4], h5⟩
  · rw [hT] at f2; cases f2

theorem turn_c {σ : St} {d pm om : Nat} {L : List Nat} {T : List (Nat × Int)} {k last : Nat} (h : DRep σ d pm om L T k last) (hL : L.length ≤ 1000) (i : Nat) (hi : idxN L last + 1 = i) (hil : i ≤ L.length) (Q : AVal → St → Prop) (hQ : ∀ v, UI v (L.drop i ++ L.take i) → Q v σ) : ACall Try.prog 45 [.ptr d 0] σ Q := by
  refine ACall.scrub ?_
  refine ACall.of_compF hmx (fun a w => Try.call45 a w) Try.func45 cf45 (n := 1) (by decide) rfl ?_
  obtain ⟨⟨lv, hh, hlv⟩, hpm, hom, hne, hlt⟩ := id h
  have hum := hlv.um
  have w1 : IntKind.i64.wrap (idxN L last + 1) = (i : Int) := by rw [hi, IntWalk.i64_in]; omega
  have hup : ∀ v l, UI v l → v.upto σ.next = true := by
    intro v l hv
    rcases hv with ⟨rfl, _⟩ | ⟨t, rfl⟩
    · rfl
    · simp [AVal.upto, uc_upto]
  simp [ac45, rs45, lk_cons, hh]
  refine index_c hum (by omega) last _ ?_
  simp [lk_cons, w1, hh]
  have cc : ∀ (v1 v2 : AVal), UM ⟨σ.mem.set σ.next (.cells 1 [v1, v2]), σ.next + 1⟩ v1 (L.drop i) → UM ⟨σ.mem.set σ.next (.cells 1 [v1, v2]), σ.next + 1⟩ v2 (L.take i) → ∀ Q', (∀ v', UI v' (L.drop i ++ L.take i) → Q' v' ⟨σ.mem.set σ.next (.cells 1 [v1, v2]), σ.next + 1⟩) → ACall Try.prog 56 [.sl σ.next 0 2 2 true] ⟨σ.mem.set σ.next (.cells 1 [v1, v2]), σ.next + 1⟩ Q' := by
    intro v1 v2 h1 h2 Q' h'
    refine concat_c (N := 2) (vs := [v1, v2]) (ls := [L.drop i, L.take i]) (by omega) rfl (by simp) (by simp) ⟨h1, h2, trivial⟩ (by simp [cat]; omega) Q' fun v' hv' => h' v' ?_
    simpa [cat] using hv'
  rcases hlv with ⟨rfl, rfl⟩ | ⟨lb, rfl, hb0, hb1, hb2, hb3, hb4, hb5⟩
  · have hi0 : i = 0 := by simpa using hil
    simp [lk_cons, hi0, optM, asliceSl, bnd, fillL, repL, storeL, hh]
    refine cc .nilsl .nilsl (.inl (.inl ⟨rfl, by simp⟩)) (.inl (.inl ⟨rfl, by simp⟩)) _ fun v' hv' => ?_
    simp [lk_cons]
    exact ⟨hup _ _ hv', fun a ha => by simp [show ¬ a = σ.next by omega], hQ v' hv'⟩
  · have f1 : ¬ lb = σ.next := by omega
    simp [lk_cons, optM, asliceSl, bnd, fillL, repL, storeL, hh, hil, hb5, f1]
    refine cc _ _ ?_ ?_ _ fun v' hv' => ?_
    · refine .inr ⟨lb, i, L.length - i, false, uc L, by rw [List.length_drop], by rw [List.length_drop]; exact Nat.le_refl _, by simp; omega, by simp [f1, hb5], by rw [uc_len, List.length_drop]; omega, ?_⟩
      rw [List.length_drop]; simp [uc, List.take_of_length_le]
    · refine .inr ⟨lb, 0, L.length, false, uc L, by rw [List.length_take, Nat.min_eq_left hil], by rw [List.length_take]; omega, by simp; omega, by simp [f1, hb5], by rw [uc_len, List.length_take]; omega, ?_⟩
      rw [List.length_take, Nat.min_eq_left hil]; simp [uc]
    simp [lk_cons]
    exact ⟨hup _ _ hv', fun a ha => by simp [show ¬ a = σ.next by omega], hQ v' hv'⟩
end Go.Proofs.Ytiikaajopgjliaa.AM

/- A desk that hands out by turns: Offer. -/
namespace Go.Proofs.Ytiikaajopgjliaa.AM
set_option maxRecDepth 100000
set_option linter.unusedVariables false
set_option linter.unusedSimpArgs false

theorem outs_none {k : Nat} : ∀ {ents : List Entry}, (∀ e ∈ ents, ∃ j : Nat, j < k ∧ e.2.1 = .agg [u64 0, u64 (j : Int)]) → findA (.agg [u64 0, u64 (k : Int)]) ents = some none
  | [], _ => rfl
  | (s, y, v) :: es, h => by
    obtain ⟨j, hj, hy⟩ := h (s, y, v) (by simp)
    simp only at hy
    subst hy
    have hn : ((k : Int) == (j : Int)) = false := by simp; omega
    have he : keyEqA (.agg [u64 0, u64 (k : Int)]) (.agg [u64 0, u64 (j : Int)]) = some false := by
      simp [keyEqA, keysEq, keyEq, hn]
    have ih := outs_none (k := k) (ents := es) fun e he => h e (by simp [he])
    simp only [findA, he, ih]; rfl

theorem may_c {σ : St} {d pm om : Nat} {L : List Nat} {T : List (Nat × Int)} {k last : Nat} (h : DRep σ d pm om L T k last) (hL : L.length ≤ 1000) (i : Nat) (hi : idxN L last + 1 = i) (hil : i ≤ L.length) (ky : AVal) (Q : AVal → St → Prop) (hQ : ∀ v, UI v (L.drop i ++ L.take i) → Q v σ) : ACall Try.prog 30 [.ptr d 0, ky] σ Q := by
  refine ACall.of_compF hmx (fun a w => Try.call30 a w) Try.func30 cf30 (n := 2) (by decide) rfl ?_
  obtain ⟨⟨lv, hh, hlv⟩, _⟩ := id h
  simp [ac30, rs30, lk_cons, hh]
  refine turn_c h hL i hi hil _ fun v hv => ?_
  simp [lk_cons]
  exact hQ v hv

def OffJ (d b : Nat) (v : AVal) (N : Nat) (σ1 : St) (mm : Nat) (rg : Regs) (σ' : St) : Prop := mm = 0 ∧ σ' = σ1 ∧ rg = [(0, .ptr d 0), (2, .str ⟨#[]⟩), (4, .ptr b 0), (32, v), (33, i64 N), (34, i64 0)]

theorem offer_nobody {σ : St} {d pm om : Nat} {T : List (Nat × Int)} {k last : Nat} (h : DRep σ d pm om [] T k last) (hk : k < 256) (Q : AVal → St → Prop) (hQ : ∀ σ', Grow σ σ' → Q (.tup [u64 0, i64 60]) σ') :
    ACall Try.prog 14 [.ptr d 0, .agg [u64 0, u64 (k : Int)], .str ⟨#[]⟩] σ Q := by
  refine ACall.of_compF hmx (fun a w => Try.call14 a w) Try.func14 cf14 (n := 3) (by decide) rfl ?_
  obtain ⟨⟨lv, hh, hlv⟩, hpm, ⟨co, eo, ho1, ho2, ho3⟩, hne, hlt⟩ := id h
  have e1 : ¬ d = σ.next := by omega
  have e2 : ¬ d = σ.next + 1 := by omega
  have e3 : ¬ om = σ.next := by omega
  have e4 : ¬ om = σ.next + 1 := by omega
  have e5 : ¬ σ.next = σ.next + 1 := by omega
  have f1 := outs_none ho3
  have hk' : ¬ (256 : Int) ≤ eo.length := by omega
  have hk2 : ¬ 256 ≤ eo.length := by omega
  have hk3 : ¬ 256 ≤ k := by omega
  have hk4 : ¬ (256 : Int) ≤ (k : Int) := by omega
  simp [ac14, rs14, lk_cons, hh, ho1, f1, keyIs, shapeOk, kShape, storeL, e1, e2, e3, e4, e5, ho2, hk', hk2, hk3, hk4]
  have hg : Grow σ ⟨(((σ.mem.set σ.next (.cells 2 [u64 0, u64 (k : Int)])).set (σ.next + 1) (.cells 4 [u64 0, u64 0, u64 0, .str ⟨#[]⟩])).set (σ.next + 1) (.cells 4 [u64 0, u64 0, u64 0, .str ⟨#[]⟩])), σ.next + 1 + 1⟩ := ⟨by simp; omega, fun a ha => by simp [show ¬ a = σ.next by omega, show ¬ a = σ.next + 1 by omega]⟩
  refine may_c (h.frame hg) (by simp) 0 (by simp [idxN]) (by simp) _ _ fun v hv => ?_
  have l1 := (UM.len (σ := σ) (.inl hv))
  simp at l1
  simp [lk_cons, ↓l1]
  refine wp_loop (OffJ d σ.next v 0 _) 0 ⟨rfl, rfl, rfl⟩ ?_
  rintro mm rg σ' ⟨rfl, rfl, rfl⟩
  simp [lk_cons]
  exact hQ _ hg

theorem offer_c {σ : St} {d pm om : Nat} {L : List Nat} {T : List (Nat × Int)} {k last : Nat} (h : DRep σ d pm om L T k last) (hL : L.length ≤ 1000) (hk : k < 256) (i : Nat) (hi : idxN L last + 1 = i) (hil : i ≤ L.length) (c : Nat) (hc : (L.drop i ++ L.take i)[0]? = some c) (p : Int) (hp : lkN T c = some p) (hp0 : 0 < p) (hp1 : p ≤ 1000) (Q : AVal → St → Prop)
    (hQ : ∀ σ', DRep σ' d pm om L (setN T c (p - 1)) (k + 1) c → σ.next ≤ σ'.next → (∀ a, a < σ.next → a ≠ d → a ≠ pm → a ≠ om → σ'.mem.get a = σ.mem.get a) → Q (.tup [u64 (c : Int), i64 0]) σ') :
    ACall Try.prog 14 [.ptr d 0, .agg [u64 0, u64 (k : Int)], .str ⟨#[]⟩] σ Q := by
  refine ACall.of_compF hmx (fun a w => Try.call14 a w) Try.func14 cf14 (n := 3) (by decide) rfl ?_
  obtain ⟨⟨lv, hh, hlv⟩, ⟨cp, ep, hp2, hp3, hp4, hp5⟩, ⟨co, eo, ho1, ho2, ho3⟩, hne, hlt⟩ := id h
  have e1 : ¬ d = σ.next := by omega
  have e2 : ¬ d = σ.next + 1 := by omega
  have e3 : ¬ om = σ.next := by omega
  have e4 : ¬ om = σ.next + 1 := by omega
  have e5 : ¬ σ.next = σ.next + 1 := by omega
  have e6 : ¬ pm = σ.next := by omega
  have e7 : ¬ pm = σ.next + 1 := by omega
  have f1 := outs_none ho3
  have hk' : ¬ (256 : Int) ≤ eo.length := by omega
  have hk2 : ¬ 256 ≤ eo.length := by omega
  have hk3 : ¬ 256 ≤ k := by omega
  have hk4 : ¬ (256 : Int) ≤ (k : Int) := by omega
  simp [ac14, rs14, lk_cons, hh, ho1, f1, keyIs, shapeOk, kShape, storeL, e1, e2, e3, e4, e5, ho2, hk', hk2, hk3, hk4]
  generalize hM : Mem.set (Mem.set _ _ _) (σ.next + 1) _ = MM
  have hg : Grow σ ⟨MM, σ.next + 1 + 1⟩ := ⟨by simp; omega, fun a ha => by rw [← hM]; simp [show ¬ a = σ.next by omega, show ¬ a = σ.next + 1 by omega]⟩
  have mb : MM.get σ.next = some (.cells 2 [u64 0, u64 (k : Int)]) := by rw [← hM]; simp [e5]
  have md : MM.get d = _ := (hg.2 d hlt.1).trans hh
  have mp : MM.get pm = _ := (hg.2 pm hlt.2.1).trans hp2
  have mo : MM.get om = _ := (hg.2 om hlt.2.2).trans ho1
  clear hM
  refine may_c (h.frame hg) hL i hi hil _ _ fun v hv => ?_
  have l1 := (UM.len (σ := σ) (.inl hv))
  have hN : (L.drop i ++ L.take i).length = L.length := by simp; omega
  have hLp : 0 < L.length := by
    have := (List.getElem?_eq_some_iff.1 hc).1
    omega
  rw [hN] at l1
  obtain ⟨q, q1, q2⟩ := UM.at (σ := ⟨MM, σ.next + 1 + 1⟩) (.inl hv) hc (ρ := ⟨MM, σ.next + 1 + 1⟩) fun _ _ => rfl
  have z0 : ((0 : Nat) : Int) = 0 := rfl
  rw [z0] at q1
  simp [lk_cons, ↓l1]
  refine wp_loop (OffJ d σ.next v L.length ⟨MM, σ.next + 1 + 1⟩) 0 ⟨rfl, rfl, rfl⟩ ?_
  rintro mm rg σ' ⟨rfl, rfl, rfl⟩
  rcases MapN.put hp3 hp4 hp5 c (p - 1) with ⟨f2, f3, f4⟩ | ⟨ix, x, f2, f3, f4⟩
  · rw [hp] at f3; cases f3
  · rw [hp] at f3; cases f3
    have w1 : IntKind.i64.wrap (p - 1) = p - 1 := by rw [IntWalk.i64_in]; omega
    have n1 : ¬ d = pm := hne.1
    have n2 : ¬ d = om := hne.2.1
    have n3 : ¬ pm = om := hne.2.2
    simp [lk_cons, hLp, ↓q1, ↓q2, md, mp, f2, iV, keyIs, shapeOk, kShape, hp0, w1, n1, n2, n3, Ne.symm n3, mo, mb, e5, Ne.symm e1, Ne.symm e3, Ne.symm e6, f1, fillL, storeL]
    refine hQ _ ⟨⟨lv, by simp, ?_⟩, f4 _ _ (by simp [n1, Ne.symm n1, n3]; rfl), ⟨co + 1, _, by simp [Ne.symm n2]; rfl, by simp [ho2], fun e he => ?_⟩, hne, by simp; omega⟩ (by simp; omega) fun a ha h1 h2 h3 => by simp [h1, h2, h3]; exact hg.2 a ha
    · rcases hlv with h | ⟨lb, g1, g0, g2, g3, g4, g5, g6⟩
      · exact .inl h
      · exact .inr ⟨lb, g1, g0, by simp; omega, g3, g4, g5, by simp [g3, g4, g5]; exact (hg.2 lb g2).trans g6⟩
    · rcases List.mem_append.1 he with he | he
      · obtain ⟨j, hj, e⟩ := ho3 e he
        exact ⟨j, by omega, e⟩
      · simp at he; subst he
        exact ⟨k, by omega, rfl⟩
end Go.Proofs.Ytiikaajopgjliaa.AM

/- The example of chapter 18 is as it should be. -/
namespace Go.Proofs.Ytiikaajopgjliaa.AM
set_option maxRecDepth 100000
set_option linter.unusedVariables false
set_option linter.unusedSimpArgs false

def tabL : TabL := [(10, ac10, rs10, 0), (11, ac11, rs11, 1), (12, ac12, rs12, 2), (13, ac13, rs13, 3), (14, ac14, rs14, 3), (29, ac29, rs29, 2), (30, ac30, rs30, 2), (44, ac44, rs44, 2), (45, ac45, rs45, 1), (46, ac46, rs46, 2), (53, ac53, rs53, 1), (56, ac56, rs56, 1), (57, ac57, rs57, 1), (58, ac58, rs58, 1), (59, ac59, rs59, 1), (63, ac63, rs63, 1), (64, ac64, rs64, 2), (65, ac65, rs65, 1), (66, ac66, rs66, 1), (67, ac67, rs67, 2), (68, ac68, rs68, 2), (77, ac77, rs77, 1), (78, ac78, rs78, 1), (80, ac80, rs80, 4), (82, ac82, rs82, 1), (83, ac83, rs83, 1), (86, ac86, rs86, 3), (87, ac87, rs87, 3), (88, ac88, rs88, 3), (89, ac89, rs89, 3), (90, ac90, rs90, 3), (91, ac91, rs91, 3), (92, ac92, rs92, 2), (93, ac93, rs93, 4), (94, ac94, rs94, 4), (96, ac96, rs96, 4), (97, ac97, rs97, 3), (98, ac98, rs98, 5), (99, ac99, rs99, 4)]
theorem tabOk : TabOk Try.prog (look tabL) := by
  unfold tabL
  refine tab_cons ?_ (fun a w => Try.call10 a w) Try.func10 cf10 (by decide)
  refine tab_cons ?_ (fun a w => Try.call11 a w) Try.func11 cf11 (by decide)
  refine tab_cons ?_ (fun a w => Try.call12 a w) Try.func12 cf12 (by decide)
  refine tab_cons ?_ (fun a w => Try.call13 a w) Try.func13 cf13 (by decide)
  refine tab_cons ?_ (fun a w => Try.call14 a w) Try.func14 cf14 (by decide)
  refine tab_cons ?_ (fun a w => Try.call29 a w) Try.func29 cf29 (by decide)
  refine tab_cons ?_ (fun a w => Try.call30 a w) Try.func30 cf30 (by decide)
  refine tab_cons ?_ (fun a w => Try.call44 a w) Try.func44 cf44 (by decide)
  refine tab_cons ?_ (fun a w => Try.call45 a w) Try.func45 cf45 (by decide)
  refine tab_cons ?_ (fun a w => Try.call46 a w) Try.func46 cf46 (by decide)
  refine tab_cons ?_ (fun a w => Try.call53 a w) Try.func53 cf53 (by decide)
  refine tab_cons ?_ (fun a w => Try.call56 a w) Try.func56 cf56 (by decide)
  refine tab_cons ?_ (fun a w => Try.call57 a w) Try.func57 cf57 (by decide)
  refine tab_cons ?_ (fun a w => Try.call58 a w) Try.func58 cf58 (by decide)
  refine tab_cons ?_ (fun a w => Try.call59 a w) Try.func59 cf59 (by decide)
  refine tab_cons ?_ (fun a w => Try.call63 a w) Try.func63 cf63 (by decide)
  refine tab_cons ?_ (fun a w => Try.call64 a w) Try.func64 cf64 (by decide)
  refine tab_cons ?_ (fun a w => Try.call65 a w) Try.func65 cf65 (by decide)
  refine tab_cons ?_ (fun a w => Try.call66 a w) Try.func66 cf66 (by decide)
  refine tab_cons ?_ (fun a w => Try.call67 a w) Try.func67 cf67 (by decide)
  refine tab_cons ?_ (fun a w => Try.call68 a w) Try.func68 cf68 (by decide)
  refine tab_cons ?_ (fun a w => Try.call77 a w) Try.func77 cf77 (by decide)
  refine tab_cons ?_ (fun a w => Try.call78 a w) Try.func78 cf78 (by decide)
  refine tab_cons ?_ (fun a w => Try.call80 a w) Try.func80 cf80 (by decide)
  refine tab_cons ?_ (fun a w => Try.call82 a w) Try.func82 cf82 (by decide)
  refine tab_cons ?_ (fun a w => Try.call83 a w) Try.func83 cf83 (by decide)
  refine tab_cons ?_ (fun a w => Try.call86 a w) Try.func86 cf86 (by decide)
  refine tab_cons ?_ (fun a w => Try.call87 a w) Try.func87 cf87 (by decide)
  refine tab_cons ?_ (fun a w => Try.call88 a w) Try.func88 cf88 (by decide)
  refine tab_cons ?_ (fun a w => Try.call89 a w) Try.func89 cf89 (by decide)
  refine tab_cons ?_ (fun a w => Try.call90 a w) Try.func90 cf90 (by decide)
  refine tab_cons ?_ (fun a w => Try.call91 a w) Try.func91 cf91 (by decide)
  refine tab_cons ?_ (fun a w => Try.call92 a w) Try.func92 cf92 (by decide)
  refine tab_cons ?_ (fun a w => Try.call93 a w) Try.func93 cf93 (by decide)
  refine tab_cons ?_ (fun a w => Try.call94 a w) Try.func94 cf94 (by decide)
  refine tab_cons ?_ (fun a w => Try.call96 a w) Try.func96 cf96 (by decide)
  refine tab_cons ?_ (fun a w => Try.call97 a w) Try.func97 cf97 (by decide)
  refine tab_cons ?_ (fun a w => Try.call98 a w) Try.func98 cf98 (by decide)
  refine tab_cons ?_ (fun a w => Try.call99 a w) Try.func99 cf99 (by decide)
  exact tab_nil hmx

def runOk (x : Option (AVal × St)) : Bool := match x with
  | some (.bool true, _) => true
  | _ => false
theorem awake_run : runOk (callT (look tabL) 300 20 10 [] σ0) = true := by kernel_rfl
theorem awake (σ : St) (Q : AVal → St → Prop) (hq : Q (.bool true) σ) : ACall Try.prog 10 [] σ Q := by
  refine ACall.frame ?_ rfl
  have h := awake_run
  unfold runOk at h
  split at h
  · rename_i σ hs; exact ACall.of_run tabOk 300 20 hs ⟨rfl, hq⟩
  · cases h
end Go.Proofs.Ytiikaajopgjliaa.AM

/- Tables by consumers; turns. -/
namespace Go.Proofs.Ytiikaajopgjliaa.AM
set_option maxRecDepth 100000
set_option linter.unusedVariables false
set_option linter.unusedSimpArgs false

def tbl (L : List Nat) (f : Nat → Int) : List (Nat × Int) := L.mapIdx fun j c => (c, f j)
theorem tbl_cons (x : Nat) (L : List Nat) (f : Nat → Int) : tbl (x :: L) f = (x, f 0) :: tbl L fun j => f (j + 1) := by simp [tbl, List.mapIdx_cons]
theorem tbl_congr {L : List Nat} {f g : Nat → Int} (h : ∀ j, j < L.length → f j = g j) : tbl L f = tbl L g := by
  apply List.ext_getElem?
  intro i
  simp only [tbl, List.getElem?_mapIdx]
  cases hx : L[i]? with
  | none => rfl
  | some c => simp [h i (List.getElem?_eq_some_iff.1 hx).1]
theorem tbl_snoc (L : List Nat) (c : Nat) (x : Int) : tbl (L ++ [c]) (fun _ => x) = tbl L (fun _ => x) ++ [(c, x)] := by simp [tbl]
theorem lk_tbl : ∀ {L : List Nat} {j c : Nat} (f : Nat → Int), L.Nodup → L[j]? = some c → lkN (tbl L f) c = some (f j)
  | [], j, c, f, _, h => by simp at h
  | x :: L, 0, c, f, hn, h => by simp at h; subst h; simp [tbl_cons, lkN]
  | x :: L, j + 1, c, f, hn, h => by
    simp only [List.nodup_cons] at hn
    have h : L[j]? = some c := by simpa using h
    have hc : c ≠ x := fun e => hn.1 (e ▸ List.mem_of_getElem? h)
    rw [tbl_cons]; simp only [lkN, if_neg hc]
    exact lk_tbl (fun j => f (j + 1)) hn.2 h
theorem lk_tbl_none : ∀ {L : List Nat} {c : Nat} (f : Nat → Int), c ∉ L → lkN (tbl L f) c = none
  | [], c, f, _ => rfl
  | x :: L, c, f, h => by
    simp only [List.mem_cons, not_or] at h
    rw [tbl_cons]; simp only [lkN, if_neg h.1]
    exact lk_tbl_none _ h.2
theorem set_tbl : ∀ {L : List Nat} {j c : Nat} (f : Nat → Int) (y : Int), L.Nodup → L[j]? = some c → setN (tbl L f) c y = tbl L fun i => if i = j then y else f i
  | [], j, c, f, y, _, h => by simp at h
  | x :: L, 0, c, f, y, hn, h => by
    simp at h; subst h; simp [tbl_cons, setN]
  | x :: L, j + 1, c, f, y, hn, h => by
    simp only [List.nodup_cons] at hn
    have h : L[j]? = some c := by simpa using h
    have hc : c ≠ x := fun e => hn.1 (e ▸ List.mem_of_getElem? h)
    rw [tbl_cons, tbl_cons]; simp only [setN, if_neg hc]
    rw [set_tbl (fun j => f (j + 1)) y hn.2 h]
    simp

/-! ### Turns -/

def cnt (m k j : Nat) : Nat := (k + (m - 1 - j)) / m
theorem cnt_zero {m j : Nat} (hm : 0 < m) : cnt m 0 j = 0 := Nat.div_eq_of_lt (by omega)
theorem cnt_succ {m k j : Nat} (hj : j < m) : cnt m (k + 1) j = cnt m k j + if j = k % m then 1 else 0 := by
  have hm : 0 < m := by omega
  have e := Nat.div_add_mod k m
  have hr := Nat.mod_lt k hm
  generalize k / m = q at e
  generalize k % m = r at e hr
  have d : ∀ x s, x = m * q + s → x / m = q + s / m := fun x s h => by rw [h, Nat.mul_add_div hm]
  have d1 : ∀ s, m ≤ s → s < 2 * m → s / m = 1 := fun s h1 h2 => by
    have : s = m * 1 + (s - m) := by omega
    rw [this, Nat.mul_add_div hm, Nat.div_eq_of_lt (by omega)]
  unfold cnt
  rw [d _ (r + 1 + (m - 1 - j)) (by omega), d (k + (m - 1 - j)) (r + (m - 1 - j)) (by omega)]
  by_cases h : j = r
  · subst h
    rw [if_pos rfl, d1 _ (by omega) (by omega), Nat.div_eq_of_lt (by omega)]
  · rw [if_neg h]
    by_cases h2 : r < j
    · rw [Nat.div_eq_of_lt (by omega), Nat.div_eq_of_lt (by omega)]
    · rw [d1 _ (by omega) (by omega), d1 _ (by omega) (by omega)]
theorem cnt_near {m k a b : Nat} (ha : a < m) (hb : b < m) : cnt m k a ≤ cnt m k b + 1 := by
  have hm : 0 < m := by omega
  unfold cnt
  rw [← Nat.add_div_right _ hm]
  exact Nat.div_le_div_right (by omega)
theorem cnt_le {m k j : Nat} (hm : 0 < m) : cnt m k j ≤ k := by
  have h1 : k ≤ m * k := Nat.le_mul_of_pos_left k hm
  have : cnt m k j < k + 1 := Nat.div_lt_of_lt_mul (by rw [Nat.mul_add]; omega)
  omega

def lastOf (L : List Nat) (k : Nat) : Nat := if k = 0 then 0 else (L[(k - 1) % L.length]?).getD 0
theorem turn_at {L : List Nat} {k : Nat} (h0 : 0 ∉ L) (hn : L.Nodup) (hm : 0 < L.length) : ∃ (i c : Nat), idxN L (lastOf L k) + 1 = i ∧ i ≤ L.length ∧ (L.drop i ++ L.take i)[0]? = some c ∧ L[k % L.length]? = some c ∧ lastOf L (k + 1) = c := by
  obtain ⟨c, hc⟩ : ∃ c, L[k % L.length]? = some c := ⟨_, List.getElem?_eq_getElem (Nat.mod_lt _ hm)⟩
  have hl : lastOf L (k + 1) = c := by simp [lastOf, hc]
  by_cases hk : k = 0
  · subst hk
    refine ⟨0, c, ?_, by omega, ?_, hc, hl⟩
    · simp only [lastOf, if_true]
      rw [idxN_none (n := 0) (l := L) fun y hy e => h0 (e ▸ hy)]; rfl
    · simpa using hc
  · have hr := Nat.mod_lt (k - 1) hm
    have e := Nat.div_add_mod (k - 1) L.length
    obtain ⟨x, hx⟩ : ∃ x, L[(k - 1) % L.length]? = some x := ⟨_, List.getElem?_eq_getElem hr⟩
    have hlast : lastOf L k = x := by simp [lastOf, hk, hx]
    generalize (k - 1) / L.length = q at e
    generalize (k - 1) % L.length = r at hr e hx
    have hid : idxN L x = (r : Int) := idxN_some hx fun y hy e => by
      subst e
      obtain ⟨j, hj⟩ := List.mem_iff_getElem?.1 hy
      have hjr : j < r := by
        have := (List.getElem?_eq_some_iff.1 hj).1
        simp at this; omega
      rw [List.getElem?_take, if_pos hjr] at hj
      have := (List.getElem?_inj (by omega) hn).1 (hj.trans hx.symm)
      omega
    refine ⟨r + 1, c, by rw [hlast, hid]; rfl, by omega, ?_, hc, hl⟩
    by_cases h2 : r + 1 < L.length
    · have hkm : k % L.length = r + 1 := by
        have : k = L.length * q + (r + 1) := by omega
        rw [this, Nat.mul_add_mod, Nat.mod_eq_of_lt h2]
      rw [hkm] at hc
      rw [List.getElem?_append_left (by simp; omega), List.getElem?_drop]; simpa using hc
    · have hkm : k % L.length = 0 := by
        have : k = L.length * q + L.length := by omega
        rw [this, Nat.mul_add_mod]; simp
      rw [hkm] at hc
      have hd : L.drop (r + 1) = [] := by rw [List.drop_eq_nil_iff]; omega
      rw [hd, List.nil_append, List.getElem?_take, if_pos (by omega)]; exact hc
end Go.Proofs.Ytiikaajopgjliaa.AM

/- DispatchTurns: its loops. -/
namespace Go.Proofs.Ytiikaajopgjliaa.AM
open Go.RowKit
set_option maxRecDepth 100000
set_option linter.unusedVariables false
set_option linter.unusedSimpArgs false

def TnJ1 (v : AVal) (l : List Nat) (n : Nat) (d pm om gm : Nat) (mm : Nat) (rg : Regs) (σ' : St) : Prop := ∃ (i : Nat) (L : List Nat), mm = l.length - i ∧ i ≤ l.length ∧ L.length ≤ 8 ∧ L.Nodup ∧ 0 ∉ L ∧ DRep σ' d pm om L (tbl L fun _ => 100) 0 0 ∧ MapN iV σ' gm (tbl L fun _ => 0) ∧ gm < σ'.next ∧ gm ≠ d ∧ gm ≠ pm ∧ gm ≠ om ∧ rg = [(1, .int .u8 n), (5, .ptr d 0), (7, .map gm), (24, v), (25, i64 l.length), (26, i64 i)]
def TnJ2 (N : Nat) (L : List Nat) (d pm om gm : Nat) (mm : Nat) (rg : Regs) (σ' : St) : Prop := ∃ (k : Nat), mm = N - k ∧ k ≤ N ∧ (L = [] → k = 0) ∧ DRep σ' d pm om L (tbl L fun j => 100 - (cnt L.length k j : Int)) k (lastOf L k) ∧ MapN iV σ' gm (tbl L fun j => (cnt L.length k j : Int)) ∧ gm < σ'.next ∧ gm ≠ d ∧ gm ≠ pm ∧ gm ≠ om ∧ rg = [(5, .ptr d 0), (7, .map gm), (47, i64 N), (48, i64 k)]
def TnJ3 (gm it clock : Nat) (ents : List Entry) (mm : Nat) (rg : Regs) (σ' : St) : Prop := ∃ S, mm = leftE S ents ∧ σ'.mem.get it = some (.iter (some gm) clock S clock) ∧ σ'.mem.get gm = some (.map clock ents) ∧ gm < it ∧ it < σ'.next ∧ rg = [(7, .map gm), (72, .ptr it 0)]
def TnJ4 (gm it clock : Nat) (ents : List Entry) (S1 : List Nat) (a : Int) (it2 : Nat) (mm : Nat) (rg : Regs) (σ' : St) : Prop := ∃ S, mm = leftE S ents ∧ σ'.mem.get it2 = some (.iter (some gm) clock S clock) ∧ σ'.mem.get gm = some (.map clock ents) ∧ σ'.mem.get it = some (.iter (some gm) clock S1 clock) ∧ gm < it ∧ it < it2 ∧ it2 < σ'.next ∧ rg = [(7, .map gm), (14, i64 a), (72, .ptr it 0), (78, .ptr it2 0)]

theorem tbl_mem {L : List Nat} {f : Nat → Int} {p : Nat × Int} (h : p ∈ tbl L f) : ∃ j, j < L.length ∧ p.2 = f j := by
  obtain ⟨i, hi⟩ := List.mem_iff_getElem?.1 h
  simp only [tbl, List.getElem?_mapIdx, Option.map_eq_some_iff] at hi
  obtain ⟨c, hc, rfl⟩ := hi
  exact ⟨i, (List.getElem?_eq_some_iff.1 hc).1, rfl⟩
theorem All2.mem {α β : Type} {R : α → β → Prop} {xs : List α} {ys : List β} (h : All2 R xs ys) {x : α} (hx : x ∈ xs) : ∃ y ∈ ys, R x y := by
  obtain ⟨i, hi⟩ := List.mem_iff_getElem?.1 hx
  obtain ⟨y, hy, hr⟩ := h.get hi
  exact ⟨y, List.mem_of_getElem? hy, hr⟩

theorem turns_c {v : AVal} {l : List Nat} (hv : UI v l) (hl : l.length ≤ 9223372036854775807) (n : Nat) (hn : n < 256) : ACall Try.prog 3 [v, .int .u8 (n : Int)] σ0 fun v _ => v = .bool true := by
  refine ACall.of_compF hmx (fun a w => Try.call3 a w) Try.func3 cf3 (n := 2) (by decide) rfl ?_
  simp [ac3, rs3, lk_cons]
  refine awake _ _ ?_
  simp [lk_cons]
  refine dnew_c _ _ fun d pm om σ1 h1 hk1 => ?_
  have l1 := UM.len (σ := σ0) (.inl hv)
  have hne := h1.ne
  have hlt := h1.lt
  simp [lk_cons, ↓l1]
  refine wp_loop (TnJ1 v l n d pm om σ1.next) l.length ?_ ?_
  · refine ⟨0, [], rfl, Nat.zero_le _, by simp, by simp, by simp, ?_, ⟨0, [], by simp, trivial, by simp, by simp⟩, by simp, by omega, by omega, by omega, rfl⟩
    exact h1.frame ⟨by simp, fun a ha => by simp [show ¬ a = σ1.next by omega]⟩
  · rintro mm rg σ' ⟨i, L, rfl, hi, hL8, hnd, h0, hd, hg, hgl, g1, g2, g3, rfl⟩
    by_cases hlt : i < l.length
    · obtain ⟨x, hx⟩ : ∃ x, l[i]? = some x := ⟨_, List.getElem?_eq_getElem hlt⟩
      obtain ⟨k, hk⟩ : ∃ k, i + 1 = k := ⟨_, rfl⟩
      have w1 : IntKind.i64.wrap ((i : Int) + 1) = (k : Int) := by rw [IntWalk.i64_in] <;> omega
      obtain ⟨p, p1, p2⟩ := UM.at (σ := σ') (.inl hv) hx (ρ := σ') fun _ _ => rfl
      by_cases h8 : i < 8
      · have h8' : (i : Int) < 8 := by omega
        simp [lk_cons, hlt, ↓p1, ↓p2, h8, h8', w1]
        refine join_c hd (by omega) x _ fun σ2 hd2 hn2 hk2 => ?_
        have hgm : σ2.mem.get σ1.next = σ'.mem.get σ1.next := hk2 _ hgl g1 fun b hb => by
          obtain ⟨c, e, he, _⟩ := hg
          rw [he] at hb; cases hb; exact .inl ⟨_, _, rfl⟩
        have hg2 := hg.frame hgm
        by_cases hj : joinC L x = 0
        · rw [if_pos hj] at hd2
          rw [hj]
          have hx0 : x ≠ 0 ∧ x ∉ L ∧ ¬ 8 ≤ L.length := by
            simp only [joinC] at hj
            split at hj
            · cases hj
            · split at hj
              · cases hj
              · split at hj
                · cases hj
                · exact ⟨by assumption, by assumption, by assumption⟩
          simp [lk_cons]
          refine flow_c hd2 (by simp; omega) x (by simp) (lk_tbl_none _ hx0.2.1) _ fun σ3 hd3 hn3 hk3 => ?_
          have hg3 := hg2.frame (hk3 _ (by omega) g2)
          rw [← tbl_snoc] at hd3
          obtain ⟨cg, eg, m1, m2, m3, m4⟩ := hg3
          rcases MapN.put m2 m3 m4 x 0 with ⟨f1, f2, f3⟩ | ⟨ix, y, f1, f2, f3⟩
          · rw [setN_new f2, ← tbl_snoc] at f3
            simp [lk_cons, m1, f1, keyIs, shapeOk, kShape, w1]
            refine ⟨l.length - k, by omega, k, _, rfl, by omega, ?_, ?_, ?_, ?_, f3 _ _ (by simp [iV]), by simp; omega, g1, g2, g3, rfl⟩
            · simp; omega
            · rw [List.nodup_append]
              exact ⟨hnd, by simp, fun a ha b hb e => by simp at hb; subst hb; subst e; exact hx0.2.1 ha⟩
            · simp [h0]; omega
            · exact hd3.keep (by simp) σ1.next ⟨g1, g2, g3⟩ (fun b hb => by rw [m1] at hb; cases hb; exact ⟨_, _, rfl⟩) fun a ha hx => by simp [hx]
          · rw [lk_tbl_none _ hx0.2.1] at f2; cases f2
        · rw [if_neg hj] at hd2
          simp [lk_cons, hj, w1]
          exact ⟨l.length - k, by omega, k, L, rfl, by omega, hL8, hnd, h0, hd2, hg2, by omega, g1, g2, g3, rfl⟩
      · have h8' : ¬ (i : Int) < 8 := by omega
        simp [lk_cons, hlt, ↓p1, ↓p2, h8, h8', w1]
        exact ⟨l.length - k, by omega, k, L, rfl, by omega, hL8, hnd, h0, hd, hg, hgl, g1, g2, g3, rfl⟩
    · have : i = l.length := by omega
      subst this
      obtain ⟨N, hN⟩ : ∃ N, n % 80 = N := ⟨_, rfl⟩
      have hN80 : N < 80 := by omega
      have w1 : (n : Int).tmod 80 = (N : Int) := by rw [← hN, Int.tmod_eq_emod_of_nonneg (by omega)]; omega
      have w2 : IntKind.i64.wrap (N : Int) = (N : Int) := by rw [IntWalk.i64_in]; omega
      simp [lk_cons, w1, w2]
      generalize σ1.next = gm at *
      refine wp_loop (TnJ2 N L d pm om gm) N ?_ ?_
      · refine ⟨0, rfl, by omega, fun _ => rfl, ?_, ?_, hgl, g1, g2, g3, rfl⟩
        · rw [tbl_congr (g := fun _ => 100) fun j hj => by rw [cnt_zero (by omega)]; rfl]; exact hd
        · rw [tbl_congr (g := fun _ => 0) fun j hj => by rw [cnt_zero (by omega)]; rfl]; exact hg
      · rintro mm rg σ2 ⟨k, rfl, hkN, hLk, hd, hg, hgl, g1, g2, g3, rfl⟩
        by_cases hlt2 : k < N
        · obtain ⟨k', hk'⟩ : ∃ k', k + 1 = k' := ⟨_, rfl⟩
          have w3 : IntKind.i64.wrap ((k : Int) + 1) = (k' : Int) := by rw [IntWalk.i64_in] <;> omega
          have w4 : IntKind.u64.wrap (k : Int) = (k : Int) := by rw [IntWalk.u64_in]; omega
          by_cases hm : L = []
          · subst hm
            have := hLk rfl
            subst this
            simp [lk_cons, hlt2, w4, fillL, storeL]
            refine offer_nobody hd (by omega) _ fun σ3 hk3 => ?_
            obtain ⟨cg, eg, m1, m2, m3, m4⟩ := hg.frame (hk3.2 _ hgl)
            have heg : eg = [] := by
              have := m2.len
              exact List.length_eq_zero_iff.1 (by simpa [tbl] using this)
            subst heg
            simp [lk_cons, m1]
          · have hmp : 0 < L.length := List.length_pos_iff.2 hm
            obtain ⟨ii, c, t1, t2, t3, t4, t5⟩ := turn_at (k := k) h0 hnd hmp
            have hcn := cnt_le (m := L.length) (k := k) (j := k % L.length) hmp
            simp [lk_cons, hlt2, w4, fillL, storeL]
            refine offer_c hd (by omega) (by omega) ii t1 t2 c t3 _ (lk_tbl _ hnd t4) (by omega) (by omega) _ fun σ3 hd3 hn3 hk3 => ?_
            have hg3 := hg.frame (hk3 _ hgl g1 g2 g3)
            obtain ⟨cg, eg, m1, m2, m3, m4⟩ := hg3
            have heg : eg.length = L.length := by have := m2.len; simpa [tbl] using this
            have hegp : ¬ eg.length = 0 := by omega
            have hegq : ¬ eg = [] := fun e => hegp (by rw [e]; rfl)
            rcases MapN.put m2 m3 m4 c ((cnt L.length k (k % L.length) : Int) + 1) with ⟨f1, f2, f3⟩ | ⟨ix, y, f1, f2, f3⟩
            · rw [lk_tbl _ hnd t4] at f2; cases f2
            · rw [lk_tbl _ hnd t4] at f2; cases f2
              have w5 : IntKind.i64.wrap ((cnt L.length k (k % L.length) : Int) + 1) = (cnt L.length k (k % L.length) : Int) + 1 := by rw [IntWalk.i64_in] <;> omega
              rw [set_tbl _ _ hnd t4] at f3 hd3
              simp [lk_cons, m1, f1, keyIs, shapeOk, kShape, iV, hegp, hegq, w5, w3]
              refine ⟨N - k', by omega, k', rfl, by omega, fun e => absurd e hm, ?_, ?_, by simp; omega, g1, g2, g3, rfl⟩
              · rw [← hk', t5]
                refine DRep.keep (σ := σ3) ?_ (by simp) gm ⟨g1, g2, g3⟩ (fun b hb => by rw [m1] at hb; cases hb; exact ⟨_, _, rfl⟩) fun a ha hx => by simp [hx]
                rw [tbl_congr (g := fun i => if i = k % L.length then 100 - (cnt L.length k (k % L.length) : Int) - 1 else 100 - (cnt L.length k i : Int)) fun j hj => by
                  rw [cnt_succ hj]
                  by_cases e : j = k % L.length
                  · simp [e]; omega
                  · simp [e]]
                exact hd3
              · rw [← hk', tbl_congr (g := fun i => if i = k % L.length then (cnt L.length k (k % L.length) : Int) + 1 else (cnt L.length k i : Int)) fun j hj => by
                  rw [cnt_succ hj]
                  by_cases e : j = k % L.length
                  · simp [e]
                  · simp [e]]
                exact f3 _ _ (by simp [iV])
        · have : k = N := by omega
          subst this
          obtain ⟨cg, eg, m1, m2, m3, m4⟩ := hg
          have near : ∀ e ∈ eg, ∀ e' ∈ eg, ∃ a b : Int, e.2.2 = i64 a ∧ e'.2.2 = i64 b ∧ a ≤ b + 1 ∧ 0 ≤ b ∧ b ≤ 100 := by
            intro e he e' he'
            obtain ⟨p, hp, r1⟩ := m2.mem he
            obtain ⟨p', hp', r1'⟩ := m2.mem he'
            obtain ⟨j, hj, r2⟩ := tbl_mem hp
            obtain ⟨j', hj', r2'⟩ := tbl_mem hp'
            refine ⟨_, _, r1.2, r1'.2, ?_, ?_, ?_⟩
            · rw [r2, r2']; have := cnt_near (k := k) hj hj'; omega
            · rw [r2']; omega
            · rw [r2']; have := cnt_le (m := L.length) (k := k) (j := j') (by omega); omega
          simp [lk_cons, m1]
          refine wp_loop (TnJ3 gm σ2.next cg eg) (leftE [] eg) ?_ ?_
          · exact ⟨[], rfl, by simp, by simp [show ¬ gm = σ2.next by omega, m1], hgl, by simp, rfl⟩
          · rintro mm rg σ3 ⟨S, rfl, hi1, hi2, hgi, hil, rfl⟩
            obtain ⟨Lx, hL, hp⟩ := next_fix hi1 hi2 m3
            simp [lk_cons, hL]
            intro v1 σ4 hv1
            rcases hp _ hv1 with e | ⟨e, he, heS, e1⟩
            · cases e
              simp [lk_cons]
            · cases e1
              have hfind := stamp_findE m4 he
              have q1 : ¬ gm = σ2.next := by omega
              have q2 : ¬ σ2.next = σ3.next := by omega
              have q3 : ¬ gm = σ3.next := by omega
              have q4 : ¬ σ3.next = σ2.next := by omega
              obtain ⟨a, _, ha, _, _, _, _⟩ := near e he e he
              simp [lk_cons, hi2, q1, q2, q3, hfind, ha]
              refine wp_loop (TnJ4 gm σ2.next cg eg (S ++ [e.1]) a σ3.next) (leftE [] eg) ?_ ?_
              · exact ⟨[], rfl, by simp, by simp [q1, q3, hi2], by simp [q2], hgi, by omega, by simp, rfl⟩
              · rintro mm rg σ5 ⟨S2, rfl, k1, k2, k3, k4, k5, k6, rfl⟩
                obtain ⟨Lx, hL, hp⟩ := next_fix k1 k2 m3
                simp [lk_cons, hL]
                intro v2 σ6 hv2
                rcases hp _ hv2 with e2 | ⟨e', he', heS', e2⟩
                · cases e2
                  simp [lk_cons]
                  exact ⟨_, leftE_lt he heS, _, rfl, k3, k2, k4, by omega, rfl⟩
                · cases e2
                  have hfind := stamp_findE m4 he'
                  obtain ⟨a', b, ha', hb, hab, hb0, hb1⟩ := near e he e' he'
                  rw [ha] at ha'; cases ha'
                  have w6 : IntKind.i64.wrap (b + 1) = b + 1 := by rw [IntWalk.i64_in] <;> omega
                  have hab' : ¬ b + 1 < a := by omega
                  have q5 : ¬ gm = σ3.next := by omega
                  have q6 : ¬ σ2.next = σ3.next := by omega
                  simp [lk_cons, k2, q5, hfind, hb, w6, hab']
                  exact ⟨_, leftE_lt he' heS', _, rfl, by simp, by simp [q5, k2], by simp [q6, k3], k4, k5, by simpa using k6, rfl⟩
end Go.Proofs.Ytiikaajopgjliaa.AM
