/- What the functions of this chapter give: their contracts over the machine. -/
import Derived.Test.YtieieknhhfallaaC15
import Derived.Test.YtieieknhhfallaaAm3
/- A table in memory: who sent what. -/
namespace Go.Proofs.Ytieieknhhfallaa.AM
set_option maxRecDepth 100000
set_option linter.unusedVariables false
set_option linter.unusedSimpArgs false

abbrev i64 (n : Int) : AVal := .int .i64 n
abbrev u64 (n : Int) : AVal := .int .u64 n
/-- A line: top, done, ledger, entry. -/
abbrev Ln := Nat × Nat × Nat × Nat
def lnV (n : ByteArray) (x : Ln) : AVal := .agg [.str n, u64 (x.1 : Int), u64 (x.2.1 : Int), u64 (x.2.2.1 : Int), u64 (x.2.2.2 : Int)]
abbrev Tbl := List (ByteArray × Ln)
def lkB : Tbl → ByteArray → Option Ln
  | [], _ => none
  | (k, x) :: T, n => if n = k then some x else lkB T n
def setB : Tbl → ByteArray → Ln → Tbl
  | [], n, y => [(n, y)]
  | (k, x) :: T, n, y => if n = k then (n, y) :: T else (k, x) :: setB T n y
def EntL (e : Entry) (p : ByteArray × Ln) : Prop := e.2.1 = .str p.1 ∧ e.2.2 = lnV p.1 p.2

theorem lkB_none {n : ByteArray} : ∀ {T : Tbl}, lkB T n = none ↔ n ∉ T.map (·.1)
  | [] => by simp [lkB]
  | (k, x) :: T => by
    have ih := lkB_none (n := n) (T := T)
    simp only [lkB, List.map_cons, List.mem_cons]
    by_cases h : n = k
    · simp [h]
    · rw [if_neg h, ih]; simp [h]
theorem setB_new {n : ByteArray} {y : Ln} : ∀ {T : Tbl}, lkB T n = none → setB T n y = T ++ [(n, y)]
  | [], _ => rfl
  | (k, x) :: T, h => by
    simp only [lkB] at h
    by_cases hk : n = k
    · rw [if_pos hk] at h; cases h
    · rw [if_neg hk] at h
      simp only [setB]
      rw [if_neg hk, setB_new h]; rfl
theorem setB_keys {n : ByteArray} {y x : Ln} : ∀ {T : Tbl}, lkB T n = some x → (setB T n y).map (·.1) = T.map (·.1)
  | [], h => by cases h
  | (k, z) :: T, h => by
    simp only [lkB] at h
    simp only [setB]
    by_cases hk : n = k
    · rw [if_pos hk]; simp [hk]
    · rw [if_neg hk] at h ⊢
      simp [setB_keys h]
theorem setB_nodup {n : ByteArray} {y : Ln} {T : Tbl} (h : (T.map (·.1)).Nodup) : ((setB T n y).map (·.1)).Nodup := by
  cases hl : lkB T n with
  | none =>
    rw [setB_new hl, List.map_append, List.nodup_append]
    refine ⟨h, by simp, ?_⟩
    rintro a ha b hb rfl
    simp at hb; subst hb
    exact lkB_none.1 hl ha
  | some x => rw [setB_keys hl]; exact h
theorem setB_get {n q : ByteArray} {y : Ln} : ∀ {T : Tbl}, lkB (setB T n y) q = if q = n then some y else lkB T q
  | [] => by simp [setB, lkB]
  | (k, x) :: T => by
    have ih := setB_get (n := n) (q := q) (y := y) (T := T)
    simp only [setB]
    by_cases hk : n = k
    · subst hk
      rw [if_pos rfl]
      simp only [lkB]
      by_cases hq : q = n
      · simp [hq]
      · simp [hq]
    · rw [if_neg hk]
      simp only [lkB, ih]
      by_cases hq : q = k
      · subst hq
        have : ¬ q = n := fun e => hk e.symm
        simp [this]
      · simp [hq]
theorem setB_len {n : ByteArray} {y : Ln} {T : Tbl} : (setB T n y).length = if lkB T n = none then T.length + 1 else T.length := by
  cases hl : lkB T n with
  | none => rw [setB_new hl]; simp
  | some x =>
    have := congrArg List.length (setB_keys (y := y) hl)
    simpa using this

theorem ba_beq (a b : ByteArray) : (a == b) = decide (a = b) := by
  have h : (a == b) = (a.data == b.data) := by
    cases a; cases b; rfl
  rw [h]
  by_cases hab : a = b
  · subst hab; simp
  · have : ¬ a.data = b.data := fun e => hab (ByteArray.ext e)
    simp [hab, this]
theorem keyS (a b : ByteArray) : keyEqA (.str a) (.str b) = some (decide (a = b)) := by
  simp only [keyEqA, keyEq, ba_beq]
theorem findS {n : ByteArray} : ∀ {ents : List Entry} {T : Tbl}, All2 EntL ents T → (findA (.str n) ents = some none ∧ lkB T n = none) ∨ ∃ i x, findA (.str n) ents = some (some (i, lnV n x)) ∧ lkB T n = some x ∧ ∀ y, All2 EntL (ents.modify i fun e => (e.1, .str n, lnV n y)) (setB T n y)
  | [], [], _ => .inl ⟨rfl, rfl⟩
  | (st, y, d) :: ents, (k, x) :: T, h => by
    obtain ⟨⟨hy, hd⟩, ht⟩ := h
    simp only at hy hd
    subst hy hd
    by_cases hnk : n = k
    · subst hnk
      refine .inr ⟨0, x, by simp only [findA, keyS, decide_true], by simp [lkB], fun y => ?_⟩
      simp only [List.modify_zero_cons, setB, if_true]
      exact ⟨⟨rfl, rfl⟩, ht⟩
    · have hf : keyEqA (.str n) (.str k) = some false := by rw [keyS, decide_eq_false hnk]
      rcases findS (n := n) ht with ⟨h1, h2⟩ | ⟨i, x1, h1, h2, h3⟩
      · exact .inl ⟨by simp only [findA]; rw [hf]; simp only; rw [h1]; rfl, by simp [lkB, hnk, h2]⟩
      · refine .inr ⟨i + 1, x1, by simp only [findA]; rw [hf]; simp only; rw [h1]; rfl, by simp [lkB, hnk, h2], fun y => ?_⟩
        simp only [List.modify_succ_cons, setB, if_neg hnk]
        exact ⟨⟨rfl, rfl⟩, h3 y⟩
  | [], _ :: _, h => h.elim
  | _ :: _, [], h => h.elim

/-- A table in memory. -/
structure TRep (σ : St) (t mp : Nat) (T : Tbl) : Prop where
  head : σ.mem.get t = some (.cells 1 [.map mp])
  map : ∃ clock ents, σ.mem.get mp = some (.map clock ents) ∧ All2 EntL ents T ∧ (∀ e ∈ ents, e.1 < clock) ∧ (ents.map (·.1)).Nodup
  keys : (T.map (·.1)).Nodup
  ne : t ≠ mp
  lt : t < σ.next ∧ mp < σ.next

theorem TRep.frame {σ σ' : St} {t mp : Nat} {T : Tbl} (h : TRep σ t mp T) (hm : ∀ a, a = t ∨ a = mp → σ'.mem.get a = σ.mem.get a) (hn : σ.next ≤ σ'.next) : TRep σ' t mp T :=
  ⟨by rw [hm t (.inl rfl)]; exact h.head, by rw [hm mp (.inr rfl)]; exact h.map, h.keys, h.ne, by have := h.lt; omega⟩

theorem stamps_modify (f : Entry → Entry) (hf : ∀ e, (f e).1 = e.1) : ∀ (ents : List Entry) (i : Nat), (ents.modify i f).map (·.1) = ents.map (·.1)
  | [], 0 => rfl
  | [], i + 1 => rfl
  | e :: es, 0 => by simp [hf]
  | e :: es, i + 1 => by simp [stamps_modify f hf es i]
theorem stamps_lt {ents : List Entry} {c : Nat} : (∀ e ∈ ents, e.1 < c) ↔ ∀ s ∈ ents.map (·.1), s < c := by simp

theorem tnew_c (σ : St) (Q : AVal → St → Prop) (h : ∀ t mp σ', TRep σ' t mp [] → σ.next ≤ σ'.next → (∀ a, a < σ.next → σ'.mem.get a = σ.mem.get a) → σ.next ≤ t ∧ σ.next ≤ mp → Q (.ptr t 0) σ') : ACall Try.prog 7 [] σ Q := by
  refine ACall.of_compF hmx (fun a w => Try.call7 a w) Try.func7 cf7 (n := 0) (by decide) rfl ?_
  simp [ac7, rs7, lk_cons, storeL, fillL]
  refine h (σ.next + 1) σ.next _ ⟨by simp, ⟨0, [], ?_, trivial, by simp, by simp⟩, by simp, by simp, ⟨Nat.lt_succ_self _, Nat.lt_succ_of_lt (Nat.lt_succ_self _)⟩⟩ (by simp; omega) (fun a ha => ?_) ⟨by omega, by omega⟩
  · simp
  · simp [show ¬ a = σ.next by omega, show ¬ a = σ.next + 1 by omega]
end Go.Proofs.Ytieieknhhfallaa.AM

/- Tables: Begin, Done, Last. -/
namespace Go.Proofs.Ytieieknhhfallaa.AM
set_option maxRecDepth 100000
set_option linter.unusedVariables false
set_option linter.unusedSimpArgs false

theorem ba_list (a : ByteArray) : a = ⟨a.data.toList.toArray⟩ := by cases a; rfl
theorem strEq (a b : ByteArray) : abinS .eql a b = some (.bool (decide (a = b))) := by
  have h := str_eq a.data.toList b.data.toList
  rw [← ba_list, ← ba_list] at h
  rw [h]
  by_cases hab : a = b
  · subst hab; simp
  · have : ¬ a.data.toList = b.data.toList := fun e => hab (ByteArray.ext (Array.ext' e))
    simp [hab, this]
theorem ba_empty (n : ByteArray) : n = ⟨#[]⟩ ↔ n.size = 0 := by
  constructor
  · rintro rfl; rfl
  · intro h
    exact ByteArray.ext (Array.eq_empty_of_size_eq_zero h)

def Keep1 (mp : Nat) (σ σ' : St) : Prop := σ.next ≤ σ'.next ∧ ∀ a, a < σ.next → a ≠ mp → σ'.mem.get a = σ.mem.get a

def begC (T : Tbl) (n : ByteArray) (q : Nat) : Int :=
  if n.size = 0 ∨ 64 < n.size then 10 else if q = 0 then 2 else match lkB T n with
  | some x => if q ≤ x.2.1 then 40 else if q ≤ x.1 then 41 else 0
  | none => if 16 ≤ T.length then 14 else 0
def begT (T : Tbl) (n : ByteArray) (q : Nat) : Tbl := if begC T n q = 0 then setB T n (q, ((lkB T n).getD (0, 0, 0, 0)).2) else T

theorem begin_c {σ : St} {t mp : Nat} {T : Tbl} (h : TRep σ t mp T) (n : ByteArray) (hn : n.size ≤ 140737488355328) (q : Nat) (Q : AVal → St → Prop) (hQ : ∀ σ', TRep σ' t mp (begT T n q) → Keep1 mp σ σ' → Q (i64 (begC T n q)) σ') :
    ACall Try.prog 8 [.ptr t 0, .str n, u64 (q : Int)] σ Q := by
  refine ACall.of_compF hmx (fun a w => Try.call8 a w) Try.func8 cf8 (n := 3) (by decide) rfl ?_
  have hh := h.head
  have hlt := h.lt
  have hne := h.ne
  obtain ⟨clock, ents, hm, ha, hs, hd⟩ := h.map
  have hla := ha.len
  have z1 : ¬ t = σ.next := by omega
  have z2 : ¬ mp = σ.next := by omega
  have keep : ∀ b c : Blk, begT T n q = T → TRep ⟨(σ.mem.set σ.next b).set σ.next c, σ.next + 1⟩ t mp (begT T n q) ∧ Keep1 mp σ ⟨(σ.mem.set σ.next b).set σ.next c, σ.next + 1⟩ := fun b c hb => by
    rw [hb]
    exact ⟨h.frame (fun a ha => by simp [show ¬ a = σ.next by omega]) (by simp), ⟨by simp, fun a ha _ => by simp [show ¬ a = σ.next by omega]⟩⟩
  have b0 : begC T n q ≠ 0 → begT T n q = T := fun hc => by rw [begT, if_neg hc]
  have e0 := ba_empty n
  rcases findS (n := n) ha with ⟨f1, f2⟩ | ⟨i, x, f1, f2, f3⟩
  · by_cases he : n.size = 0
    · have he' := e0.2 he
      have hc : begC T n q = 10 := by rw [begC, if_pos (.inl he)]
      have hT := b0 (by rw [hc]; omega)
      rw [hc] at hQ
      simp [ac8, rs8, lk_cons, hh, hm, f1, keyIs, shapeOk, kShape, storeL, strEq, z1, z2, lnV, eq_true he']
      exact hQ _ (keep _ _ hT).1 (keep _ _ hT).2
    have he' : ¬ n = ⟨#[]⟩ := fun e => he (e0.1 e)
    by_cases h64 : 64 < n.size
    · have h64' : (64 : Int) < n.size := by omega
      have hc : begC T n q = 10 := by rw [begC, if_pos (.inr h64)]
      have hT := b0 (by rw [hc]; omega)
      rw [hc] at hQ
      simp [ac8, rs8, lk_cons, hh, hm, f1, keyIs, shapeOk, kShape, storeL, strEq, z1, z2, lnV, he', h64, h64']
      exact hQ _ (keep _ _ hT).1 (keep _ _ hT).2
    have h64' : ¬ (64 : Int) < n.size := by omega
    have hno : ¬ (n.size = 0 ∨ 64 < n.size) := by omega
    by_cases hq : q = 0
    · have hq' : (q : Int) = 0 := by omega
      have hc : begC T n q = 2 := by rw [begC, if_neg hno, if_pos hq]
      have hT := b0 (by rw [hc]; omega)
      rw [hc] at hQ
      simp [ac8, rs8, lk_cons, hh, hm, f1, keyIs, shapeOk, kShape, storeL, strEq, z1, z2, lnV, he', h64, h64', hq, hq']
      exact hQ _ (keep _ _ hT).1 (keep _ _ hT).2
    have hq' : ¬ (q : Int) = 0 := by omega
    by_cases hl : 16 ≤ T.length
    · have hl' : 16 ≤ ents.length := by omega
      have hl2 : (16 : Int) ≤ ents.length := by omega
      have hc : begC T n q = 14 := by rw [begC, if_neg hno, if_neg hq, f2]; simp [hl]
      have hT := b0 (by rw [hc]; omega)
      rw [hc] at hQ
      simp [ac8, rs8, lk_cons, hh, hm, f1, keyIs, shapeOk, kShape, storeL, strEq, z1, z2, lnV, he', h64, h64', hq, hq', hl', hl2]
      exact hQ _ (keep _ _ hT).1 (keep _ _ hT).2
    have hl' : ¬ 16 ≤ ents.length := by omega
    have hl2 : ¬ (16 : Int) ≤ ents.length := by omega
    have hc : begC T n q = 0 := by rw [begC, if_neg hno, if_neg hq, f2]; simp [hl]
    rw [hc] at hQ
    have hb : begT T n q = T ++ [(n, (q, 0, 0, 0))] := by rw [begT, if_pos hc, f2]; exact setB_new f2
    rw [hb] at hQ
    simp [ac8, rs8, lk_cons, hh, hm, f1, keyIs, shapeOk, kShape, storeL, strEq, z1, z2, lnV, he', h64, h64', hq, hq', hl', hl2]
    refine hQ _ ⟨by simp [z1, hne, hh], ⟨clock + 1, ents ++ [(clock, .str n, lnV n (q, 0, 0, 0))], by simp [lnV], All2.snoc ⟨rfl, rfl⟩ ha, ?_, ?_⟩, ?_, hne, by simp; omega⟩ ⟨by simp, fun a ha hx => by simp [show ¬ a = σ.next by omega, hx]⟩
    · intro e he
      rcases List.mem_append.1 he with he | he
      · have := hs e he; omega
      · simp at he; subst he; simp
    · rw [List.map_append, List.nodup_append]
      refine ⟨hd, by simp, ?_⟩
      rintro a ha b hb rfl
      simp at hb; subst hb
      have := stamps_lt.1 hs _ ha
      omega
    · rw [← setB_new (y := (q, 0, 0, 0)) f2]; exact setB_nodup h.keys
  · by_cases he : n.size = 0
    · have he' := e0.2 he
      have hc : begC T n q = 10 := by rw [begC, if_pos (.inl he)]
      have hT := b0 (by rw [hc]; omega)
      rw [hc] at hQ
      simp [ac8, rs8, lk_cons, hh, hm, f1, keyIs, shapeOk, kShape, storeL, strEq, z1, z2, lnV, eq_true he']
      exact hQ _ (keep _ _ hT).1 (keep _ _ hT).2
    have he' : ¬ n = ⟨#[]⟩ := fun e => he (e0.1 e)
    by_cases h64 : 64 < n.size
    · have h64' : (64 : Int) < n.size := by omega
      have hc : begC T n q = 10 := by rw [begC, if_pos (.inr h64)]
      have hT := b0 (by rw [hc]; omega)
      rw [hc] at hQ
      simp [ac8, rs8, lk_cons, hh, hm, f1, keyIs, shapeOk, kShape, storeL, strEq, z1, z2, lnV, he', h64, h64']
      exact hQ _ (keep _ _ hT).1 (keep _ _ hT).2
    have h64' : ¬ (64 : Int) < n.size := by omega
    have hno : ¬ (n.size = 0 ∨ 64 < n.size) := by omega
    by_cases hq : q = 0
    · have hq' : (q : Int) = 0 := by omega
      have hc : begC T n q = 2 := by rw [begC, if_neg hno, if_pos hq]
      have hT := b0 (by rw [hc]; omega)
      rw [hc] at hQ
      simp [ac8, rs8, lk_cons, hh, hm, f1, keyIs, shapeOk, kShape, storeL, strEq, z1, z2, lnV, he', h64, h64', hq, hq']
      exact hQ _ (keep _ _ hT).1 (keep _ _ hT).2
    have hq' : ¬ (q : Int) = 0 := by omega
    by_cases h1 : q ≤ x.2.1
    · have h1' : (q : Int) ≤ x.2.1 := by omega
      have hc : begC T n q = 40 := by rw [begC, if_neg hno, if_neg hq, f2]; simp [h1]
      have hT := b0 (by rw [hc]; omega)
      rw [hc] at hQ
      simp [ac8, rs8, lk_cons, hh, hm, f1, keyIs, shapeOk, kShape, storeL, strEq, z1, z2, lnV, he', h64, h64', hq, hq', h1, h1']
      exact hQ _ (keep _ _ hT).1 (keep _ _ hT).2
    have h1' : ¬ (q : Int) ≤ x.2.1 := by omega
    by_cases h2 : q ≤ x.1
    · have h2' : (q : Int) ≤ x.1 := by omega
      have hc : begC T n q = 41 := by rw [begC, if_neg hno, if_neg hq, f2]; simp [h1, h2]
      have hT := b0 (by rw [hc]; omega)
      rw [hc] at hQ
      simp [ac8, rs8, lk_cons, hh, hm, f1, keyIs, shapeOk, kShape, storeL, strEq, z1, z2, lnV, he', h64, h64', hq, hq', h1, h1', h2, h2']
      exact hQ _ (keep _ _ hT).1 (keep _ _ hT).2
    have h2' : ¬ (q : Int) ≤ x.1 := by omega
    have hc : begC T n q = 0 := by rw [begC, if_neg hno, if_neg hq, f2]; simp [h1, h2]
    rw [hc] at hQ
    have hb : begT T n q = setB T n (q, x.2) := by rw [begT, if_pos hc, f2]; rfl
    rw [hb] at hQ
    simp [ac8, rs8, lk_cons, hh, hm, f1, keyIs, shapeOk, kShape, storeL, strEq, z1, z2, lnV, he', h64, h64', hq, hq', h1, h1', h2, h2']
    refine hQ _ ⟨by simp [z1, hne, hh], ⟨clock, ents.modify i fun e => (e.1, .str n, lnV n (q, x.2)), by simp [lnV], f3 _, ?_, ?_⟩, setB_nodup h.keys, hne, by simp; omega⟩ ⟨by simp, fun a ha hx => by simp [show ¬ a = σ.next by omega, hx]⟩
    · rw [stamps_lt, stamps_modify (fun e => (e.1, AVal.str n, lnV n (q, x.2))) (fun e => rfl), ← stamps_lt]; exact hs
    · rw [stamps_modify (fun e => (e.1, AVal.str n, lnV n (q, x.2))) (fun e => rfl)]; exact hd
end Go.Proofs.Ytieieknhhfallaa.AM

/- Tables: Forget. -/
namespace Go.Proofs.Ytieieknhhfallaa.AM
set_option maxRecDepth 100000
set_option linter.unusedVariables false
set_option linter.unusedSimpArgs false

abbrev ZL := Nat × ByteArray × Ln
def toE (z : ZL) : Entry := (z.1, .str z.2.1, lnV z.2.1 z.2.2)
def fz (z : ZL) : ZL := (z.1, z.2.1, (z.2.2.2.1, z.2.2.2))
def curZ (S : List Nat) : List ZL → List ZL
  | [] => []
  | z :: Z => if z.1 ∈ S then (if z.2.2.2.1 = 0 then curZ S Z else fz z :: curZ S Z) else z :: curZ S Z
def fgt (T : Tbl) : Tbl := (T.filter fun p => decide (p.2.2.1 ≠ 0)).map fun p => (p.1, (p.2.2.1, p.2.2))

theorem all2Z : ∀ {ents : List Entry} {T : Tbl}, All2 EntL ents T → ∃ Z : List ZL, ents = Z.map toE ∧ T = Z.map (·.2)
  | [], [], _ => ⟨[], rfl, rfl⟩
  | (s, y, d) :: ents, (n, x) :: T, h => by
    obtain ⟨⟨hy, hd⟩, ht⟩ := h
    simp only at hy hd
    subst hy hd
    obtain ⟨Z, h1, h2⟩ := all2Z ht
    exact ⟨(s, n, x) :: Z, by simp [h1, toE], by simp [h2]⟩
  | [], _ :: _, h => h.elim
  | _ :: _, [], h => h.elim
theorem zAll2 : ∀ Z : List ZL, All2 EntL (Z.map toE) (Z.map (·.2))
  | [] => trivial
  | z :: Z => ⟨⟨rfl, rfl⟩, zAll2 Z⟩

theorem curZ_mem {S : List Nat} {z : ZL} : ∀ {Z : List ZL}, z ∈ Z → z.1 ∉ S → z ∈ curZ S Z
  | z0 :: Z, h, hs => by
    simp only [curZ]
    rcases List.mem_cons.1 h with rfl | h
    · rw [if_neg hs]; simp
    · have ih := curZ_mem h hs
      split
      · split
        · exact ih
        · simp [ih]
      · simp [ih]
theorem curZ_of {S : List Nat} {z : ZL} : ∀ {Z : List ZL}, z ∈ curZ S Z → ∃ z0 ∈ Z, z0.1 = z.1 ∧ (z.1 ∉ S → z = z0)
  | z0 :: Z, h => by
    simp only [curZ] at h
    split at h
    · rename_i hs
      split at h
      · obtain ⟨y, hy, h2⟩ := curZ_of h
        exact ⟨y, by simp [hy], h2⟩
      · rcases List.mem_cons.1 h with rfl | h
        · exact ⟨z0, by simp, rfl, fun hn => absurd hs hn⟩
        · obtain ⟨y, hy, h2⟩ := curZ_of h
          exact ⟨y, by simp [hy], h2⟩
    · rcases List.mem_cons.1 h with rfl | h
      · exact ⟨z, by simp, rfl, fun _ => rfl⟩
      · obtain ⟨y, hy, h2⟩ := curZ_of h
        exact ⟨y, by simp [hy], h2⟩
theorem curZ_new {S : List Nat} {s : Nat} : ∀ {Z : List ZL}, s ∉ Z.map (·.1) → curZ (S ++ [s]) Z = curZ S Z
  | [], _ => rfl
  | z :: Z, h => by
    simp only [List.map_cons, List.mem_cons, not_or] at h
    have ih := curZ_new (S := S) h.2
    have e : z.1 ∈ S ++ [s] ↔ z.1 ∈ S := by
      simp only [List.mem_append, List.mem_singleton]
      exact ⟨fun h' => h'.elim id fun e => absurd e.symm h.1, .inl⟩
    simp only [curZ, e, ih]
theorem curZ_nil : ∀ Z : List ZL, curZ [] Z = Z
  | [] => rfl
  | z :: Z => by simp [curZ, curZ_nil Z]
theorem curZ_all {S : List Nat} : ∀ {Z : List ZL}, (∀ z ∈ Z, z.1 ∈ S) → (curZ S Z).map (·.2) = fgt (Z.map (·.2))
  | [], _ => rfl
  | z :: Z, h => by
    have ih := curZ_all (S := S) (Z := Z) fun y hy => h y (List.mem_cons_of_mem _ hy)
    have hz := h z (by simp)
    simp only [curZ, if_pos hz, fgt, List.map_cons, List.filter_cons] at ih ⊢
    by_cases h0 : z.2.2.2.1 = 0
    · simp [h0, ih]
    · simp [h0, ih, fz]
theorem curZ_keys {S : List Nat} : ∀ {Z : List ZL}, (Z.map fun z => z.2.1).Nodup → ((curZ S Z).map fun z => z.2.1).Nodup ∧ ∀ n ∈ (curZ S Z).map fun z => z.2.1, n ∈ Z.map fun z => z.2.1
  | [], _ => ⟨by simp [curZ], by simp [curZ]⟩
  | z :: Z, h => by
    simp only [List.map_cons, List.nodup_cons] at h
    have ih := curZ_keys (S := S) h.2
    simp only [curZ]
    split
    · split
      · exact ⟨ih.1, fun n hn => by simp only [List.map_cons, List.mem_cons]; exact .inr (ih.2 n hn)⟩
      · refine ⟨?_, fun n hn => ?_⟩
        · simp only [List.map_cons, List.nodup_cons]
          exact ⟨fun hx => h.1 (ih.2 _ hx), ih.1⟩
        · simp only [List.map_cons, List.mem_cons] at hn ⊢
          exact hn.imp id (ih.2 n)
    · refine ⟨?_, fun n hn => ?_⟩
      · simp only [List.map_cons, List.nodup_cons]
        exact ⟨fun hx => h.1 (ih.2 _ hx), ih.1⟩
      · simp only [List.map_cons, List.mem_cons] at hn ⊢
        exact hn.imp id (ih.2 n)
theorem curZ_stamps {S : List Nat} : ∀ {Z : List ZL}, (Z.map (·.1)).Nodup → ((curZ S Z).map (·.1)).Nodup ∧ ∀ n ∈ (curZ S Z).map (·.1), n ∈ Z.map (·.1)
  | [], _ => ⟨by simp [curZ], by simp [curZ]⟩
  | z :: Z, h => by
    simp only [List.map_cons, List.nodup_cons] at h
    have ih := curZ_stamps (S := S) h.2
    simp only [curZ]
    split
    · split
      · exact ⟨ih.1, fun n hn => by simp only [List.map_cons, List.mem_cons]; exact .inr (ih.2 n hn)⟩
      · refine ⟨?_, fun n hn => ?_⟩
        · simp only [List.map_cons, List.nodup_cons]
          exact ⟨fun hx => h.1 (ih.2 _ hx), ih.1⟩
        · simp only [List.map_cons, List.mem_cons] at hn ⊢
          exact hn.imp id (ih.2 n)
    · refine ⟨?_, fun n hn => ?_⟩
      · simp only [List.map_cons, List.nodup_cons]
        exact ⟨fun hx => h.1 (ih.2 _ hx), ih.1⟩
      · simp only [List.map_cons, List.mem_cons] at hn ⊢
        exact hn.imp id (ih.2 n)

def left (S : List Nat) (Z : List ZL) : Nat := Z.countP fun z => decide (z.1 ∉ S)
theorem left_le {S : List Nat} {s : Nat} : ∀ Z : List ZL, left (S ++ [s]) Z ≤ left S Z := fun Z => List.countP_mono_left fun z _ h => by
  simp only [decide_eq_true_eq, List.mem_append, not_or] at h ⊢; exact h.1
theorem left_lt {S : List Nat} {z : ZL} : ∀ {Z : List ZL}, z ∈ Z → z.1 ∉ S → left (S ++ [z.1]) Z < left S Z
  | z0 :: Z, h, hs => by
    simp only [left, List.countP_cons]
    have hle := left_le (S := S) (s := z.1) Z
    simp only [left] at hle
    rcases List.mem_cons.1 h with rfl | h
    · simp [hs]
      exact Nat.lt_succ_of_le (by simpa using hle)
    · have ih := left_lt h hs
      simp only [left] at ih
      by_cases h0 : z0.1 ∈ S
      · simp [h0]; simpa using ih
      · by_cases h1 : z0.1 = z.1
        · simp [h0, h1] at ih ⊢; omega
        · simp [h0, h1]; simpa using ih

theorem fgt_step {S : List Nat} {z : ZL} (y : Ln) : ∀ {Z : List ZL}, (Z.map fun z => z.2.1).Nodup → (Z.map (·.1)).Nodup → z ∈ Z → z.1 ∉ S →
    ∃ i, findA (.str z.2.1) ((curZ S Z).map toE) = some (some (i, lnV z.2.1 z.2.2)) ∧
      findA (.str z.2.1) (((curZ S Z).map toE).modify i fun e => (e.1, .str z.2.1, lnV z.2.1 y)) = some (some (i, lnV z.2.1 y)) ∧
      (z.2.2.2.1 ≠ 0 → y = (z.2.2.2.1, z.2.2.2) → (((curZ S Z).map toE).modify i fun e => (e.1, .str z.2.1, lnV z.2.1 y)) = (curZ (S ++ [z.1]) Z).map toE) ∧
      (z.2.2.2.1 = 0 → (((curZ S Z).map toE).modify i fun e => (e.1, .str z.2.1, lnV z.2.1 y)).eraseIdx i = (curZ (S ++ [z.1]) Z).map toE)
  | z0 :: Z, hk, hs, h, hn => by
    simp only [List.map_cons, List.nodup_cons] at hk hs
    have hin : z.1 ∈ S ++ [z.1] := by simp
    rcases List.mem_cons.1 h with rfl | h
    · have e := curZ_new (S := S) hs.1
      refine ⟨0, ?_, ?_, ?_, ?_⟩
      · simp only [curZ, if_neg hn, List.map_cons, toE, findA, keyS, decide_true]
      · simp only [curZ, if_neg hn, List.map_cons, toE, List.modify_zero_cons, findA, keyS, decide_true]
      · intro h0 hy
        simp only [curZ, if_neg hn, if_pos hin, if_neg h0, List.map_cons, List.modify_zero_cons, e, fz, toE, hy]
      · intro h0
        simp only [curZ, if_neg hn, if_pos hin, if_pos h0, List.map_cons, List.modify_zero_cons, List.eraseIdx_cons_zero, e]
    · have hk0 : z.2.1 ≠ z0.2.1 := fun e => hk.1 (by rw [← e]; exact List.mem_map.2 ⟨z, h, rfl⟩)
      have hs0 : z0.1 ≠ z.1 := fun e => hs.1 (by rw [e]; exact List.mem_map.2 ⟨z, h, rfl⟩)
      have hm : z0.1 ∈ S ++ [z.1] ↔ z0.1 ∈ S := by simp [hs0]
      obtain ⟨i, h1, h2, h3, h4⟩ := fgt_step y hk.2 hs.2 h hn
      simp only [curZ, hm]
      split
      · split
        · exact ⟨i, h1, h2, h3, h4⟩
        · refine ⟨i + 1, ?_, ?_, ?_, ?_⟩
          · simp only [List.map_cons, toE, fz, findA, keyS, decide_eq_false hk0] at h1 ⊢; rw [h1]; rfl
          · simp only [List.map_cons, toE, fz, List.modify_succ_cons, findA, keyS, decide_eq_false hk0] at h2 ⊢; rw [h2]; rfl
          · intro a b; simp only [List.map_cons, List.modify_succ_cons]; rw [h3 a b]
          · intro a; simp only [List.map_cons, List.modify_succ_cons, List.eraseIdx_cons_succ]; rw [h4 a]
      · refine ⟨i + 1, ?_, ?_, ?_, ?_⟩
        · simp only [List.map_cons, toE, fz, findA, keyS, decide_eq_false hk0] at h1 ⊢; rw [h1]; rfl
        · simp only [List.map_cons, toE, fz, List.modify_succ_cons, findA, keyS, decide_eq_false hk0] at h2 ⊢; rw [h2]; rfl
        · intro a b; simp only [List.map_cons, List.modify_succ_cons]; rw [h3 a b]
        · intro a; simp only [List.map_cons, List.modify_succ_cons, List.eraseIdx_cons_succ]; rw [h4 a]

theorem stamp_find {z : ZL} : ∀ {Z : List ZL}, (Z.map (·.1)).Nodup → z ∈ Z → (Z.map toE).find? (fun e => e.1 == z.1) = some (toE z)
  | z0 :: Z, hs, h => by
    simp only [List.map_cons, List.nodup_cons] at hs
    rcases List.mem_cons.1 h with rfl | h
    · simp [toE]
    · have hs0 : z0.1 ≠ z.1 := fun e => hs.1 (by rw [e]; exact List.mem_map.2 ⟨z, h, rfl⟩)
      have ih := stamp_find hs.2 h
      simp only [List.map_cons, List.find?_cons, toE] at ih ⊢
      have hb : (z0.1 == z.1) = false := by simpa using hs0
      rw [hb]; exact ih

/-- What the next step may be. -/
theorem next_is {σ : St} {it mp clock : Nat} {S : List Nat} {Z : List ZL} (hi : σ.mem.get it = some (.iter (some mp) clock S clock)) (hm : σ.mem.get mp = some (.map clock ((curZ S Z).map toE))) (hs : ∀ z ∈ Z, z.1 < clock) :
    ∃ L, nextC σ (.ptr it 0) = some L ∧ ∀ p ∈ L, (p = (.tup [.bool false], σ) ∧ ∀ z ∈ Z, z.1 ∈ S) ∨ ∃ z ∈ Z, z.1 ∉ S ∧ p = (.tup [.bool true, .str z.2.1, lnV z.2.1 z.2.2], ⟨σ.mem.set it (.iter (some mp) clock (S ++ [z.1]) clock), σ.next⟩) := by
  have hlt : ∀ e ∈ (curZ S Z).map toE, e.1 < clock := by
    intro e he
    obtain ⟨z, hz, rfl⟩ := List.mem_map.1 he
    obtain ⟨z0, h0, e0, _⟩ := curZ_of hz
    have := hs z0 h0
    show z.1 < clock
    omega
  have hno : (!S.isEmpty && !((curZ S Z).map toE).isEmpty && ((curZ S Z).map toE).all fun e => decide (clock ≤ e.1)) = false := by
    cases hc : (curZ S Z).map toE with
    | nil => simp
    | cons e es =>
      have := hlt e (by rw [hc]; simp)
      have : decide (clock ≤ e.1) = false := by simp; omega
      simp [this]
  simp only [nextC, hi, hm, hno]
  refine ⟨_, rfl, fun p hp => ?_⟩
  rcases List.mem_append.1 hp with hp | hp
  · split at hp
    · rename_i hem
      simp at hp
      refine .inl ⟨hp, fun z hz => ?_⟩
      refine Classical.byContradiction fun hzs => ?_
      have h1 := curZ_mem hz hzs
      have : toE z ∈ (((curZ S Z).map toE).filter fun e => !S.contains e.1).filter fun e => decide (e.1 < clock) := by
        rw [List.mem_filter, List.mem_filter]
        refine ⟨⟨List.mem_map.2 ⟨z, h1, rfl⟩, ?_⟩, ?_⟩
        · show (!S.contains z.1) = true
          simpa using hzs
        · show decide (z.1 < clock) = true
          exact decide_eq_true (hs z hz)
      rw [List.isEmpty_iff] at hem
      rw [hem] at this
      cases this
    · cases hp
  · obtain ⟨e, he, rfl⟩ := List.mem_map.1 hp
    have he2 : e ∈ (curZ S Z).map toE ∧ e.1 ∉ S := by
      rcases List.mem_append.1 he with he | he <;>
      · rw [List.mem_filter, List.mem_filter] at he
        exact ⟨he.1.1, by simpa using he.1.2⟩
    obtain ⟨z, hz, rfl⟩ := List.mem_map.1 he2.1
    obtain ⟨z0, h0, _, h1⟩ := curZ_of hz
    have := h1 he2.2
    subst this
    exact .inr ⟨z, h0, he2.2, rfl⟩
end Go.Proofs.Ytieieknhhfallaa.AM

/- Tables: Forget, Done, Last, walked. -/
namespace Go.Proofs.Ytieieknhhfallaa.AM
set_option maxRecDepth 100000
set_option linter.unusedVariables false
set_option linter.unusedSimpArgs false

def FgtJ (t mp it clock : Nat) (Z : List ZL) (σ0 : St) (mm : Nat) (r : Regs) (σ' : St) : Prop := ∃ S : List Nat, mm = left S Z ∧ σ'.mem.get it = some (.iter (some mp) clock S clock) ∧ σ'.mem.get mp = some (.map clock ((curZ S Z).map toE)) ∧ σ'.mem.get t = some (.cells 1 [.map mp]) ∧ it < σ'.next ∧ Keep1 mp σ0 σ' ∧ r = [(0, .ptr t 0), (10, .ptr it 0)]

theorem forget_c {σ : St} {t mp : Nat} {T : Tbl} (h : TRep σ t mp T) (Q : AVal → St → Prop) (hQ : ∀ σ', TRep σ' t mp (fgt T) → Keep1 mp σ σ' → Q (.tup []) σ') :
    ACall Try.prog 10 [.ptr t 0] σ Q := by
  refine ACall.of_compF hmx (fun a w => Try.call10 a w) Try.func10 cf10 (n := 1) (by decide) rfl ?_
  have hh := h.head
  have hlt := h.lt
  have hne := h.ne
  have hkeys := h.keys
  obtain ⟨clock, ents, hm, ha, hs, hd⟩ := h.map
  obtain ⟨Z, rfl, rfl⟩ := all2Z ha
  have hs' : ∀ z ∈ Z, z.1 < clock := fun z hz => hs (toE z) (List.mem_map.2 ⟨z, hz, rfl⟩)
  have hd' : (Z.map (·.1)).Nodup := by simpa [List.map_map, Function.comp_def, toE] using hd
  have hk' : (Z.map fun z => z.2.1).Nodup := by simpa [List.map_map, Function.comp_def] using hkeys
  have z1 : ¬ t = σ.next := by omega
  have z2 : ¬ mp = σ.next := by omega
  simp [ac10, rs10, lk_cons, hh, hm]
  refine wp_loop (FgtJ t mp σ.next clock Z σ) (left [] Z) ?_ ?_
  · exact ⟨[], rfl, by simp, by simp [z2, hm, curZ_nil], by simp [z1, hh], by simp, ⟨by simp, fun a ha _ => by simp [show ¬ a = σ.next by omega]⟩, rfl⟩
  · rintro mm r σ' ⟨S, rfl, hi, hm', ht', hil, hk, rfl⟩
    obtain ⟨L, hL, hp⟩ := next_is hi hm' hs'
    simp [lk_cons, hL]
    intro v σ'' hv
    rcases hp _ hv with ⟨e, hall⟩ | ⟨z, hz, hzS, e⟩
    · cases e
      simp [lk_cons]
      refine hQ _ ⟨ht', ⟨clock, _, hm', ?_, ?_, ?_⟩, ?_, hne, by have := hk.1; omega⟩ hk
      · rw [← curZ_all hall]; exact zAll2 _
      · intro e he
        obtain ⟨y, hy, rfl⟩ := List.mem_map.1 he
        obtain ⟨y0, h0, e0, _⟩ := curZ_of hy
        have := hs' y0 h0
        show y.1 < clock
        omega
      · have := (curZ_stamps (S := S) hd').1
        simpa [List.map_map, Function.comp_def, toE] using this
      · rw [← curZ_all hall]
        have := (curZ_keys (S := S) hk').1
        simpa [List.map_map, Function.comp_def] using this
    · cases e
      have hfind : ((curZ S Z).map toE).find? (fun e => e.1 == z.1) = some (toE z) := stamp_find (curZ_stamps hd').1 (curZ_mem hz hzS)
      obtain ⟨i, f1, f2, f3, f4⟩ := fgt_step (S := S) (z.2.2.2.1, z.2.2.2) hk' hd' hz hzS
      have q1 : ¬ mp = σ.next := z2
      have q2 : ¬ mp = σ'.next := by have := hk.1; omega
      have q3 : ¬ t = σ'.next := by have := hk.1; omega
      have kn := hk.1
      have w1 : ¬ σ.next = σ'.next := by omega
      have w2 : ¬ σ.next = mp := by omega
      have w3 : ¬ t = mp := hne
      have w4 : ¬ σ'.next = mp := by omega
      have w5 : ¬ mp = σ'.next := by omega
      simp only [lnV] at f1 f2 f3 f4
      have done : ∀ (b0 b1 b2 b3 : Blk) (E : List Entry), E = (curZ (S ++ [z.1]) Z).map toE → FgtJ t mp σ.next clock Z σ (left (S ++ [z.1]) Z) [(0, .ptr t 0), (10, .ptr σ.next 0)] ⟨((((((σ'.mem.set σ.next (.iter (some mp) clock (S ++ [z.1]) clock)).set σ'.next b0).set σ'.next b1).set σ'.next b2).set mp b3).set mp (.map clock E)), σ'.next + 1⟩ := by
        intro b0 b1 b2 b3 E hE
        refine ⟨S ++ [z.1], rfl, by simp [w1, w2], by simp [hE], by simp [w3, q3, z1, ht'], by simp; omega, ⟨by simp; omega, fun a ha hx => by have := hk.2 a ha hx; simp [hx, show ¬ a = σ'.next by omega, show ¬ a = σ.next by omega, this]⟩, rfl⟩
      have done2 : ∀ (b0 b1 b2 : Blk) (E : List Entry), E = (curZ (S ++ [z.1]) Z).map toE → FgtJ t mp σ.next clock Z σ (left (S ++ [z.1]) Z) [(0, .ptr t 0), (10, .ptr σ.next 0)] ⟨(((((σ'.mem.set σ.next (.iter (some mp) clock (S ++ [z.1]) clock)).set σ'.next b0).set σ'.next b1).set σ'.next b2).set mp (.map clock E)), σ'.next + 1⟩ := by
        intro b0 b1 b2 E hE
        refine ⟨S ++ [z.1], rfl, by simp [w1, w2], by simp [hE], by simp [w3, q3, z1, ht'], by simp; omega, ⟨by simp; omega, fun a ha hx => by have := hk.2 a ha hx; simp [hx, show ¬ a = σ'.next by omega, show ¬ a = σ.next by omega, this]⟩, rfl⟩
      by_cases h0 : z.2.2.2.1 = 0
      · have h0' : (z.2.2.2.1 : Int) = 0 := by omega
        have cz : ((0 : Nat) : Int) = 0 := rfl
        have f4 := f4 h0
        simp only [h0, cz] at f2 f4
        simp [lk_cons, hm', hfind, toE, lnV, storeL, ht', z1, z2, q1, q2, q3, f1, f2, keyIs, shapeOk, kShape, w1, w2, w3, w4, h0, h0']
        exact ⟨_, left_lt hz hzS, done _ _ _ _ _ f4⟩
      · have h0' : ¬ (z.2.2.2.1 : Int) = 0 := by omega
        simp [lk_cons, hm', hfind, toE, lnV, storeL, ht', z1, z2, q1, q2, q3, f1, f2, keyIs, shapeOk, kShape, w1, w2, w3, w4, h0, h0']
        exact ⟨_, left_lt hz hzS, done2 _ _ _ _ (f3 h0 trivial)⟩
end Go.Proofs.Ytieieknhhfallaa.AM

/- Tables: Done, Last; a nil one. -/
namespace Go.Proofs.Ytieieknhhfallaa.AM
set_option maxRecDepth 100000
set_option linter.unusedVariables false
set_option linter.unusedSimpArgs false

def doneC (T : Tbl) (n : ByteArray) (q : Nat) : Int := match lkB T n with
  | none => 11
  | some x => if x.1 < q then 11 else if q ≤ x.2.1 then 40 else 0
def doneT (T : Tbl) (n : ByteArray) (q : Nat) (at' : Nat × Nat) : Tbl := if doneC T n q = 0 then setB T n (((lkB T n).getD (0, 0, 0, 0)).1, q, at') else T

theorem done_c {σ : St} {t mp : Nat} {T : Tbl} (h : TRep σ t mp T) (n : ByteArray) (q : Nat) (at' : Nat × Nat) (Q : AVal → St → Prop) (hQ : ∀ σ', TRep σ' t mp (doneT T n q at') → Keep1 mp σ σ' → Q (i64 (doneC T n q)) σ') :
    ACall Try.prog 9 [.ptr t 0, .str n, u64 (q : Int), .agg [u64 (at'.1 : Int), u64 (at'.2 : Int)]] σ Q := by
  refine ACall.of_compF hmx (fun a w => Try.call9 a w) Try.func9 cf9 (n := 4) (by decide) rfl ?_
  have hh := h.head
  have hlt := h.lt
  have hne := h.ne
  obtain ⟨clock, ents, hm, ha, hs, hd⟩ := h.map
  have z1 : ¬ t = σ.next := by omega
  have z2 : ¬ mp = σ.next := by omega
  have z3 : ¬ t = σ.next + 1 := by omega
  have z4 : ¬ mp = σ.next + 1 := by omega
  have z5 : ¬ σ.next = σ.next + 1 := by omega
  have keep : ∀ b0 b c : Blk, doneT T n q at' = T → TRep ⟨((σ.mem.set σ.next b0).set (σ.next + 1) b).set (σ.next + 1) c, σ.next + 1 + 1⟩ t mp (doneT T n q at') ∧ Keep1 mp σ ⟨((σ.mem.set σ.next b0).set (σ.next + 1) b).set (σ.next + 1) c, σ.next + 1 + 1⟩ := fun b0 b c hb => by
    rw [hb]
    exact ⟨h.frame (fun a ha => by simp [show ¬ a = σ.next by omega, show ¬ a = σ.next + 1 by omega]) (by simp; omega), ⟨by simp; omega, fun a ha _ => by simp [show ¬ a = σ.next by omega, show ¬ a = σ.next + 1 by omega]⟩⟩
  have b0 : doneC T n q ≠ 0 → doneT T n q at' = T := fun hc => by rw [doneT, if_neg hc]
  rcases findS (n := n) ha with ⟨f1, f2⟩ | ⟨i, x, f1, f2, f3⟩
  · have hc : doneC T n q = 11 := by rw [doneC, f2]
    have hT := b0 (by rw [hc]; omega)
    rw [hc] at hQ
    simp [ac9, rs9, lk_cons, hh, hm, f1, keyIs, shapeOk, kShape, storeL, strEq, z1, z2, z3, z4, lnV]
    exact hQ _ (keep _ _ _ hT).1 (keep _ _ _ hT).2
  · by_cases h1 : x.1 < q
    · have h1' : (x.1 : Int) < q := by omega
      have hc : doneC T n q = 11 := by rw [doneC, f2]; simp [h1]
      have hT := b0 (by rw [hc]; omega)
      rw [hc] at hQ
      simp [ac9, rs9, lk_cons, hh, hm, f1, keyIs, shapeOk, kShape, storeL, strEq, z1, z2, z3, z4, lnV, h1, h1']
      exact hQ _ (keep _ _ _ hT).1 (keep _ _ _ hT).2
    have h1' : ¬ (x.1 : Int) < q := by omega
    by_cases h2 : q ≤ x.2.1
    · have h2' : (q : Int) ≤ x.2.1 := by omega
      have hc : doneC T n q = 40 := by rw [doneC, f2]; simp [h1, h2]
      have hT := b0 (by rw [hc]; omega)
      rw [hc] at hQ
      simp [ac9, rs9, lk_cons, hh, hm, f1, keyIs, shapeOk, kShape, storeL, strEq, z1, z2, z3, z4, lnV, h1, h1', h2, h2']
      exact hQ _ (keep _ _ _ hT).1 (keep _ _ _ hT).2
    have h2' : ¬ (q : Int) ≤ x.2.1 := by omega
    have hc : doneC T n q = 0 := by rw [doneC, f2]; simp [h1, h2]
    rw [hc] at hQ
    have hb : doneT T n q at' = setB T n (x.1, q, at') := by rw [doneT, if_pos hc, f2]; rfl
    rw [hb] at hQ
    simp [ac9, rs9, lk_cons, hh, hm, f1, keyIs, shapeOk, kShape, storeL, strEq, z1, z2, z3, z4, lnV, z5, h1, h1', h2, h2']
    refine hQ _ ⟨by simp [z1, z3, hne, hh], ⟨clock, ents.modify i fun e => (e.1, .str n, lnV n (x.1, q, at')), by simp [lnV], f3 _, ?_, ?_⟩, setB_nodup h.keys, hne, by simp; omega⟩ ⟨by simp; omega, fun a ha hx => by simp [show ¬ a = σ.next by omega, show ¬ a = σ.next + 1 by omega, hx]⟩
    · rw [stamps_lt, stamps_modify (fun e => (e.1, AVal.str n, lnV n (x.1, q, at'))) (fun e => rfl), ← stamps_lt]; exact hs
    · rw [stamps_modify (fun e => (e.1, AVal.str n, lnV n (x.1, q, at'))) (fun e => rfl)]; exact hd

theorem begin_nil (n q : AVal) (σ : St) (Q : AVal → St → Prop) (h : Q (i64 1) σ) : ACall Try.prog 8 [.nilp, n, q] σ Q := by
  refine ACall.of_compF hmx (fun a w => Try.call8 a w) Try.func8 cf8 (n := 3) (by decide) rfl ?_
  simp [ac8, rs8, lk_cons, h]
theorem done_nil (n q : AVal) (a b : Int) (σ : St) (Q : AVal → St → Prop) (h : ∀ σ', (∀ x, x < σ.next → σ'.mem.get x = σ.mem.get x) → σ.next ≤ σ'.next → Q (i64 1) σ') : ACall Try.prog 9 [.nilp, n, q, .agg [u64 a, u64 b]] σ Q := by
  refine ACall.of_compF hmx (fun a w => Try.call9 a w) Try.func9 cf9 (n := 4) (by decide) rfl ?_
  simp [ac9, rs9, lk_cons]
  exact h _ (fun x hx => by simp [show ¬ x = σ.next by omega]) (by simp)
theorem forget_nil (σ : St) (Q : AVal → St → Prop) (h : Q (.tup []) σ) : ACall Try.prog 10 [.nilp] σ Q := by
  refine ACall.of_compF hmx (fun a w => Try.call10 a w) Try.func10 cf10 (n := 1) (by decide) rfl ?_
  simp [ac10, rs10, lk_cons, h]
theorem last_nil (n : AVal) (σ : St) (Q : AVal → St → Prop) (h : ∀ σ', (∀ x, x < σ.next → σ'.mem.get x = σ.mem.get x) → σ.next ≤ σ'.next → Q (.tup [lnV ⟨#[]⟩ (0, 0, 0, 0), .bool false]) σ') : ACall Try.prog 11 [.nilp, n] σ Q := by
  refine ACall.of_compF hmx (fun a w => Try.call11 a w) Try.func11 cf11 (n := 2) (by decide) rfl ?_
  simp [ac11, rs11, lk_cons, storeL, fillL]
  simp [lnV] at h
  refine h _ ?_ ?_
  · intro x hx; simp [show ¬ x = σ.next by omega]
  · simp
theorem all_nil (σ : St) (Q : AVal → St → Prop) (h : Q .nilsl σ) : ACall Try.prog 12 [.nilp] σ Q := by
  refine ACall.of_compF hmx (fun a w => Try.call12 a w) Try.func12 cf12 (n := 1) (by decide) rfl ?_
  simp [ac12, rs12, lk_cons, h]
end Go.Proofs.Ytieieknhhfallaa.AM

/- The example of chapter 15 is as it should be. -/
namespace Go.Proofs.Ytieieknhhfallaa.AM
set_option maxRecDepth 100000
set_option linter.unusedVariables false
set_option linter.unusedSimpArgs false

def tabL : TabL := [(6, ac6, rs6, 0), (7, ac7, rs7, 0), (8, ac8, rs8, 3), (9, ac9, rs9, 4), (10, ac10, rs10, 1), (11, ac11, rs11, 2)]
theorem tabOk : TabOk Try.prog (look tabL) := by
  unfold tabL
  refine tab_cons ?_ (fun a w => Try.call6 a w) Try.func6 cf6 (by decide)
  refine tab_cons ?_ (fun a w => Try.call7 a w) Try.func7 cf7 (by decide)
  refine tab_cons ?_ (fun a w => Try.call8 a w) Try.func8 cf8 (by decide)
  refine tab_cons ?_ (fun a w => Try.call9 a w) Try.func9 cf9 (by decide)
  refine tab_cons ?_ (fun a w => Try.call10 a w) Try.func10 cf10 (by decide)
  refine tab_cons ?_ (fun a w => Try.call11 a w) Try.func11 cf11 (by decide)
  exact tab_nil hmx

def runOk (x : Option (AVal × St)) : Bool := match x with
  | some (.bool true, _) => true
  | _ => false
theorem awake_run : runOk (callT (look tabL) 300 20 6 [] σ0) = true := by kernel_rfl
theorem awake (σ : St) (Q : AVal → St → Prop) (hq : Q (.bool true) σ) : ACall Try.prog 6 [] σ Q := by
  refine ACall.frame ?_ rfl
  have h := awake_run
  unfold runOk at h
  split at h
  · rename_i σ hs; exact ACall.of_run tabOk 300 20 hs ⟨rfl, hq⟩
  · cases h
end Go.Proofs.Ytieieknhhfallaa.AM
