/- What the functions of this chapter give: their contracts over the machine. -/
import Derived.Test.YtieieknhhfallaaDoorC115
import Derived.Test.YtieieknhhfallaaDoorAm3
import Derived.Shelf.SlGeneric
import Derived.Ground.SlsfProg
import Derived.Shelf.SlSortCmp.NoneTotal
/- A table in memory: who sent what. -/
namespace Go.Proofs.YtieieknhhfallaaDoor.AM
set_option maxRecDepth 100000
set_option linter.unusedVariables false
set_option linter.unusedSimpArgs false

abbrev i64 (n : Int) : AVal := .int .i64 n
abbrev u64 (n : Int) : AVal := .int .u64 n
/-- A line: top, done, ledger, entry. -/
abbrev Ln := Nat × Nat × Nat × Nat
def lnV (n : ByteArray) (x : Ln) : AVal := .agg [.str n, u64 (x.1 : Int), u64 (x.2.1 : Int), u64 (x.2.2.1 : Int), u64 (x.2.2.2 : Int)]
abbrev Tbl := List (ByteArray × Ln)
def lkB : Tbl → ByteArray → Option Ln
  | [], _ => none
  | (k, x) :: T, n => if n = k then some x else lkB T n
def setB : Tbl → ByteArray → Ln → Tbl
  | [], n, y => [(n, y)]
  | (k, x) :: T, n, y => if n = k then (n, y) :: T else (k, x) :: setB T n y
def EntL (e : Entry) (p : ByteArray × Ln) : Prop := e.2.1 = .str p.1 ∧ e.2.2 = lnV p.1 p.2

theorem lkB_none {n : ByteArray} : ∀ {T : Tbl}, lkB T n = none ↔ n ∉ T.map (·.1)
  | [] => by simp [lkB]
  | (k, x) :: T => by
    have ih := lkB_none (n := n) (T := T)
    simp only [lkB, List.map_cons, List.mem_cons]
    by_cases h : n = k
    · simp [h]
    · rw [if_neg h, ih]; simp [h]
theorem setB_new {n : ByteArray} {y : Ln} : ∀ {T : Tbl}, lkB T n = none → setB T n y = T ++ [(n, y)]
  | [], _ => rfl
  | (k, x) :: T, h => by
    simp only [lkB] at h
    by_cases hk : n = k
    · rw [if_pos hk] at h; cases h
    · rw [if_neg hk] at h
      simp only [setB]
      rw [if_neg hk, setB_new h]; rfl
theorem setB_keys {n : ByteArray} {y x : Ln} : ∀ {T : Tbl}, lkB T n = some x → (setB T n y).map (·.1) = T.map (·.1)
  | [], h => by cases h
  | (k, z) :: T, h => by
    simp only [lkB] at h
    simp only [setB]
    by_cases hk : n = k
    · rw [if_pos hk]; simp [hk]
    · rw [if_neg hk] at h ⊢
      simp [setB_keys h]
theorem setB_nodup {n : ByteArray} {y : Ln} {T : Tbl} (h : (T.map (·.1)).Nodup) : ((setB T n y).map (·.1)).Nodup := by
  cases hl : lkB T n with
  | none =>
    rw [setB_new hl, List.map_append, List.nodup_append]
    refine ⟨h, by simp, ?_⟩
    rintro a ha b hb rfl
    simp at hb; subst hb
    exact lkB_none.1 hl ha
  | some x => rw [setB_keys hl]; exact h
theorem setB_get {n q : ByteArray} {y : Ln} : ∀ {T : Tbl}, lkB (setB T n y) q = if q = n then some y else lkB T q
  | [] => by simp [setB, lkB]
  | (k, x) :: T => by
    have ih := setB_get (n := n) (q := q) (y := y) (T := T)
    simp only [setB]
    by_cases hk : n = k
    · subst hk
      rw [if_pos rfl]
      simp only [lkB]
      by_cases hq : q = n
      · simp [hq]
      · simp [hq]
    · rw [if_neg hk]
      simp only [lkB, ih]
      by_cases hq : q = k
      · subst hq
        have : ¬ q = n := fun e => hk e.symm
        simp [this]
      · simp [hq]
theorem setB_len {n : ByteArray} {y : Ln} {T : Tbl} : (setB T n y).length = if lkB T n = none then T.length + 1 else T.length := by
  cases hl : lkB T n with
  | none => rw [setB_new hl]; simp
  | some x =>
    have := congrArg List.length (setB_keys (y := y) hl)
    simpa using this

theorem ba_beq (a b : ByteArray) : (a == b) = decide (a = b) := by
  have h : (a == b) = (a.data == b.data) := by
    cases a; cases b; rfl
  rw [h]
  by_cases hab : a = b
  · subst hab; simp
  · have : ¬ a.data = b.data := fun e => hab (ByteArray.ext e)
    simp [hab, this]
theorem keyS (a b : ByteArray) : keyEqA (.str a) (.str b) = some (decide (a = b)) := by
  simp only [keyEqA, keyEq, ba_beq]
theorem findS {n : ByteArray} : ∀ {ents : List Entry} {T : Tbl}, All2 EntL ents T → (findA (.str n) ents = some none ∧ lkB T n = none) ∨ ∃ i x, findA (.str n) ents = some (some (i, lnV n x)) ∧ lkB T n = some x ∧ ∀ y, All2 EntL (ents.modify i fun e => (e.1, .str n, lnV n y)) (setB T n y)
  | [], [], _ => .inl ⟨rfl, rfl⟩
  | (st, y, d) :: ents, (k, x) :: T, h => by
    obtain ⟨⟨hy, hd⟩, ht⟩ := h
    simp only at hy hd
    subst hy hd
    by_cases hnk : n = k
    · subst hnk
      refine .inr ⟨0, x, by simp only [findA, keyS, decide_true], by simp [lkB], fun y => ?_⟩
      simp only [List.modify_zero_cons, setB, if_true]
      exact ⟨⟨rfl, rfl⟩, ht⟩
    · have hf : keyEqA (.str n) (.str k) = some false := by rw [keyS, decide_eq_false hnk]
      rcases findS (n := n) ht with ⟨h1, h2⟩ | ⟨i, x1, h1, h2, h3⟩
      · exact .inl ⟨by simp only [findA]; rw [hf]; simp only; rw [h1]; rfl, by simp [lkB, hnk, h2]⟩
      · refine .inr ⟨i + 1, x1, by simp only [findA]; rw [hf]; simp only; rw [h1]; rfl, by simp [lkB, hnk, h2], fun y => ?_⟩
        simp only [List.modify_succ_cons, setB, if_neg hnk]
        exact ⟨⟨rfl, rfl⟩, h3 y⟩
  | [], _ :: _, h => h.elim
  | _ :: _, [], h => h.elim

/-- A table in memory. -/
structure TRep (σ : St) (t mp : Nat) (T : Tbl) : Prop where
  head : σ.mem.get t = some (.cells 1 [.map mp])
  map : ∃ clock ents, σ.mem.get mp = some (.map clock ents) ∧ All2 EntL ents T ∧ (∀ e ∈ ents, e.1 < clock) ∧ (ents.map (·.1)).Nodup
  keys : (T.map (·.1)).Nodup
  ne : t ≠ mp
  lt : t < σ.next ∧ mp < σ.next

theorem TRep.frame {σ σ' : St} {t mp : Nat} {T : Tbl} (h : TRep σ t mp T) (hm : ∀ a, a = t ∨ a = mp → σ'.mem.get a = σ.mem.get a) (hn : σ.next ≤ σ'.next) : TRep σ' t mp T :=
  ⟨by rw [hm t (.inl rfl)]; exact h.head, by rw [hm mp (.inr rfl)]; exact h.map, h.keys, h.ne, by have := h.lt; omega⟩

theorem stamps_modify (f : Entry → Entry) (hf : ∀ e, (f e).1 = e.1) : ∀ (ents : List Entry) (i : Nat), (ents.modify i f).map (·.1) = ents.map (·.1)
  | [], 0 => rfl
  | [], i + 1 => rfl
  | e :: es, 0 => by simp [hf]
  | e :: es, i + 1 => by simp [stamps_modify f hf es i]
theorem stamps_lt {ents : List Entry} {c : Nat} : (∀ e ∈ ents, e.1 < c) ↔ ∀ s ∈ ents.map (·.1), s < c := by simp

theorem tnew_c (σ : St) (Q : AVal → St → Prop) (h : ∀ t mp σ', TRep σ' t mp [] → σ.next ≤ σ'.next → (∀ a, a < σ.next → σ'.mem.get a = σ.mem.get a) → σ.next ≤ t ∧ σ.next ≤ mp → Q (.ptr t 0) σ') : ACall Tryd.prog 7 [] σ Q := by
  refine ACall.of_compF hmx (fun a w => Tryd.call7 a w) Tryd.func7 cf7 (n := 0) (by decide) rfl ?_
  simp [ac7, rs7, lk_cons, storeL, fillL]
  refine h (σ.next + 1) σ.next _ ⟨by simp, ⟨0, [], ?_, trivial, by simp, by simp⟩, by simp, by simp, ⟨Nat.lt_succ_self _, Nat.lt_succ_of_lt (Nat.lt_succ_self _)⟩⟩ (by simp; omega) (fun a ha => ?_) ⟨by omega, by omega⟩
  · simp
  · simp [show ¬ a = σ.next by omega, show ¬ a = σ.next + 1 by omega]
end Go.Proofs.YtieieknhhfallaaDoor.AM

/- Tables: Begin, Done, Last. -/
namespace Go.Proofs.YtieieknhhfallaaDoor.AM
set_option maxRecDepth 100000
set_option linter.unusedVariables false
set_option linter.unusedSimpArgs false

theorem ba_list (a : ByteArray) : a = ⟨a.data.toList.toArray⟩ := by cases a; rfl
theorem strEq (a b : ByteArray) : abinS .eql a b = some (.bool (decide (a = b))) := by
  have h := str_eq a.data.toList b.data.toList
  rw [← ba_list, ← ba_list] at h
  rw [h]
  by_cases hab : a = b
  · subst hab; simp
  · have : ¬ a.data.toList = b.data.toList := fun e => hab (ByteArray.ext (Array.ext' e))
    simp [hab, this]
theorem ba_empty (n : ByteArray) : n = ⟨#[]⟩ ↔ n.size = 0 := by
  constructor
  · rintro rfl; rfl
  · intro h
    exact ByteArray.ext (Array.eq_empty_of_size_eq_zero h)

def Keep1 (mp : Nat) (σ σ' : St) : Prop := σ.next ≤ σ'.next ∧ ∀ a, a < σ.next → a ≠ mp → σ'.mem.get a = σ.mem.get a

def begC (T : Tbl) (n : ByteArray) (q : Nat) : Int :=
  if n.size = 0 ∨ 64 < n.size then 10 else if q = 0 then 2 else match lkB T n with
  | some x => if q ≤ x.2.1 then 40 else if q ≤ x.1 then 41 else 0
  | none => if 16 ≤ T.length then 14 else 0
def begT (T : Tbl) (n : ByteArray) (q : Nat) : Tbl := if begC T n q = 0 then setB T n (q, ((lkB T n).getD (0, 0, 0, 0)).2) else T

theorem begin_c {σ : St} {t mp : Nat} {T : Tbl} (h : TRep σ t mp T) (n : ByteArray) (hn : n.size ≤ 140737488355328) (q : Nat) (Q : AVal → St → Prop) (hQ : ∀ σ', TRep σ' t mp (begT T n q) → Keep1 mp σ σ' → Q (i64 (begC T n q)) σ') :
    ACall Tryd.prog 9 [.ptr t 0, .str n, u64 (q : Int)] σ Q := by
  refine ACall.of_compF hmx (fun a w => Tryd.call9 a w) Tryd.func9 cf9 (n := 3) (by decide) rfl ?_
  have hh := h.head
  have hlt := h.lt
  have hne := h.ne
  obtain ⟨clock, ents, hm, ha, hs, hd⟩ := h.map
  have hla := ha.len
  have z1 : ¬ t = σ.next := by omega
  have z2 : ¬ mp = σ.next := by omega
  have keep : ∀ b c : Blk, begT T n q = T → TRep ⟨(σ.mem.set σ.next b).set σ.next c, σ.next + 1⟩ t mp (begT T n q) ∧ Keep1 mp σ ⟨(σ.mem.set σ.next b).set σ.next c, σ.next + 1⟩ := fun b c hb => by
    rw [hb]
    exact ⟨h.frame (fun a ha => by simp [show ¬ a = σ.next by omega]) (by simp), ⟨by simp, fun a ha _ => by simp [show ¬ a = σ.next by omega]⟩⟩
  have b0 : begC T n q ≠ 0 → begT T n q = T := fun hc => by rw [begT, if_neg hc]
  have e0 := ba_empty n
  rcases findS (n := n) ha with ⟨f1, f2⟩ | ⟨i, x, f1, f2, f3⟩
  · by_cases he : n.size = 0
    · have he' := e0.2 he
      have hc : begC T n q = 10 := by rw [begC, if_pos (.inl he)]
      have hT := b0 (by rw [hc]; omega)
      rw [hc] at hQ
      simp [ac9, rs9, lk_cons, hh, hm, f1, keyIs, shapeOk, kShape, storeL, strEq, z1, z2, lnV, eq_true he']
      exact hQ _ (keep _ _ hT).1 (keep _ _ hT).2
    have he' : ¬ n = ⟨#[]⟩ := fun e => he (e0.1 e)
    by_cases h64 : 64 < n.size
    · have h64' : (64 : Int) < n.size := by omega
      have hc : begC T n q = 10 := by rw [begC, if_pos (.inr h64)]
      have hT := b0 (by rw [hc]; omega)
      rw [hc] at hQ
      simp [ac9, rs9, lk_cons, hh, hm, f1, keyIs, shapeOk, kShape, storeL, strEq, z1, z2, lnV, he', h64, h64']
      exact hQ _ (keep _ _ hT).1 (keep _ _ hT).2
    have h64' : ¬ (64 : Int) < n.size := by omega
    have hno : ¬ (n.size = 0 ∨ 64 < n.size) := by omega
    by_cases hq : q = 0
    · have hq' : (q : Int) = 0 := by omega
      have hc : begC T n q = 2 := by rw [begC, if_neg hno, if_pos hq]
      have hT := b0 (by rw [hc]; omega)
      rw [hc] at hQ
      simp [ac9, rs9, lk_cons, hh, hm, f1, keyIs, shapeOk, kShape, storeL, strEq, z1, z2, lnV, he', h64, h64', hq, hq']
      exact hQ _ (keep _ _ hT).1 (keep _ _ hT).2
    have hq' : ¬ (q : Int) = 0 := by omega
    by_cases hl : 16 ≤ T.length
    · have hl' : 16 ≤ ents.length := by omega
      have hl2 : (16 : Int) ≤ ents.length := by omega
      have hc : begC T n q = 14 := by rw [begC, if_neg hno, if_neg hq, f2]; simp [hl]
      have hT := b0 (by rw [hc]; omega)
      rw [hc] at hQ
      simp [ac9, rs9, lk_cons, hh, hm, f1, keyIs, shapeOk, kShape, storeL, strEq, z1, z2, lnV, he', h64, h64', hq, hq', hl', hl2]
      exact hQ _ (keep _ _ hT).1 (keep _ _ hT).2
    have hl' : ¬ 16 ≤ ents.length := by omega
    have hl2 : ¬ (16 : Int) ≤ ents.length := by omega
    have hc : begC T n q = 0 := by rw [begC, if_neg hno, if_neg hq, f2]; simp [hl]
    rw [hc] at hQ
    have hb : begT T n q = T ++ [(n, (q, 0, 0, 0))] := by rw [begT, if_pos hc, f2]; exact setB_new f2
    rw [hb] at hQ
    simp [ac9, rs9, lk_cons, hh, hm, f1, keyIs, shapeOk, kShape, storeL, strEq, z1, z2, lnV, he', h64, h64', hq, hq', hl', hl2]
    refine hQ _ ⟨by simp [z1, hne, hh], ⟨clock + 1, ents ++ [(clock, .str n, lnV n (q, 0, 0, 0))], by simp [lnV], All2.snoc ⟨rfl, rfl⟩ ha, ?_, ?_⟩, ?_, hne, by simp; omega⟩ ⟨by simp, fun a ha hx => by simp [show ¬ a = σ.next by omega, hx]⟩
    · intro e he
      rcases List.mem_append.1 he with he | he
      · have := hs e he; omega
      · simp at he; subst he; simp
    · rw [List.map_append, List.nodup_append]
      refine ⟨hd, by simp, ?_⟩
      rintro a ha b hb rfl
      simp at hb; subst hb
      have := stamps_lt.1 hs _ ha
      omega
    · rw [← setB_new (y := (q, 0, 0, 0)) f2]; exact setB_nodup h.keys
  · by_cases he : n.size = 0
    · have he' := e0.2 he
      have hc : begC T n q = 10 := by rw [begC, if_pos (.inl he)]
      have hT := b0 (by rw [hc]; omega)
      rw [hc] at hQ
      simp [ac9, rs9, lk_cons, hh, hm, f1, keyIs, shapeOk, kShape, storeL, strEq, z1, z2, lnV, eq_true he']
      exact hQ _ (keep _ _ hT).1 (keep _ _ hT).2
    have he' : ¬ n = ⟨#[]⟩ := fun e => he (e0.1 e)
    by_cases h64 : 64 < n.size
    · have h64' : (64 : Int) < n.size := by omega
      have hc : begC T n q = 10 := by rw [begC, if_pos (.inr h64)]
      have hT := b0 (by rw [hc]; omega)
      rw [hc] at hQ
      simp [ac9, rs9, lk_cons, hh, hm, f1, keyIs, shapeOk, kShape, storeL, strEq, z1, z2, lnV, he', h64, h64']
      exact hQ _ (keep _ _ hT).1 (keep _ _ hT).2
    have h64' : ¬ (64 : Int) < n.size := by omega
    have hno : ¬ (n.size = 0 ∨ 64 < n.size) := by omega
    by_cases hq : q = 0
    · have hq' : (q : Int) = 0 := by omega
      have hc : begC T n q = 2 := by rw [begC, if_neg hno, if_pos hq]
      have hT := b0 (by rw [hc]; omega)
      rw [hc] at hQ
      simp [ac9, rs9, lk_cons, hh, hm, f1, keyIs, shapeOk, kShape, storeL, strEq, z1, z2, lnV, he', h64, h64', hq, hq']
      exact hQ _ (keep _ _ hT).1 (keep _ _ hT).2
    have hq' : ¬ (q : Int) = 0 := by omega
    by_cases h1 : q ≤ x.2.1
    · have h1' : (q : Int) ≤ x.2.1 := by omega
      have hc : begC T n q = 40 := by rw [begC, if_neg hno, if_neg hq, f2]; simp [h1]
      have hT := b0 (by rw [hc]; omega)
      rw [hc] at hQ
      simp [ac9, rs9, lk_cons, hh, hm, f1, keyIs, shapeOk, kShape, storeL, strEq, z1, z2, lnV, he', h64, h64', hq, hq', h1, h1']
      exact hQ _ (keep _ _ hT).1 (keep _ _ hT).2
    have h1' : ¬ (q : Int) ≤ x.2.1 := by omega
    by_cases h2 : q ≤ x.1
    · have h2' : (q : Int) ≤ x.1 := by omega
      have hc : begC T n q = 41 := by rw [begC, if_neg hno, if_neg hq, f2]; simp [h1, h2]
      have hT := b0 (by rw [hc]; omega)
      rw [hc] at hQ
      simp [ac9, rs9, lk_cons, hh, hm, f1, keyIs, shapeOk, kShape, storeL, strEq, z1, z2, lnV, he', h64, h64', hq, hq', h1, h1', h2, h2']
      exact hQ _ (keep _ _ hT).1 (keep _ _ hT).2
    have h2' : ¬ (q : Int) ≤ x.1 := by omega
    have hc : begC T n q = 0 := by rw [begC, if_neg hno, if_neg hq, f2]; simp [h1, h2]
    rw [hc] at hQ
    have hb : begT T n q = setB T n (q, x.2) := by rw [begT, if_pos hc, f2]; rfl
    rw [hb] at hQ
    simp [ac9, rs9, lk_cons, hh, hm, f1, keyIs, shapeOk, kShape, storeL, strEq, z1, z2, lnV, he', h64, h64', hq, hq', h1, h1', h2, h2']
    refine hQ _ ⟨by simp [z1, hne, hh], ⟨clock, ents.modify i fun e => (e.1, .str n, lnV n (q, x.2)), by simp [lnV], f3 _, ?_, ?_⟩, setB_nodup h.keys, hne, by simp; omega⟩ ⟨by simp, fun a ha hx => by simp [show ¬ a = σ.next by omega, hx]⟩
    · rw [stamps_lt, stamps_modify (fun e => (e.1, AVal.str n, lnV n (q, x.2))) (fun e => rfl), ← stamps_lt]; exact hs
    · rw [stamps_modify (fun e => (e.1, AVal.str n, lnV n (q, x.2))) (fun e => rfl)]; exact hd
end Go.Proofs.YtieieknhhfallaaDoor.AM

/- Tables: Forget. -/
namespace Go.Proofs.YtieieknhhfallaaDoor.AM
set_option maxRecDepth 100000
set_option linter.unusedVariables false
set_option linter.unusedSimpArgs false

abbrev ZL := Nat × ByteArray × Ln
def toE (z : ZL) : Entry := (z.1, .str z.2.1, lnV z.2.1 z.2.2)
def fz (z : ZL) : ZL := (z.1, z.2.1, (z.2.2.2.1, z.2.2.2))
def curZ (S : List Nat) : List ZL → List ZL
  | [] => []
  | z :: Z => if z.1 ∈ S then (if z.2.2.2.1 = 0 then curZ S Z else fz z :: curZ S Z) else z :: curZ S Z
def fgt (T : Tbl) : Tbl := (T.filter fun p => decide (p.2.2.1 ≠ 0)).map fun p => (p.1, (p.2.2.1, p.2.2))

theorem all2Z : ∀ {ents : List Entry} {T : Tbl}, All2 EntL ents T → ∃ Z : List ZL, ents = Z.map toE ∧ T = Z.map (·.2)
  | [], [], _ => ⟨[], rfl, rfl⟩
  | (s, y, d) :: ents, (n, x) :: T, h => by
    obtain ⟨⟨hy, hd⟩, ht⟩ := h
    simp only at hy hd
    subst hy hd
    obtain ⟨Z, h1, h2⟩ := all2Z ht
    exact ⟨(s, n, x) :: Z, by simp [h1, toE], by simp [h2]⟩
  | [], _ :: _, h => h.elim
  | _ :: _, [], h => h.elim
theorem zAll2 : ∀ Z : List ZL, All2 EntL (Z.map toE) (Z.map (·.2))
  | [] => trivial
  | z :: Z => ⟨⟨rfl, rfl⟩, zAll2 Z⟩

theorem curZ_mem {S : List Nat} {z : ZL} : ∀ {Z : List ZL}, z ∈ Z → z.1 ∉ S → z ∈ curZ S Z
  | z0 :: Z, h, hs => by
    simp only [curZ]
    rcases List.mem_cons.1 h with rfl | h
    · rw [if_neg hs]; simp
    · have ih := curZ_mem h hs
      split
      · split
        · exact ih
        · simp [ih]
      · simp [ih]
theorem curZ_of {S : List Nat} {z : ZL} : ∀ {Z : List ZL}, z ∈ curZ S Z → ∃ z0 ∈ Z, z0.1 = z.1 ∧ (z.1 ∉ S → z = z0)
  | z0 :: Z, h => by
    simp only [curZ] at h
    split at h
    · rename_i hs
      split at h
      · obtain ⟨y, hy, h2⟩ := curZ_of h
        exact ⟨y, by simp [hy], h2⟩
      · rcases List.mem_cons.1 h with rfl | h
        · exact ⟨z0, by simp, rfl, fun hn => absurd hs hn⟩
        · obtain ⟨y, hy, h2⟩ := curZ_of h
          exact ⟨y, by simp [hy], h2⟩
    · rcases List.mem_cons.1 h with rfl | h
      · exact ⟨z, by simp, rfl, fun _ => rfl⟩
      · obtain ⟨y, hy, h2⟩ := curZ_of h
        exact ⟨y, by simp [hy], h2⟩
theorem curZ_new {S : List Nat} {s : Nat} : ∀ {Z : List ZL}, s ∉ Z.map (·.1) → curZ (S ++ [s]) Z = curZ S Z
  | [], _ => rfl
  | z :: Z, h => by
    simp only [List.map_cons, List.mem_cons, not_or] at h
    have ih := curZ_new (S := S) h.2
    have e : z.1 ∈ S ++ [s] ↔ z.1 ∈ S := by
      simp only [List.mem_append, List.mem_singleton]
      exact ⟨fun h' => h'.elim id fun e => absurd e.symm h.1, .inl⟩
    simp only [curZ, e, ih]
theorem curZ_nil : ∀ Z : List ZL, curZ [] Z = Z
  | [] => rfl
  | z :: Z => by simp [curZ, curZ_nil Z]
theorem curZ_all {S : List Nat} : ∀ {Z : List ZL}, (∀ z ∈ Z, z.1 ∈ S) → (curZ S Z).map (·.2) = fgt (Z.map (·.2))
  | [], _ => rfl
  | z :: Z, h => by
    have ih := curZ_all (S := S) (Z := Z) fun y hy => h y (List.mem_cons_of_mem _ hy)
    have hz := h z (by simp)
    simp only [curZ, if_pos hz, fgt, List.map_cons, List.filter_cons] at ih ⊢
    by_cases h0 : z.2.2.2.1 = 0
    · simp [h0, ih]
    · simp [h0, ih, fz]
theorem curZ_keys {S : List Nat} : ∀ {Z : List ZL}, (Z.map fun z => z.2.1).Nodup → ((curZ S Z).map fun z => z.2.1).Nodup ∧ ∀ n ∈ (curZ S Z).map fun z => z.2.1, n ∈ Z.map fun z => z.2.1
  | [], _ => ⟨by simp [curZ], by simp [curZ]⟩
  | z :: Z, h => by
    simp only [List.map_cons, List.nodup_cons] at h
    have ih := curZ_keys (S := S) h.2
    simp only [curZ]
    split
    · split
      · exact ⟨ih.1, fun n hn => by simp only [List.map_cons, List.mem_cons]; exact .inr (ih.2 n hn)⟩
      · refine ⟨?_, fun n hn => ?_⟩
        · simp only [List.map_cons, List.nodup_cons]
          exact ⟨fun hx => h.1 (ih.2 _ hx), ih.1⟩
        · simp only [List.map_cons, List.mem_cons] at hn ⊢
          exact hn.imp id (ih.2 n)
    · refine ⟨?_, fun n hn => ?_⟩
      · simp only [List.map_cons, List.nodup_cons]
        exact ⟨fun hx => h.1 (ih.2 _ hx), ih.1⟩
      · simp only [List.map_cons, List.mem_cons] at hn ⊢
        exact hn.imp id (ih.2 n)
theorem curZ_stamps {S : List Nat} : ∀ {Z : List ZL}, (Z.map (·.1)).Nodup → ((curZ S Z).map (·.1)).Nodup ∧ ∀ n ∈ (curZ S Z).map (·.1), n ∈ Z.map (·.1)
  | [], _ => ⟨by simp [curZ], by simp [curZ]⟩
  | z :: Z, h => by
    simp only [List.map_cons, List.nodup_cons] at h
    have ih := curZ_stamps (S := S) h.2
    simp only [curZ]
    split
    · split
      · exact ⟨ih.1, fun n hn => by simp only [List.map_cons, List.mem_cons]; exact .inr (ih.2 n hn)⟩
      · refine ⟨?_, fun n hn => ?_⟩
        · simp only [List.map_cons, List.nodup_cons]
          exact ⟨fun hx => h.1 (ih.2 _ hx), ih.1⟩
        · simp only [List.map_cons, List.mem_cons] at hn ⊢
          exact hn.imp id (ih.2 n)
    · refine ⟨?_, fun n hn => ?_⟩
      · simp only [List.map_cons, List.nodup_cons]
        exact ⟨fun hx => h.1 (ih.2 _ hx), ih.1⟩
      · simp only [List.map_cons, List.mem_cons] at hn ⊢
        exact hn.imp id (ih.2 n)

def left (S : List Nat) (Z : List ZL) : Nat := Z.countP fun z => decide (z.1 ∉ S)
theorem left_le {S : List Nat} {s : Nat} : ∀ Z : List ZL, left (S ++ [s]) Z ≤ left S Z := fun Z => List.countP_mono_left fun z _ h => by
  simp only [decide_eq_true_eq, List.mem_append, not_or] at h ⊢; exact h.1
theorem left_lt {S : List Nat} {z : ZL} : ∀ {Z : List ZL}, z ∈ Z → z.1 ∉ S → left (S ++ [z.1]) Z < left S Z
  | z0 :: Z, h, hs => by
    simp only [left, List.countP_cons]
    have hle := left_le (S := S) (s := z.1) Z
    simp only [left] at hle
    rcases List.mem_cons.1 h with rfl | h
    · simp [hs]
      exact Nat.lt_succ_of_le (by simpa using hle)
    · have ih := left_lt h hs
      simp only [left] at ih
      by_cases h0 : z0.1 ∈ S
      · simp [h0]; simpa using ih
      · by_cases h1 : z0.1 = z.1
        · simp [h0, h1] at ih ⊢; omega
        · simp [h0, h1]; simpa using ih

theorem fgt_step {S : List Nat} {z : ZL} (y : Ln) : ∀ {Z : List ZL}, (Z.map fun z => z.2.1).Nodup → (Z.map (·.1)).Nodup → z ∈ Z → z.1 ∉ S →
    ∃ i, findA (.str z.2.1) ((curZ S Z).map toE) = some (some (i, lnV z.2.1 z.2.2)) ∧
      findA (.str z.2.1) (((curZ S Z).map toE).modify i fun e => (e.1, .str z.2.1, lnV z.2.1 y)) = some (some (i, lnV z.2.1 y)) ∧
      (z.2.2.2.1 ≠ 0 → y = (z.2.2.2.1, z.2.2.2) → (((curZ S Z).map toE).modify i fun e => (e.1, .str z.2.1, lnV z.2.1 y)) = (curZ (S ++ [z.1]) Z).map toE) ∧
      (z.2.2.2.1 = 0 → (((curZ S Z).map toE).modify i fun e => (e.1, .str z.2.1, lnV z.2.1 y)).eraseIdx i = (curZ (S ++ [z.1]) Z).map toE)
  | z0 :: Z, hk, hs, h, hn => by
    simp only [List.map_cons, List.nodup_cons] at hk hs
    have hin : z.1 ∈ S ++ [z.1] := by simp
    rcases List.mem_cons.1 h with rfl | h
    · have e := curZ_new (S := S) hs.1
      refine ⟨0, ?_, ?_, ?_, ?_⟩
      · simp only [curZ, if_neg hn, List.map_cons, toE, findA, keyS, decide_true]
      · simp only [curZ, if_neg hn, List.map_cons, toE, List.modify_zero_cons, findA, keyS, decide_true]
      · intro h0 hy
        simp only [curZ, if_neg hn, if_pos hin, if_neg h0, List.map_cons, List.modify_zero_cons, e, fz, toE, hy]
      · intro h0
        simp only [curZ, if_neg hn, if_pos hin, if_pos h0, List.map_cons, List.modify_zero_cons, List.eraseIdx_cons_zero, e]
    · have hk0 : z.2.1 ≠ z0.2.1 := fun e => hk.1 (by rw [← e]; exact List.mem_map.2 ⟨z, h, rfl⟩)
      have hs0 : z0.1 ≠ z.1 := fun e => hs.1 (by rw [e]; exact List.mem_map.2 ⟨z, h, rfl⟩)
      have hm : z0.1 ∈ S ++ [z.1] ↔ z0.1 ∈ S := by simp [hs0]
      obtain ⟨i, h1, h2, h3, h4⟩ := fgt_step y hk.2 hs.2 h hn
      simp only [curZ, hm]
      split
      · split
        · exact ⟨i, h1, h2, h3, h4⟩
        · refine ⟨i + 1, ?_, ?_, ?_, ?_⟩
          · simp only [List.map_cons, toE, fz, findA, keyS, decide_eq_false hk0] at h1 ⊢; rw [h1]; rfl
          · simp only [List.map_cons, toE, fz, List.modify_succ_cons, findA, keyS, decide_eq_false hk0] at h2 ⊢; rw [h2]; rfl
          · intro a b; simp only [List.map_cons, List.modify_succ_cons]; rw [h3 a b]
          · intro a; simp only [List.map_cons, List.modify_succ_cons, List.eraseIdx_cons_succ]; rw [h4 a]
      · refine ⟨i + 1, ?_, ?_, ?_, ?_⟩
        · simp only [List.map_cons, toE, fz, findA, keyS, decide_eq_false hk0] at h1 ⊢; rw [h1]; rfl
        · simp only [List.map_cons, toE, fz, List.modify_succ_cons, findA, keyS, decide_eq_false hk0] at h2 ⊢; rw [h2]; rfl
        · intro a b; simp only [List.map_cons, List.modify_succ_cons]; rw [h3 a b]
        · intro a; simp only [List.map_cons, List.modify_succ_cons, List.eraseIdx_cons_succ]; rw [h4 a]

theorem stamp_findZ {z : ZL} : ∀ {Z : List ZL}, (Z.map (·.1)).Nodup → z ∈ Z → (Z.map toE).find? (fun e => e.1 == z.1) = some (toE z)
  | z0 :: Z, hs, h => by
    simp only [List.map_cons, List.nodup_cons] at hs
    rcases List.mem_cons.1 h with rfl | h
    · simp [toE]
    · have hs0 : z0.1 ≠ z.1 := fun e => hs.1 (by rw [e]; exact List.mem_map.2 ⟨z, h, rfl⟩)
      have ih := stamp_findZ hs.2 h
      simp only [List.map_cons, List.find?_cons, toE] at ih ⊢
      have hb : (z0.1 == z.1) = false := by simpa using hs0
      rw [hb]; exact ih

/-- What the next step may be. -/
theorem next_is {σ : St} {it mp clock : Nat} {S : List Nat} {Z : List ZL} (hi : σ.mem.get it = some (.iter (some mp) clock S clock)) (hm : σ.mem.get mp = some (.map clock ((curZ S Z).map toE))) (hs : ∀ z ∈ Z, z.1 < clock) :
    ∃ L, nextC σ (.ptr it 0) = some L ∧ ∀ p ∈ L, (p = (.tup [.bool false], σ) ∧ ∀ z ∈ Z, z.1 ∈ S) ∨ ∃ z ∈ Z, z.1 ∉ S ∧ p = (.tup [.bool true, .str z.2.1, lnV z.2.1 z.2.2], ⟨σ.mem.set it (.iter (some mp) clock (S ++ [z.1]) clock), σ.next⟩) := by
  have hlt : ∀ e ∈ (curZ S Z).map toE, e.1 < clock := by
    intro e he
    obtain ⟨z, hz, rfl⟩ := List.mem_map.1 he
    obtain ⟨z0, h0, e0, _⟩ := curZ_of hz
    have := hs z0 h0
    show z.1 < clock
    omega
  have hno : (!S.isEmpty && !((curZ S Z).map toE).isEmpty && ((curZ S Z).map toE).all fun e => decide (clock ≤ e.1)) = false := by
    cases hc : (curZ S Z).map toE with
    | nil => simp
    | cons e es =>
      have := hlt e (by rw [hc]; simp)
      have : decide (clock ≤ e.1) = false := by simp; omega
      simp [this]
  simp only [nextC, hi, hm, hno]
  refine ⟨_, rfl, fun p hp => ?_⟩
  rcases List.mem_append.1 hp with hp | hp
  · split at hp
    · rename_i hem
      simp at hp
      refine .inl ⟨hp, fun z hz => ?_⟩
      refine Classical.byContradiction fun hzs => ?_
      have h1 := curZ_mem hz hzs
      have : toE z ∈ (((curZ S Z).map toE).filter fun e => !S.contains e.1).filter fun e => decide (e.1 < clock) := by
        rw [List.mem_filter, List.mem_filter]
        refine ⟨⟨List.mem_map.2 ⟨z, h1, rfl⟩, ?_⟩, ?_⟩
        · show (!S.contains z.1) = true
          simpa using hzs
        · show decide (z.1 < clock) = true
          exact decide_eq_true (hs z hz)
      rw [List.isEmpty_iff] at hem
      rw [hem] at this
      cases this
    · cases hp
  · obtain ⟨e, he, rfl⟩ := List.mem_map.1 hp
    have he2 : e ∈ (curZ S Z).map toE ∧ e.1 ∉ S := by
      rcases List.mem_append.1 he with he | he <;>
      · rw [List.mem_filter, List.mem_filter] at he
        exact ⟨he.1.1, by simpa using he.1.2⟩
    obtain ⟨z, hz, rfl⟩ := List.mem_map.1 he2.1
    obtain ⟨z0, h0, _, h1⟩ := curZ_of hz
    have := h1 he2.2
    subst this
    exact .inr ⟨z, h0, he2.2, rfl⟩
end Go.Proofs.YtieieknhhfallaaDoor.AM

/- Tables: Forget, Done, Last, walked. -/
namespace Go.Proofs.YtieieknhhfallaaDoor.AM
set_option maxRecDepth 100000
set_option linter.unusedVariables false
set_option linter.unusedSimpArgs false

def FgtJ (t mp it clock : Nat) (Z : List ZL) (σ0 : St) (mm : Nat) (r : Regs) (σ' : St) : Prop := ∃ S : List Nat, mm = left S Z ∧ σ'.mem.get it = some (.iter (some mp) clock S clock) ∧ σ'.mem.get mp = some (.map clock ((curZ S Z).map toE)) ∧ σ'.mem.get t = some (.cells 1 [.map mp]) ∧ it < σ'.next ∧ Keep1 mp σ0 σ' ∧ r = [(0, .ptr t 0), (10, .ptr it 0)]

theorem forget_c {σ : St} {t mp : Nat} {T : Tbl} (h : TRep σ t mp T) (Q : AVal → St → Prop) (hQ : ∀ σ', TRep σ' t mp (fgt T) → Keep1 mp σ σ' → Q (.tup []) σ') :
    ACall Tryd.prog 16 [.ptr t 0] σ Q := by
  refine ACall.of_compF hmx (fun a w => Tryd.call16 a w) Tryd.func16 cf16 (n := 1) (by decide) rfl ?_
  have hh := h.head
  have hlt := h.lt
  have hne := h.ne
  have hkeys := h.keys
  obtain ⟨clock, ents, hm, ha, hs, hd⟩ := h.map
  obtain ⟨Z, rfl, rfl⟩ := all2Z ha
  have hs' : ∀ z ∈ Z, z.1 < clock := fun z hz => hs (toE z) (List.mem_map.2 ⟨z, hz, rfl⟩)
  have hd' : (Z.map (·.1)).Nodup := by simpa [List.map_map, Function.comp_def, toE] using hd
  have hk' : (Z.map fun z => z.2.1).Nodup := by simpa [List.map_map, Function.comp_def] using hkeys
  have z1 : ¬ t = σ.next := by omega
  have z2 : ¬ mp = σ.next := by omega
  simp [ac16, rs16, lk_cons, hh, hm]
  refine wp_loop (FgtJ t mp σ.next clock Z σ) (left [] Z) ?_ ?_
  · exact ⟨[], rfl, by simp, by simp [z2, hm, curZ_nil], by simp [z1, hh], by simp, ⟨by simp, fun a ha _ => by simp [show ¬ a = σ.next by omega]⟩, rfl⟩
  · rintro mm r σ' ⟨S, rfl, hi, hm', ht', hil, hk, rfl⟩
    obtain ⟨L, hL, hp⟩ := next_is hi hm' hs'
    simp [lk_cons, hL]
    intro v σ'' hv
    rcases hp _ hv with ⟨e, hall⟩ | ⟨z, hz, hzS, e⟩
    · cases e
      simp [lk_cons]
      refine hQ _ ⟨ht', ⟨clock, _, hm', ?_, ?_, ?_⟩, ?_, hne, by have := hk.1; omega⟩ hk
      · rw [← curZ_all hall]; exact zAll2 _
      · intro e he
        obtain ⟨y, hy, rfl⟩ := List.mem_map.1 he
        obtain ⟨y0, h0, e0, _⟩ := curZ_of hy
        have := hs' y0 h0
        show y.1 < clock
        omega
      · have := (curZ_stamps (S := S) hd').1
        simpa [List.map_map, Function.comp_def, toE] using this
      · rw [← curZ_all hall]
        have := (curZ_keys (S := S) hk').1
        simpa [List.map_map, Function.comp_def] using this
    · cases e
      have hfind : ((curZ S Z).map toE).find? (fun e => e.1 == z.1) = some (toE z) := stamp_findZ (curZ_stamps hd').1 (curZ_mem hz hzS)
      obtain ⟨i, f1, f2, f3, f4⟩ := fgt_step (S := S) (z.2.2.2.1, z.2.2.2) hk' hd' hz hzS
      have q1 : ¬ mp = σ.next := z2
      have q2 : ¬ mp = σ'.next := by have := hk.1; omega
      have q3 : ¬ t = σ'.next := by have := hk.1; omega
      have kn := hk.1
      have w1 : ¬ σ.next = σ'.next := by omega
      have w2 : ¬ σ.next = mp := by omega
      have w3 : ¬ t = mp := hne
      have w4 : ¬ σ'.next = mp := by omega
      have w5 : ¬ mp = σ'.next := by omega
      simp only [lnV] at f1 f2 f3 f4
      have done : ∀ (b0 b1 b2 b3 : Blk) (E : List Entry), E = (curZ (S ++ [z.1]) Z).map toE → FgtJ t mp σ.next clock Z σ (left (S ++ [z.1]) Z) [(0, .ptr t 0), (10, .ptr σ.next 0)] ⟨((((((σ'.mem.set σ.next (.iter (some mp) clock (S ++ [z.1]) clock)).set σ'.next b0).set σ'.next b1).set σ'.next b2).set mp b3).set mp (.map clock E)), σ'.next + 1⟩ := by
        intro b0 b1 b2 b3 E hE
        refine ⟨S ++ [z.1], rfl, by simp [w1, w2], by simp [hE], by simp [w3, q3, z1, ht'], by simp; omega, ⟨by simp; omega, fun a ha hx => by have := hk.2 a ha hx; simp [hx, show ¬ a = σ'.next by omega, show ¬ a = σ.next by omega, this]⟩, rfl⟩
      have done2 : ∀ (b0 b1 b2 : Blk) (E : List Entry), E = (curZ (S ++ [z.1]) Z).map toE → FgtJ t mp σ.next clock Z σ (left (S ++ [z.1]) Z) [(0, .ptr t 0), (10, .ptr σ.next 0)] ⟨(((((σ'.mem.set σ.next (.iter (some mp) clock (S ++ [z.1]) clock)).set σ'.next b0).set σ'.next b1).set σ'.next b2).set mp (.map clock E)), σ'.next + 1⟩ := by
        intro b0 b1 b2 E hE
        refine ⟨S ++ [z.1], rfl, by simp [w1, w2], by simp [hE], by simp [w3, q3, z1, ht'], by simp; omega, ⟨by simp; omega, fun a ha hx => by have := hk.2 a ha hx; simp [hx, show ¬ a = σ'.next by omega, show ¬ a = σ.next by omega, this]⟩, rfl⟩
      by_cases h0 : z.2.2.2.1 = 0
      · have h0' : (z.2.2.2.1 : Int) = 0 := by omega
        have cz : ((0 : Nat) : Int) = 0 := rfl
        have f4 := f4 h0
        simp only [h0, cz] at f2 f4
        simp [lk_cons, hm', hfind, toE, lnV, storeL, ht', z1, z2, q1, q2, q3, f1, f2, keyIs, shapeOk, kShape, w1, w2, w3, w4, h0, h0']
        exact ⟨_, left_lt hz hzS, done _ _ _ _ _ f4⟩
      · have h0' : ¬ (z.2.2.2.1 : Int) = 0 := by omega
        simp [lk_cons, hm', hfind, toE, lnV, storeL, ht', z1, z2, q1, q2, q3, f1, f2, keyIs, shapeOk, kShape, w1, w2, w3, w4, h0, h0']
        exact ⟨_, left_lt hz hzS, done2 _ _ _ _ (f3 h0 trivial)⟩
end Go.Proofs.YtieieknhhfallaaDoor.AM

/- Tables: Done, Last; a nil one. -/
namespace Go.Proofs.YtieieknhhfallaaDoor.AM
set_option maxRecDepth 100000
set_option linter.unusedVariables false
set_option linter.unusedSimpArgs false

def doneC (T : Tbl) (n : ByteArray) (q : Nat) : Int := match lkB T n with
  | none => 11
  | some x => if x.1 < q then 11 else if q ≤ x.2.1 then 40 else 0
def doneT (T : Tbl) (n : ByteArray) (q : Nat) (at' : Nat × Nat) : Tbl := if doneC T n q = 0 then setB T n (((lkB T n).getD (0, 0, 0, 0)).1, q, at') else T

theorem done_c {σ : St} {t mp : Nat} {T : Tbl} (h : TRep σ t mp T) (n : ByteArray) (q : Nat) (at' : Nat × Nat) (Q : AVal → St → Prop) (hQ : ∀ σ', TRep σ' t mp (doneT T n q at') → Keep1 mp σ σ' → Q (i64 (doneC T n q)) σ') :
    ACall Tryd.prog 10 [.ptr t 0, .str n, u64 (q : Int), .agg [u64 (at'.1 : Int), u64 (at'.2 : Int)]] σ Q := by
  refine ACall.of_compF hmx (fun a w => Tryd.call10 a w) Tryd.func10 cf10 (n := 4) (by decide) rfl ?_
  have hh := h.head
  have hlt := h.lt
  have hne := h.ne
  obtain ⟨clock, ents, hm, ha, hs, hd⟩ := h.map
  have z1 : ¬ t = σ.next := by omega
  have z2 : ¬ mp = σ.next := by omega
  have z3 : ¬ t = σ.next + 1 := by omega
  have z4 : ¬ mp = σ.next + 1 := by omega
  have z5 : ¬ σ.next = σ.next + 1 := by omega
  have keep : ∀ b0 b c : Blk, doneT T n q at' = T → TRep ⟨((σ.mem.set σ.next b0).set (σ.next + 1) b).set (σ.next + 1) c, σ.next + 1 + 1⟩ t mp (doneT T n q at') ∧ Keep1 mp σ ⟨((σ.mem.set σ.next b0).set (σ.next + 1) b).set (σ.next + 1) c, σ.next + 1 + 1⟩ := fun b0 b c hb => by
    rw [hb]
    exact ⟨h.frame (fun a ha => by simp [show ¬ a = σ.next by omega, show ¬ a = σ.next + 1 by omega]) (by simp; omega), ⟨by simp; omega, fun a ha _ => by simp [show ¬ a = σ.next by omega, show ¬ a = σ.next + 1 by omega]⟩⟩
  have b0 : doneC T n q ≠ 0 → doneT T n q at' = T := fun hc => by rw [doneT, if_neg hc]
  rcases findS (n := n) ha with ⟨f1, f2⟩ | ⟨i, x, f1, f2, f3⟩
  · have hc : doneC T n q = 11 := by rw [doneC, f2]
    have hT := b0 (by rw [hc]; omega)
    rw [hc] at hQ
    simp [ac10, rs10, lk_cons, hh, hm, f1, keyIs, shapeOk, kShape, storeL, strEq, z1, z2, z3, z4, lnV]
    exact hQ _ (keep _ _ _ hT).1 (keep _ _ _ hT).2
  · by_cases h1 : x.1 < q
    · have h1' : (x.1 : Int) < q := by omega
      have hc : doneC T n q = 11 := by rw [doneC, f2]; simp [h1]
      have hT := b0 (by rw [hc]; omega)
      rw [hc] at hQ
      simp [ac10, rs10, lk_cons, hh, hm, f1, keyIs, shapeOk, kShape, storeL, strEq, z1, z2, z3, z4, lnV, h1, h1']
      exact hQ _ (keep _ _ _ hT).1 (keep _ _ _ hT).2
    have h1' : ¬ (x.1 : Int) < q := by omega
    by_cases h2 : q ≤ x.2.1
    · have h2' : (q : Int) ≤ x.2.1 := by omega
      have hc : doneC T n q = 40 := by rw [doneC, f2]; simp [h1, h2]
      have hT := b0 (by rw [hc]; omega)
      rw [hc] at hQ
      simp [ac10, rs10, lk_cons, hh, hm, f1, keyIs, shapeOk, kShape, storeL, strEq, z1, z2, z3, z4, lnV, h1, h1', h2, h2']
      exact hQ _ (keep _ _ _ hT).1 (keep _ _ _ hT).2
    have h2' : ¬ (q : Int) ≤ x.2.1 := by omega
    have hc : doneC T n q = 0 := by rw [doneC, f2]; simp [h1, h2]
    rw [hc] at hQ
    have hb : doneT T n q at' = setB T n (x.1, q, at') := by rw [doneT, if_pos hc, f2]; rfl
    rw [hb] at hQ
    simp [ac10, rs10, lk_cons, hh, hm, f1, keyIs, shapeOk, kShape, storeL, strEq, z1, z2, z3, z4, lnV, z5, h1, h1', h2, h2']
    refine hQ _ ⟨by simp [z1, z3, hne, hh], ⟨clock, ents.modify i fun e => (e.1, .str n, lnV n (x.1, q, at')), by simp [lnV], f3 _, ?_, ?_⟩, setB_nodup h.keys, hne, by simp; omega⟩ ⟨by simp; omega, fun a ha hx => by simp [show ¬ a = σ.next by omega, show ¬ a = σ.next + 1 by omega, hx]⟩
    · rw [stamps_lt, stamps_modify (fun e => (e.1, AVal.str n, lnV n (x.1, q, at'))) (fun e => rfl), ← stamps_lt]; exact hs
    · rw [stamps_modify (fun e => (e.1, AVal.str n, lnV n (x.1, q, at'))) (fun e => rfl)]; exact hd

theorem begin_nil (n q : AVal) (σ : St) (Q : AVal → St → Prop) (h : Q (i64 1) σ) : ACall Tryd.prog 9 [.nilp, n, q] σ Q := by
  refine ACall.of_compF hmx (fun a w => Tryd.call9 a w) Tryd.func9 cf9 (n := 3) (by decide) rfl ?_
  simp [ac9, rs9, lk_cons, h]
theorem done_nil (n q : AVal) (a b : Int) (σ : St) (Q : AVal → St → Prop) (h : ∀ σ', (∀ x, x < σ.next → σ'.mem.get x = σ.mem.get x) → σ.next ≤ σ'.next → Q (i64 1) σ') : ACall Tryd.prog 10 [.nilp, n, q, .agg [u64 a, u64 b]] σ Q := by
  refine ACall.of_compF hmx (fun a w => Tryd.call10 a w) Tryd.func10 cf10 (n := 4) (by decide) rfl ?_
  simp [ac10, rs10, lk_cons]
  exact h _ (fun x hx => by simp [show ¬ x = σ.next by omega]) (by simp)
theorem forget_nil (σ : St) (Q : AVal → St → Prop) (h : Q (.tup []) σ) : ACall Tryd.prog 16 [.nilp] σ Q := by
  refine ACall.of_compF hmx (fun a w => Tryd.call16 a w) Tryd.func16 cf16 (n := 1) (by decide) rfl ?_
  simp [ac16, rs16, lk_cons, h]
theorem last_nil (n : AVal) (σ : St) (Q : AVal → St → Prop) (h : ∀ σ', (∀ x, x < σ.next → σ'.mem.get x = σ.mem.get x) → σ.next ≤ σ'.next → Q (.tup [lnV ⟨#[]⟩ (0, 0, 0, 0), .bool false]) σ') : ACall Tryd.prog 20 [.nilp, n] σ Q := by
  refine ACall.of_compF hmx (fun a w => Tryd.call20 a w) Tryd.func20 cf20 (n := 2) (by decide) rfl ?_
  simp [ac20, rs20, lk_cons, storeL, fillL]
  simp [lnV] at h
  refine h _ ?_ ?_
  · intro x hx; simp [show ¬ x = σ.next by omega]
  · simp
theorem all_nil (σ : St) (Q : AVal → St → Prop) (h : Q .nilsl σ) : ACall Tryd.prog 21 [.nilp] σ Q := by
  refine ACall.of_compF hmx (fun a w => Tryd.call21 a w) Tryd.func21 cf21 (n := 1) (by decide) rfl ?_
  simp [ac21, rs21, lk_cons, h]
end Go.Proofs.YtieieknhhfallaaDoor.AM

/- What only comes to what was there. -/
namespace Go.Proofs.YtieieknhhfallaaDoor.AM
def Grow (σ σ' : St) : Prop := σ.next ≤ σ'.next ∧ ∀ a, a < σ.next → σ'.mem.get a = σ.mem.get a
theorem Grow.refl (σ : St) : Grow σ σ := ⟨Nat.le_refl _, fun _ _ => rfl⟩
theorem Grow.trans {a b c : St} (h : Grow a b) (k : Grow b c) : Grow a c := ⟨Nat.le_trans h.1 k.1, fun x hx => by rw [k.2 x (by have := h.1; omega), h.2 x hx]⟩
theorem Grow.set {σ σ' : St} (h : Grow σ σ') (b : Blk) : Grow σ ⟨σ'.mem.set σ'.next b, σ'.next + 1⟩ := ⟨by have := h.1; simp; omega, fun a ha => by have := h.1; simp [show ¬ a = σ'.next by omega]; exact h.2 a ha⟩
end Go.Proofs.YtieieknhhfallaaDoor.AM

/- pack.Writer: numbers, bytes, texts. -/
namespace Go.Proofs.YtieieknhhfallaaDoor.AM
set_option maxRecDepth 100000
set_option linter.unusedVariables false
set_option linter.unusedSimpArgs false

theorem beN_drop (n : Nat) : ∀ (d s : Nat), (beN (d + s) n).drop d = beN s n
  | 0, s => by simp
  | d + 1, s => by
    rw [show d + 1 + s = (d + s) + 1 by omega]
    simp only [beN, List.drop_succ_cons]
    exact beN_drop n d s
/-- A writer in memory: w its block, b the block of what was put. -/
abbrev WB (σ : St) (w : Nat) (l : List UInt8) (b : Option Nat) : Prop := HB rwB σ w l b
theorem shr8 {n i q : Nat} (hi : i < 8) (hq : n / 256 ^ i = q) (ρ : St) : evalV ρ (.bin .shr (.int .u64 (n : Int)) (.int .i64 (8 * (i : Int)))) = some (.int .u64 (q : Int), ρ) := by
  rw [← hq]
  have h0 : (8 : Int) * (i : Int) = ((8 * i : Nat) : Int) := by omega
  rw [h0]
  have h1 : ¬ (((8 * i : Nat) : Int) < 0) := by omega
  have h2 : min ((8 * i : Nat) : Int).toNat (IntKind.bits .u64) = 8 * i := by
    have : IntKind.bits .u64 = 64 := rfl
    rw [this, Int.toNat_natCast]; omega
  have h3 : (2 : Nat) ^ (8 * i) = 256 ^ i := by rw [Nat.pow_mul]
  simp only [evalV, abin, ashift, if_neg h1, h2]
  rw [Int.fdiv_eq_ediv_of_nonneg _ (Int.pow_nonneg (by omega))]
  simp only [Option.map_some]
  congr 3
  have h4 : ((2 : Int) ^ (8 * i)) = ((256 ^ i : Nat) : Int) := by rw [← h3]; simp
  rw [h4]
  exact (Int.natCast_ediv _ _).symm
theorem byte_wrap (x : Nat) : IntKind.u8.wrap (x : Int) = ((UInt8.ofNat x).toNat : Int) := by
  have h1 : (UInt8.ofNat x).toNat = x % 256 := by simp
  rw [h1]
  have h2 : IntKind.u8.wrap (x : Int) = (x : Int) % 256 := by
    have : IntKind.wrap .u8 (x : Int) = IntKind.wrap .u8 ((x : Int) % 256) := by
      simp [IntKind.wrap, IntKind.bits, IntKind.signed]
    rw [this, IntWalk.u8_in] <;> omega
  rw [h2]; omega

def WnJ (w size n : Nat) (σ0 : St) (mm : Nat) (rg : Regs) (σ' : St) : Prop := ∃ i, mm = 8 - i ∧ i ≤ 8 ∧ σ'.next = σ0.next + 1 ∧ σ'.mem.get σ0.next = some (.cells 1 (List.replicate (8 - i) (AVal.int .u8 0) ++ bytesV (beN i n))) ∧
  (∀ a, a ≠ σ0.next → σ'.mem.get a = σ0.mem.get a) ∧ rg = [(0, .ptr w 0), (1, .int .u64 (n : Int)), (2, .int .i64 (size : Int)), (6, .ptr σ0.next 0), (8, .int .i64 (i : Int))]
theorem wnum_c {σ : St} {w : Nat} {l : List UInt8} {b : Option Nat} (h : WB σ w l b) {n size : Nat} (hs : 1 ≤ size ∧ size ≤ 8) (hl : l.length ≤ 1000000000) (Q : AVal → St → Prop)
    (hQ : ∀ σ' b', WB σ' w (l ++ beN size n) b' → WStp w b b' σ σ' → Q (.tup []) σ') : ACall Tryd.prog 49 [.ptr w 0, .int .u64 (n : Int), .int .i64 (size : Int)] σ Q := by
  refine ACall.of_compF hmx (fun a w => Tryd.call49 a w) Tryd.func49 cf49 (n := 3) (by decide) rfl ?_
  simp [ac49, rs49, lk_cons]
  refine wp_loop (WnJ w size n σ) 8 ?_ ?_
  · exact ⟨0, rfl, by omega, rfl, by simp [beN, bytesV, List.replicate], fun a ha => by simp [ha], rfl⟩
  · rintro mm rg σ' ⟨i, rfl, hi, g1, g2, g3, rfl⟩
    by_cases hc : i < 8
    · have w1 : IntKind.i64.wrap (7 - (i : Int)) = ((7 - i : Nat) : Int) := by rw [IntWalk.i64_in] <;> omega
      have w2 : IntKind.i64.wrap (8 * (i : Int)) = 8 * (i : Int) := by rw [IntWalk.i64_in] <;> omega
      have w3 : IntKind.i64.wrap ((i : Int) + 1) = ((i + 1 : Nat) : Int) := by rw [IntWalk.i64_in] <;> omega
      obtain ⟨q, hq⟩ : ∃ q, n / 256 ^ i = q := ⟨_, rfl⟩
      have e1 := shr8 hc hq σ'
      have e2 := byte_wrap q
      obtain ⟨k, hk⟩ : ∃ k, 7 - i = k := ⟨_, rfl⟩
      rw [hk] at w1
      have hlt : (i : Int) < 8 := by omega
      have k1 : (k : Int) < 8 := by omega
      have k2 : k ≤ 7 := by omega
      have hset : storeL (List.replicate (8 - i) (AVal.int .u8 0) ++ bytesV (beN i n)) k [AVal.int .u8 ((q : Int) % 256)] = List.replicate (8 - (i + 1)) (AVal.int .u8 0) ++ bytesV (beN (i + 1) n) := by
        have h8 : 8 - i = k + 1 := by omega
        have h7 : 8 - (i + 1) = k := by omega
        rw [h8, h7]
        simp only [storeL]
        rw [List.set_append, if_pos (by simp), List.replicate_succ', List.set_append, if_neg (by simp), List.length_replicate]
        simp [beN, bytesV, hq]
      have hlen : (List.replicate (8 - i) (AVal.int .u8 0) ++ bytesV (beN i n)).length = 8 := by simp [bytesV_len, beN_len]; omega
      generalize List.replicate (8 - i) (AVal.int .u8 0) ++ bytesV (beN i n) = arr at g2 hset hlen
      simp [lk_cons, hlt, w1, w2, w3, ↓e1, e2, g2, k1, k2, hlen, hset]
      exact ⟨8 - (i + 1), by omega, i + 1, rfl, by omega, g1, by simp, fun a ha => by simp [ha, g3 a ha], by simp⟩
    · have : i = 8 := by omega
      subst this
      obtain ⟨v, h1, h2, h3, h4⟩ := h
      have m1 : σ'.mem.get w = some (.cells 1 [v]) := by rw [g3 w (by omega)]; exact h1
      have w1 : IntKind.i64.wrap (8 - (size : Int)) = ((8 - size : Nat) : Int) := by rw [IntWalk.i64_in] <;> omega
      obtain ⟨d, hd⟩ : ∃ d, 8 - size = d := ⟨_, rfl⟩
      rw [hd] at w1
      have k1 : d ≤ 8 := by omega
      have h2' : GS rwB σ' v l b := h2.keep (by omega) fun a ha _ => g3 a (by omega)
      have hsrc : srcL σ' 1 (.sl σ.next d (8 - d) (8 - d) true) = some (rws rwB (beN size n), (beN size n).length) := by
        have e1 : 8 - d = size := by omega
        have e2 : bytesV (beN size n) = (bytesV (beN 8 n)).drop d := by
          have := beN_drop n d size
          rw [show d + size = 8 by omega] at this
          rw [← this]; simp [bytesV, List.map_drop]
        simp [srcL, g2, e1, beN_len, rwsB, bytesV_len, show d + size ≤ 8 by omega]
        rw [e2, List.take_of_length_le (by rw [List.length_drop, bytesV_len, beN_len]; omega)]
      obtain ⟨v', σ2, b', e1, e2, e3, e4, e5⟩ := gs_appN h2' (by_ := 1) (by decide) hsrc (by rw [beN_len]; omega) (by rw [beN_len]; omega)
      have m2 : σ2.mem.get w = some (.cells 1 [v]) := by rw [e5 w (by omega) h3]; exact m1
      have hgl : (8 : Nat) ≤ (List.replicate (8 - 8) (AVal.int .u8 0) ++ bytesV (beN 8 n)).length := by simp [bytesV_len, beN_len]
      simp [bytesV_len, beN_len] at g2
      simp [lk_cons, m1, g2, w1, optM, asliceSl, bnd, k1, bytesV_len, beN_len, ↓e1, m2, e2.one, storeL]
      have hwb : b' ≠ some w := fun e => by
        rcases e3 with e3 | e3
        · exact h3 (e3 ▸ e)
        · rw [e3] at e; cases e; omega
      refine hQ _ b' ⟨v', by simp, e2.keep (by simp) fun a ha hb => ?_, hwb, by simp; omega⟩ ⟨by simp; omega, fun x hx => ?_, fun a ha hw hb => ?_⟩
      · have : a ≠ w := fun e => hwb (by rw [hb, e])
        simp [this]
      · rcases e3 with e3 | e3
        · exact .inl (e3 ▸ hx)
        · rw [e3] at hx; cases hx; exact .inr (by omega)
      · simp [hw]
        rw [e5 a (by omega) hb, g3 a (by omega)]
end Go.Proofs.YtieieknhhfallaaDoor.AM

/- pack.Writer: U8, U64, Bytes, Text, Done. -/
namespace Go.Proofs.YtieieknhhfallaaDoor.AM
set_option maxRecDepth 100000
set_option linter.unusedVariables false
set_option linter.unusedSimpArgs false

section
variable {σ : St} {w : Nat} {l : List UInt8} {b : Option Nat}
theorem wu64_c (h : WB σ w l b) {n : Nat} (hl : l.length ≤ 1000000000) (Q : AVal → St → Prop)
    (hQ : ∀ σ' b', WB σ' w (l ++ beN 8 n) b' → WStp w b b' σ σ' → Q (.tup []) σ') : ACall Tryd.prog 39 [.ptr w 0, .int .u64 (n : Int)] σ Q := by
  refine ACall.of_compF hmx (fun a w => Tryd.call39 a w) Tryd.func39 cf39 (n := 2) (by decide) rfl ?_
  simp [ac39, rs39, lk_cons]
  refine wnum_c h (size := 8) (by decide) hl _ fun σ' b' h1 h2 => ?_
  simp [lk_cons]
  exact hQ σ' b' h1 h2
theorem wu8_c (h : WB σ w l b) {n : Nat} (hn : n < 256) (hl : l.length ≤ 1000000000) (Q : AVal → St → Prop)
    (hQ : ∀ σ' b', WB σ' w (l ++ beN 1 n) b' → WStp w b b' σ σ' → Q (.tup []) σ') : ACall Tryd.prog 37 [.ptr w 0, .int .u8 (n : Int)] σ Q := by
  refine ACall.of_compF hmx (fun a w => Tryd.call37 a w) Tryd.func37 cf37 (n := 2) (by decide) rfl ?_
  have w1 : IntKind.u64.wrap (n : Int) = n := by rw [IntWalk.u64_in] <;> omega
  simp [ac37, rs37, lk_cons, w1]
  refine wnum_c h (size := 1) (by decide) hl _ fun σ' b' h1 h2 => ?_
  simp [lk_cons]
  exact hQ σ' b' h1 h2
/-- A slice whose bytes stay while the writer writes. -/
def SrcB (σ : St) (w : Nat) (b : Option Nat) (v : AVal) (m : List UInt8) : Prop := (∀ ρ, evalV ρ (.len 1 v) = some (.int .i64 (m.length : Int), ρ)) ∧ ∀ σ' : St, σ.next ≤ σ'.next → (∀ a, a < σ.next → a ≠ w → b ≠ some a → σ'.mem.get a = σ.mem.get a) → srcL σ' 1 v = some (rws rwB m, m.length)
theorem SrcB.of (hb : WB σ w l b) {v : AVal} {m : List UInt8} {c : Option Nat} (h : GS rwB σ v m c) (h1 : c ≠ some w) (h2 : ∀ x, c = some x → b ≠ some x) : SrcB σ w b v m :=
  ⟨h.len, fun σ' hn hm => (h.keep hn fun a ha hc => hm a ha (fun e => h1 (by rw [hc, e])) (h2 a hc)).src⟩
theorem SrcB.ofI {v : AVal} {m : List UInt8} (h : BytesOf v m) : SrcB σ w b v m := ⟨h.len, fun σ' _ _ => h.src σ'⟩
theorem wbytes_c (h : WB σ w l b) {v : AVal} {m : List UInt8} (hv : SrcB σ w b v m) (hl : l.length ≤ 1000000) (hm : m.length ≤ 1000000) (Q : AVal → St → Prop)
    (hQ : ∀ σ' b', WB σ' w (l ++ (beN 4 m.length ++ m)) b' → WStp w b b' σ σ' → Q (.tup []) σ') : ACall Tryd.prog 50 [.ptr w 0, v] σ Q := by
  refine ACall.of_compF hmx (fun a w => Tryd.call50 a w) Tryd.func50 cf50 (n := 2) (by decide) rfl ?_
  have w1 : IntKind.u64.wrap (m.length : Int) = m.length := by rw [IntWalk.u64_in] <;> omega
  obtain ⟨hlen, hsrc⟩ := hv
  simp [ac50, rs50, lk_cons, ↓hlen, w1]
  refine wnum_c h (size := 4) (by decide) (by omega) _ fun σ1 b1 h1 h2 => ?_
  obtain ⟨v1, m1, m2, m3, m4⟩ := id h1
  have hs1 := hsrc σ1 h2.next h2.keep
  obtain ⟨v', σ2, b', e1, e2, e3, e4, e5⟩ := gs_appN m2 (by_ := 1) (by decide) hs1 (by simp [beN_len]; omega) (by simp [beN_len]; omega)
  have m5 : σ2.mem.get w = some (.cells 1 [v1]) := by rw [e5 w (by omega) m3]; exact m1
  simp [lk_cons, m1, ↓e1, m5, e2.one, storeL]
  have hwb : b' ≠ some w := fun e => by
    rcases e3 with e3 | e3
    · exact m3 (e3 ▸ e)
    · rw [e3] at e; cases e; omega
  rw [List.append_assoc] at e2
  refine hQ _ b' ⟨v', by simp, e2.keep (by simp) fun a ha hb => ?_, hwb, by simp; omega⟩ (h2.trans ⟨by simp; omega, fun x hx => ?_, fun a ha hw hb => ?_⟩)
  · have : a ≠ w := fun e => hwb (by rw [hb, e])
    simp [this]
  · rcases e3 with e3 | e3
    · exact .inl (e3 ▸ hx)
    · rw [e3] at hx; cases hx; exact .inr (Nat.le_refl _)
  · simp [hw]
    exact e5 a ha hb
theorem wtext_c (h : WB σ w l b) {s : ByteArray} (hl : l.length ≤ 1000000) (hs : s.size ≤ 1000000) (Q : AVal → St → Prop)
    (hQ : ∀ σ' b', WB σ' w (l ++ (beN 4 s.size ++ s.data.toList)) b' → WStp w b b' σ σ' → Q (.tup []) σ') : ACall Tryd.prog 38 [.ptr w 0, .str s] σ Q := by
  refine ACall.of_compF hmx (fun a w => Tryd.call38 a w) Tryd.func38 cf38 (n := 2) (by decide) rfl ?_
  have hs' : s.size ≤ 140737488355328 := by omega
  have hsl : s.data.toList.length = s.size := by simp
  simp [ac38, rs38, lk_cons, hs']
  obtain ⟨v, h1, h2, h3, h4⟩ := id h
  have hb : WB ⟨σ.mem.set σ.next (.cells 1 (s.data.toList.map fun b => .int .u8 (b.toNat : Int))), σ.next + 1⟩ w l b := h.keep (by simp) fun a ha _ => by simp [show ¬ a = σ.next by omega]
  refine wbytes_c hb (m := s.data.toList) (SrcB.of hb (c := some σ.next) (.inr ⟨σ.next, false, rfl, by simp, by simp, by simp [rwsB, bytesV]⟩) (by simp; omega) fun x hx hbx => ?_) hl (by omega) _ fun σ' b' k1 k2 => ?_
  · cases hx; have := h2.lt hbx; omega
  · simp [lk_cons]
    rw [hsl] at k1
    refine hQ σ' b' k1 ⟨by have := k2.next; simp at this; omega, fun x hx => ?_, fun a ha hw hb => ?_⟩
    · rcases k2.own x hx with e | e
      · exact .inl e
      · simp at e; exact .inr (by omega)
    · rw [k2.keep a (by simp; omega) hw hb]
      simp [show ¬ a = σ.next by omega]
theorem wdone_c (h : WB σ w l b) (hl : l.length ≤ 1000000000) (Q : AVal → St → Prop)
    (hQ : ∀ σ' v' b', GS rwB σ' v' l b' → (∀ x, b' = some x → σ.next ≤ x) → Grow σ σ' → Q v' σ') : ACall Tryd.prog 23 [.ptr w 0] σ Q := by
  refine ACall.of_compF hmx (fun a w => Tryd.call23 a w) Tryd.func23 cf23 (n := 1) (by decide) rfl ?_
  obtain ⟨v, h1, h2, h3, h4⟩ := id h
  simp [ac23, rs23, lk_cons, h1]
  refine ACall.of_compF hmx (fun a w => Tryd.call40 a w) Tryd.func40 cf40 (n := 1) (by decide) rfl ?_
  rcases id h2 with ⟨rfl, rfl, rfl⟩ | ⟨o, t, rfl, rfl, h5, h6⟩
  · simp [ac40, rs40, lk_cons]
    exact hQ σ .nilsl none (GS.nil σ) (by simp) ⟨Nat.le_refl _, fun _ _ => rfl⟩
  · have hg : GS rwB ⟨σ.mem.set σ.next (.cells 1 []), σ.next + 1⟩ (.sl σ.next 0 0 0 true) [] (some σ.next) := .inr ⟨σ.next, true, rfl, rfl, by simp, by simp [rws]⟩
    have hsrc : srcL ⟨σ.mem.set σ.next (.cells 1 []), σ.next + 1⟩ 1 (.sl o 0 l.length l.length t) = some (rws rwB l, l.length) := (h2.keep (by simp) fun a ha _ => by simp [show ¬ a = σ.next by omega]).src
    obtain ⟨v', σ2, b', e1, e2, e3, e4, e5⟩ := gs_appN hg (by_ := 1) (by decide) hsrc (by simp; omega) (by simp; omega)
    simp only [List.nil_append] at e2
    simp [ac40, rs40, lk_cons, fillL, repL, ↓e1]
    simp at e4 e5
    refine hQ _ v' b' e2 (fun x hx => ?_) ⟨by omega, fun a ha => ?_⟩
    · rcases e3 with e3 | e3
      · rw [e3] at hx; cases hx; omega
      · rw [e3] at hx; cases hx; simp
    · rw [e5 a (by omega) (by omega)]
      simp [show ¬ a = σ.next by omega]
end
end Go.Proofs.YtieieknhhfallaaDoor.AM

/- The document's Put, PutBytes. -/
namespace Go.Proofs.YtieieknhhfallaaDoor.AM
set_option maxRecDepth 100000
set_option linter.unusedVariables false
set_option linter.unusedSimpArgs false

def PuJ (n size : Nat) (l : List UInt8) (b : Option Nat) (σ0 : St) (mm : Nat) (rg : Regs) (σ' : St) : Prop := ∃ (k : Nat) (v : AVal) (l1 : List UInt8) (b1 : Option Nat), mm = k ∧ k ≤ size ∧ l1 ++ beN k n = l ++ beN size n ∧ GS rwB σ' v l1 b1 ∧ BStp b b1 σ0 σ' ∧ rg = [(0, v), (1, .int .u64 (n : Int)), (7, .int .i64 ((k : Int) - 1))]
def PvJ (n i : Nat) (v : AVal) (σ1 : St) (mm : Nat) (rg : Regs) (σ' : St) : Prop := ∃ j, mm = i - j ∧ j ≤ i ∧ σ' = σ1 ∧ rg = [(0, v), (1, .int .u64 (n : Int)), (7, .int .i64 (i : Int)), (8, .int .u64 ((n / 256 ^ j : Nat) : Int)), (9, .int .i64 (j : Int))]
end Go.Proofs.YtieieknhhfallaaDoor.AM

/- The document's table in memory: at, Begin, Done. -/
namespace Go.Proofs.YtieieknhhfallaaDoor.AM
set_option maxRecDepth 100000
set_option linter.unusedVariables false
set_option linter.unusedSimpArgs false

/-- A line's row. -/
def rwL : Rw (ByteArray × Ln) 5 := ⟨fun x => [.str x.1, u64 (x.2.1 : Int), u64 (x.2.2.1 : Int), u64 (x.2.2.2.1 : Int), u64 (x.2.2.2.2 : Int)], fun _ => rfl, fun _ => rfl⟩
abbrev RT (σ : St) (m : Nat) (T : Tbl) (b : Option Nat) : Prop := HB rwL σ m T b
theorem rwL_row {T : Tbl} {i : Nat} {n : ByteArray} {x : Ln} (h : T[i]? = some (n, x)) : (rws rwL T)[i * 5]? = some (.str n) ∧ (rws rwL T)[i * 5 + 1]? = some (u64 (x.1 : Int)) ∧ (rws rwL T)[i * 5 + 2]? = some (u64 (x.2.1 : Int)) ∧ (rws rwL T)[i * 5 + 3]? = some (u64 (x.2.2.1 : Int)) ∧ (rws rwL T)[i * 5 + 4]? = some (u64 (x.2.2.2 : Int)) := by
  have h0 := rws_get rwL h (j := 0) (by decide)
  have h1 := rws_get rwL h (j := 1) (by decide)
  have h2 := rws_get rwL h (j := 2) (by decide)
  have h3 := rws_get rwL h (j := 3) (by decide)
  have h4 := rws_get rwL h (j := 4) (by decide)
  exact ⟨h0, h1, h2, h3, h4⟩
theorem lkB_ix (n : ByteArray) : ∀ T : Tbl, (lkB T n = none ∧ ∀ p ∈ T, p.1 ≠ n) ∨ ∃ i x, T[i]? = some (n, x) ∧ lkB T n = some x ∧ (∀ j p, j < i → T[j]? = some p → p.1 ≠ n) ∧ ∀ y, T.set i (n, y) = setB T n y
  | [] => .inl ⟨rfl, by simp⟩
  | (k, x) :: T => by
    by_cases h : n = k
    · subst h
      exact .inr ⟨0, x, rfl, by simp [lkB], fun j p hj => by omega, fun y => by simp [setB]⟩
    · rcases lkB_ix n T with ⟨h1, h2⟩ | ⟨i, y, h1, h2, h3, h4⟩
      · refine .inl ⟨by simp [lkB, h, h1], fun p hp => ?_⟩
        rcases List.mem_cons.1 hp with rfl | hp
        · exact fun e => h e.symm
        · exact h2 p hp
      · refine .inr ⟨i + 1, y, by simpa using h1, by simp [lkB, h, h2], fun j p hj hp => ?_, fun z => by simp [setB, h, h4]⟩
        cases j with
        | zero => simp at hp; subst hp; exact fun e => h e.symm
        | succ j => exact h3 j p (by omega) (by simpa using hp)

def AtJ (m : Nat) (n : ByteArray) (T : Tbl) (σ0 : St) (mm : Nat) (rg : Regs) (σ' : St) : Prop := ∃ i : Nat, mm = T.length - i ∧ i ≤ T.length ∧ (∀ j p, j < i → T[j]? = some p → p.1 ≠ n) ∧ σ' = σ0 ∧ rg = [(0, .ptr m 0), (1, .str n), (5, i64 i)]
end Go.Proofs.YtieieknhhfallaaDoor.AM

/- Names in order; the document's Forget, All, SameLines, has. -/
namespace Go.Proofs.YtieieknhhfallaaDoor.AM
set_option maxRecDepth 100000
set_option linter.unusedVariables false
set_option linter.unusedSimpArgs false

def lessB (a b : ByteArray) : Bool := decide (a.data.toList < b.data.toList)
theorem bLess (a b : ByteArray) : Op.bytesLess a.toList b.toList = lessB a b := by
  rw [ByteArray.toList_eq, ByteArray.toList_eq, bytesLess_eq]; rfl
theorem strLss (a b : ByteArray) : abinS .lss a b = some (.bool (lessB a b)) := by simp only [abinS, bLess]
theorem lessB_irrefl (a : ByteArray) : lessB a a = false := by simp [lessB, List.lt_irrefl]
theorem lessB_trans {a b c : ByteArray} (h : lessB a b = true) (k : lessB b c = true) : lessB a c = true := by
  simp only [lessB, decide_eq_true_eq] at *
  exact List.lt_trans h k
theorem lessB_tri {a b : ByteArray} (h : lessB a b = false) (k : lessB b a = false) : a = b := by
  simp only [lessB, decide_eq_false_iff_not] at *
  exact ByteArray.ext (Array.ext' (List.le_antisymm k h))
theorem lessB_ntrans {a b c : ByteArray} (h : lessB a b = false) (k : lessB b c = false) : lessB a c = false := by
  simp only [lessB, decide_eq_false_iff_not] at *
  exact fun hac => (List.not_lt.2 (List.le_trans (List.not_lt.1 k) (List.not_lt.1 h))) hac
theorem lessB_asymm {a b : ByteArray} (h : lessB a b = true) : lessB b a = false := by
  cases hb : lessB b a with
  | false => rfl
  | true => have := lessB_trans h hb; rw [lessB_irrefl] at this; cases this
/-- Rising by the names. -/
def RisL (T : Tbl) : Prop := ∀ (i j : Nat) (x y : ByteArray × Ln), i < j → T[i]? = some x → T[j]? = some y → lessB y.1 x.1 = false
theorem RisL.tail {x : ByteArray × Ln} {T : Tbl} (h : RisL (x :: T)) : RisL T := fun i j a b hij ha hb => h (i + 1) (j + 1) a b (by omega) (by simpa using ha) (by simpa using hb)
theorem RisL.uniq : ∀ {S T : Tbl}, RisL S → RisL T → (S.map (·.1)).Nodup → S.Perm T → S = T
  | [], T, _, _, _, h => h.nil_eq
  | x :: S, [], _, _, _, h => by have := h.length_eq; simp at this
  | x :: S, y :: T, hs, ht, hn, h => by
    have hxy : x = y := by
      have h1 : x ∈ y :: T := h.subset (List.mem_cons_self)
      have h2 : y ∈ x :: S := h.symm.subset (List.mem_cons_self)
      rcases List.mem_cons.1 h1 with e | e
      · exact e
      rcases List.mem_cons.1 h2 with e' | e'
      · exact e'.symm
      obtain ⟨i, hi⟩ := List.getElem?_of_mem e
      obtain ⟨j, hj⟩ := List.getElem?_of_mem e'
      have l1 := ht 0 (i + 1) y x (by omega) rfl (by simpa using hi)
      have l2 := hs 0 (j + 1) x y (by omega) rfl (by simpa using hj)
      have he := lessB_tri l1 l2
      simp only [List.map_cons, List.nodup_cons] at hn
      exact absurd (by rw [he]; exact List.mem_map.2 ⟨y, e', rfl⟩) hn.1
    subst hxy
    simp only [List.map_cons, List.nodup_cons] at hn
    rw [RisL.uniq hs.tail ht.tail hn.2 (List.perm_cons x |>.1 h)]
theorem RisL.ins {T : Tbl} {k : Nat} {x : ByteArray × Ln} (h : RisL T) (hk : k ≤ T.length) (h1 : ∀ j p, j < k → T[j]? = some p → lessB p.1 x.1 = true) (h2 : ∀ p, T[k]? = some p → lessB p.1 x.1 = false) : RisL (T.take k ++ x :: T.drop k) := by
  have hl : (T.take k).length = k := by simp; omega
  have get : ∀ i p, (T.take k ++ x :: T.drop k)[i]? = some p → (i < k ∧ T[i]? = some p) ∨ (i = k ∧ p = x) ∨ (k < i ∧ T[i - 1]? = some p) := by
    intro i p hp
    rcases Nat.lt_trichotomy i k with hi | hi | hi
    · rw [List.getElem?_append_left (by omega), List.getElem?_take, if_pos hi] at hp
      exact .inl ⟨hi, hp⟩
    · subst hi
      rw [List.getElem?_append_right (by omega), hl, Nat.sub_self] at hp
      simp at hp
      exact .inr (.inl ⟨rfl, hp.symm⟩)
    · rw [List.getElem?_append_right (by omega), hl] at hp
      obtain ⟨d, hd⟩ : ∃ d, i - k = d + 1 := ⟨i - k - 1, by omega⟩
      rw [hd, List.getElem?_cons_succ, List.getElem?_drop] at hp
      exact .inr (.inr ⟨hi, by rw [← hp]; congr 1; omega⟩)
  have low : ∀ j p, k ≤ j → T[j]? = some p → lessB p.1 x.1 = false := by
    intro j p hj hp
    rcases Nat.eq_or_lt_of_le hj with e | e
    · exact h2 p (by rw [e]; exact hp)
    · obtain ⟨q, hq⟩ : ∃ q, T[k]? = some q := ⟨_, List.getElem?_eq_getElem (by have := (List.getElem?_eq_some_iff.1 hp).1; omega)⟩
      exact lessB_ntrans (h k j q p e hq hp) (h2 q hq)
  intro i j a b hij ha hb
  rcases get i a ha with ⟨i1, i2⟩ | ⟨i1, rfl⟩ | ⟨i1, i2⟩ <;> rcases get j b hb with ⟨j1, j2⟩ | ⟨j1, rfl⟩ | ⟨j1, j2⟩
  · exact h i j a b hij i2 j2
  · exact lessB_asymm (h1 i a i1 i2)
  · exact h i (j - 1) a b (by omega) i2 j2
  · omega
  · omega
  · exact low (j - 1) b (by omega) j2
  · omega
  · omega
  · exact h (i - 1) (j - 1) a b (by omega) i2 j2

/-- The document's Forget. -/
def FrJ (m : Nat) (T : Tbl) (σ0 : St) (mm : Nat) (rg : Regs) (σ' : St) : Prop := ∃ (i : Nat) (v : AVal) (b1 : Option Nat), mm = T.length - i ∧ i ≤ T.length ∧ GS rwL σ' v (fgt (T.take i)) b1 ∧ (∀ x, b1 = some x → σ0.next ≤ x) ∧ Grow σ0 σ' ∧ rg = [(0, .ptr m 0), (2, v), (3, i64 i)]
theorem fgt_snoc (T : Tbl) (x : ByteArray × Ln) : fgt (T ++ [x]) = fgt T ++ (if x.2.2.1 = 0 then [] else [(x.1, (x.2.2.1, x.2.2))]) := by
  simp only [fgt, List.filter_append, List.map_append]
  congr 1
  by_cases h : x.2.2.1 = 0 <;> simp [List.filter_cons, h]
theorem fgt_len (T : Tbl) : (fgt T).length ≤ T.length := by simp only [fgt, List.length_map]; exact List.length_filter_le _ _
end Go.Proofs.YtieieknhhfallaaDoor.AM

/- The document's All, SameLines, has. -/
namespace Go.Proofs.YtieieknhhfallaaDoor.AM
set_option maxRecDepth 100000
set_option linter.unusedVariables false
set_option linter.unusedSimpArgs false

def InJ (m i : Nat) (x : ByteArray × Ln) (v : AVal) (ys : Tbl) (σ1 : St) (mm : Nat) (rg : Regs) (σ' : St) : Prop := ∃ k : Nat, mm = ys.length - k ∧ k ≤ ys.length ∧ (∀ j p, j < k → ys[j]? = some p → lessB p.1 x.1 = true) ∧ σ' = σ1 ∧ rg = [(0, .ptr m 0), (3, v), (4, i64 i), (5, i64 k)]
def AlJ (m : Nat) (T : Tbl) (σ0 : St) (mm : Nat) (rg : Regs) (σ' : St) : Prop := ∃ (i : Nat) (v : AVal) (ys : Tbl) (b1 : Option Nat), mm = T.length - i ∧ i ≤ T.length ∧ ys.Perm (T.take i) ∧ RisL ys ∧ GS rwL σ' v ys b1 ∧ (∀ x, b1 = some x → σ0.next ≤ x) ∧ Grow σ0 σ' ∧ rg = [(0, .ptr m 0), (3, v), (4, i64 i)]
theorem perm_ins {T ys : Tbl} {i k : Nat} {x : ByteArray × Ln} (hp : ys.Perm (T.take i)) (hx : T[i]? = some x) : (ys.take k ++ x :: ys.drop k).Perm (T.take (i + 1)) := by
  have htk : T.take (i + 1) = T.take i ++ [x] := by rw [List.take_add_one, hx]; rfl
  rw [htk]
  have h1 : (ys.take k ++ x :: ys.drop k).Perm (x :: (ys.take k ++ ys.drop k)) := List.perm_middle
  rw [List.take_append_drop] at h1
  exact h1.trans ((List.Perm.cons x hp).trans (List.perm_append_singleton x (T.take i)).symm)
end Go.Proofs.YtieieknhhfallaaDoor.AM

/- The document's SameLines, has, Bytes. -/
namespace Go.Proofs.YtieieknhhfallaaDoor.AM
set_option maxRecDepth 100000
set_option linter.unusedVariables false
set_option linter.unusedSimpArgs false

theorem eqs_row (x : ByteArray × Ln) (ρ : St) : evalV ρ (.eqs true [2, 1, 1, 1, 1] (.agg [.str x.1, u64 (x.2.1 : Int), u64 (x.2.2.1 : Int), u64 (x.2.2.2.1 : Int), u64 (x.2.2.2.2 : Int)]) (.agg [.str x.1, u64 (x.2.1 : Int), u64 (x.2.2.1 : Int), u64 (x.2.2.2.1 : Int), u64 (x.2.2.2.2 : Int)])) = some (.bool false, ρ) := by
  simp [shapeOk, kShape, keysEq, keyEq, ba_beq]
def SmJ (v u : AVal) (n : Nat) (σ0 : St) (mm : Nat) (rg : Regs) (σ' : St) : Prop := ∃ i : Nat, mm = n - i ∧ i ≤ n ∧ σ' = σ0 ∧ rg = [(0, v), (1, u), (5, i64 i)]
theorem rsame_c {σ : St} {v u : AVal} {T : Tbl} {b c : Option Nat} (h : GS rwL σ v T b) (k : GS rwL σ u T c) (hl : T.length ≤ 100000) (Q : AVal → St → Prop) (hQ : Q (.bool true) σ) : ACall Tryd.prog 15 [v, u] σ Q := by
  refine ACall.of_compF hmx (fun a w => Tryd.call15 a w) Tryd.func15 cf15 (n := 2) (by decide) rfl ?_
  have l1 := h.len
  have l2 := k.len
  simp [ac15, rs15, lk_cons, ↓l1, ↓l2]
  refine wp_loop (SmJ v u T.length σ) T.length ?_ ?_
  · exact ⟨0, rfl, Nat.zero_le _, rfl, rfl⟩
  · rintro mm rg σ' ⟨i, rfl, hi, rfl, rfl⟩
    by_cases hc : i < T.length
    · obtain ⟨x, hx⟩ : ∃ x, T[i]? = some x := ⟨_, List.getElem?_eq_getElem hc⟩
      have w1 : IntKind.i64.wrap ((i : Int) + 1) = ((i + 1 : Nat) : Int) := by rw [IntWalk.i64_in] <;> omega
      have row : ((rws rwL T).drop (i * 5)).take 5 = [.str x.1, u64 (x.2.1 : Int), u64 (x.2.2.1 : Int), u64 (x.2.2.2.1 : Int), u64 (x.2.2.2.2 : Int)] := rws_at rwL hx
      have k5 : i * 5 + 5 ≤ (rws rwL T).length := by rw [rws_len]; omega
      obtain ⟨o, _, _, m1, i1⟩ := h.idx hc
      obtain ⟨o', _, _, m2, i2⟩ := k.idx hc
      have e1 := eqs_row x
      simp [lk_cons, ↓l1, hc, ↓i1, ↓i2, m1, m2, row, k5, ↓e1, w1]
      exact ⟨T.length - (i + 1), by omega, i + 1, rfl, by omega, rfl, rfl⟩
    · have : i = T.length := by omega
      subst this
      simp [lk_cons, ↓l1]
      exact hQ
def HsJ (v : AVal) (n : ByteArray) (T : Tbl) (σ0 : St) (mm : Nat) (rg : Regs) (σ' : St) : Prop := ∃ i : Nat, mm = T.length - i ∧ i ≤ T.length ∧ (∀ j p, j < i → T[j]? = some p → p.1 ≠ n) ∧ Grow σ0 σ' ∧ rg = [(1, .str n), (10, v), (11, i64 (T.length : Nat)), (12, i64 i)]
end Go.Proofs.YtieieknhhfallaaDoor.AM

/- The document's Bytes. -/
namespace Go.Proofs.YtieieknhhfallaaDoor.AM
set_option maxRecDepth 100000
set_option linter.unusedVariables false
set_option linter.unusedSimpArgs false

/-- What is done. -/
def dn (T : Tbl) : Tbl := T.filter fun p => decide (p.2.2.1 ≠ 0)
/-- A line's bytes. -/
def lnB (x : ByteArray × Ln) : List UInt8 := (beN 4 x.1.size ++ x.1.data.toList) ++ (beN 8 x.2.2.1 ++ (beN 8 x.2.2.2.1 ++ beN 8 x.2.2.2.2))
def lnsB (T : Tbl) : List UInt8 := (T.map lnB).flatten
def encT (T : Tbl) : List UInt8 := beN 1 (dn T).length ++ lnsB (dn T)
theorem lnsB_snoc (T : Tbl) (x : ByteArray × Ln) : lnsB (T ++ [x]) = lnsB T ++ lnB x := by simp [lnsB]
theorem dn_snoc (T : Tbl) (x : ByteArray × Ln) : dn (T ++ [x]) = dn T ++ (if x.2.2.1 = 0 then [] else [x]) := by
  simp only [dn, List.filter_append]
  congr 1
  by_cases h : x.2.2.1 = 0 <;> simp [List.filter_cons, h]
theorem dn_len (T : Tbl) : (dn T).length ≤ T.length := List.length_filter_le _ _
/-- Lines as they may be. -/
def LnOk (p : ByteArray × Ln) : Prop := p.1.size ≤ 1000 ∧ p.2.1 < 18446744073709551616 ∧ p.2.2.1 < 18446744073709551616 ∧ p.2.2.2.1 < 18446744073709551616 ∧ p.2.2.2.2 < 18446744073709551616
theorem lnB_len {x : ByteArray × Ln} (h : LnOk x) : (lnB x).length ≤ 1028 := by
  have := h.1
  simp [lnB, beN_len]; omega
theorem lnsB_len : ∀ {T : Tbl}, (∀ x ∈ T, LnOk x) → (lnsB T).length ≤ T.length * 1028
  | [], _ => by simp [lnsB]
  | x :: T, h => by
    have h1 := lnB_len (h x (by simp))
    have h2 := lnsB_len (T := T) fun y hy => h y (by simp [hy])
    simp only [lnsB, List.map_cons, List.flatten_cons, List.length_append, List.length_cons] at h2 ⊢
    omega

def B1J (v0 v1 : AVal) (ys : Tbl) (σ0 : St) (mm : Nat) (rg : Regs) (σ' : St) : Prop := ∃ (i : Nat) (v2 : AVal) (b2 : Option Nat), mm = ys.length - i ∧ i ≤ ys.length ∧ GS rwL σ' v2 (dn (ys.take i)) b2 ∧ (∀ x, b2 = some x → σ0.next ≤ x) ∧ Grow σ0 σ' ∧ rg = [(1, v0), (5, v2), (6, v1), (7, i64 i)]
def B2J (v2 : AVal) (l : Tbl) (pre : List UInt8) (σ0 : St) (mm : Nat) (rg : Regs) (σ' : St) : Prop := ∃ (i : Nat) (v : AVal) (b : Option Nat), mm = l.length - i ∧ i ≤ l.length ∧ GS rwB σ' v (pre ++ lnsB (l.take i)) b ∧ (∀ x, b = some x → σ0.next ≤ x) ∧ Grow σ0 σ' ∧ rg = [(1, v), (5, v2), (8, i64 i)]
theorem BStp.new {b b' : Option Nat} {σ σ' : St} (h : BStp b b' σ σ') {lo : Nat} (hb : ∀ x, b = some x → lo ≤ x) (hl : lo ≤ σ.next) : ∀ x, b' = some x → lo ≤ x := fun x hx => by
  rcases h.own x hx with e | e
  · exact hb x e
  · omega
theorem BStp.grow {b b' : Option Nat} {σ0 σ σ' : St} (h : BStp b b' σ σ') (hg : Grow σ0 σ) (hb : ∀ x, b = some x → σ0.next ≤ x) : Grow σ0 σ' :=
  ⟨Nat.le_trans hg.1 h.next, fun a ha => by
    rw [h.keep a (Nat.lt_of_lt_of_le ha hg.1) (fun e => by have := hb a e; omega)]; exact hg.2 a ha⟩
end Go.Proofs.YtieieknhhfallaaDoor.AM

/- slices.SortFunc of lines: the library's sort as it stands in this program (the plain text that the kit's tool writes). -/
namespace Go.Proofs
open Go.Shelf
def Tryd.sortLn_ren : Go.Shelf.Ren := ⟨fun | 6 => 46 | 15 => 55 | 14 => 54 | 28 => 64 | 29 => 65 | 20 => 56 | 21 => 57 | 22 => 58 | 23 => 59 | 24 => 60 | 25 => 61 | 26 => 62 | 27 => 63 | 46 => 66 | 47 => 67 | 48 => 68 | 49 => 69 | 50 => 70 | 57 => 71 | n => n, fun | 22 => 39 | 24 => 56 | 25 => 84 | 3 => 3 | 39 => 37 | 0 => 0 | 53 => 116 | 55 => 27 | 4 => 4 | 46 => 109 | 45 => 108 | 50 => 113 | 5 => 5 | 9 => 9 | 66 => 118 | 70 => 121 | 76 => 123 | 77 => 124 | n => n, fun | n => n⟩
theorem Tryd.sortLn : Go.Proofs.SlLaysF0.n6 Tryd.prog Tryd.sortLn_ren := {
  mixed := by kernel_rfl
  f6 := ⟨Tryd.f46.name, by decide, Tryd.func46.trans (congrArg some (by kernel_rfl))⟩
  f14 := ⟨Tryd.f54.name, by decide, Tryd.func54.trans (congrArg some (by kernel_rfl))⟩
  f15 := Tryd.func55.trans (congrArg some (by kernel_rfl))
  f20 := ⟨Tryd.f56.name, by decide, Tryd.func56.trans (congrArg some (by kernel_rfl))⟩
  f21 := ⟨Tryd.f57.name, by decide, Tryd.func57.trans (congrArg some (by kernel_rfl))⟩
  f22 := ⟨Tryd.f58.name, by decide, Tryd.func58.trans (congrArg some (by kernel_rfl))⟩
  f23 := ⟨Tryd.f59.name, by decide, Tryd.func59.trans (congrArg some (by kernel_rfl))⟩
  f24 := ⟨Tryd.f60.name, by decide, Tryd.func60.trans (congrArg some (by kernel_rfl))⟩
  f25 := ⟨Tryd.f61.name, by decide, Tryd.func61.trans (congrArg some (by kernel_rfl))⟩
  f26 := ⟨Tryd.f62.name, by decide, Tryd.func62.trans (congrArg some (by kernel_rfl))⟩
  f27 := ⟨Tryd.f63.name, by decide, Tryd.func63.trans (congrArg some (by kernel_rfl))⟩
  f28 := Tryd.func64.trans (congrArg some (by kernel_rfl))
  f29 := Tryd.func65.trans (congrArg some (by kernel_rfl))
  f46 := ⟨Tryd.f66.name, by decide, Tryd.func66.trans (congrArg some (by kernel_rfl))⟩
  f47 := Tryd.func67.trans (congrArg some (by kernel_rfl))
  f48 := Tryd.func68.trans (congrArg some (by kernel_rfl))
  f49 := ⟨Tryd.f69.name, by decide, Tryd.func69.trans (congrArg some (by kernel_rfl))⟩
  f50 := ⟨Tryd.f70.name, by decide, Tryd.func70.trans (congrArg some (by kernel_rfl))⟩
  f57 := ⟨Tryd.f71.name, by decide, Tryd.func71.trans (congrArg some (by kernel_rfl))⟩
  t0 := Tryd.underlying0
  a0 := Tryd.isAgg0
  z0 := Tryd.sizeOf0
  v0 := Tryd.zeroValue0
  t3 := Tryd.underlying3
  a3 := Tryd.isAgg3
  z3 := Tryd.sizeOf3
  v3 := Tryd.zeroValue3
  t4 := Tryd.underlying4
  a4 := Tryd.isAgg4
  z4 := Tryd.sizeOf4
  v4 := Tryd.zeroValue4
  t5 := Tryd.underlying5
  a5 := Tryd.isAgg5
  z5 := Tryd.sizeOf5
  v5 := Tryd.zeroValue5
  t9 := Tryd.underlying9
  a9 := Tryd.isAgg9
  z9 := Tryd.sizeOf9
  v9 := Tryd.zeroValue9
  t22 := Tryd.underlying39
  a22 := Tryd.isAgg39
  z22 := Tryd.sizeOf39
  v22 := Tryd.zeroValue39
  t25 := Tryd.underlying84
  a25 := Tryd.isAgg84
  z25 := Tryd.sizeOf84
  v25 := Tryd.zeroValue84
  t39 := Tryd.underlying37
  a39 := Tryd.isAgg37
  z39 := Tryd.sizeOf37
  v39 := Tryd.zeroValue37
  t45 := Tryd.underlying108
  a45 := Tryd.isAgg108
  z45 := Tryd.sizeOf108
  v45 := Tryd.zeroValue108
  t46 := Tryd.underlying109
  a46 := Tryd.isAgg109
  z46 := Tryd.sizeOf109
  v46 := Tryd.zeroValue109
  t50 := Tryd.underlying113
  a50 := Tryd.isAgg113
  z50 := Tryd.sizeOf113
  v50 := Tryd.zeroValue113
  t53 := Tryd.underlying116
  a53 := Tryd.isAgg116
  z53 := Tryd.sizeOf116
  v53 := Tryd.zeroValue116
  t55 := Tryd.underlying27
  a55 := Tryd.isAgg27
  z55 := Tryd.sizeOf27
  v55 := Tryd.zeroValue27
  t66 := Tryd.underlying118
  a66 := Tryd.isAgg118
  z66 := Tryd.sizeOf118
  v66 := Tryd.zeroValue118
  t70 := Tryd.underlying121
  a70 := Tryd.isAgg121
  z70 := Tryd.sizeOf121
  v70 := Tryd.zeroValue121
  t76 := Tryd.underlying123
  a76 := Tryd.isAgg123
  z76 := Tryd.sizeOf123
  v76 := Tryd.zeroValue123
  t77 := Tryd.underlying124
  a77 := Tryd.isAgg124
  z77 := Tryd.sizeOf124
  v77 := Tryd.zeroValue124 }
end Go.Proofs

/- All lines of a table: maps.Values, slices.AppendSeq, the sort. -/
namespace Go.Proofs.YtieieknhhfallaaDoor.AM
open Go.RowKit
set_option maxRecDepth 100000
set_option linter.unusedVariables false
set_option linter.unusedSimpArgs false

/-- A slice of lines in memory of one's own. -/
def GSl (lo : Nat) (σ : St) (v : AVal) (l : Tbl) : Prop := v = .nilsl ∧ l = [] ∨ ∃ o, v = .sl o 0 l.length l.length false ∧ lo ≤ o ∧ o < σ.next ∧ σ.mem.get o = some (.cells 5 (rws rwL l)) ∧ 0 < l.length
theorem GSl.frame' {lo lo' : Nat} {σ1 σ2 : St} {v : AVal} {l : Tbl} (h : GSl lo σ1 v l) (hn : σ1.next ≤ σ2.next) (hl : lo' ≤ lo) (hm : ∀ a, lo ≤ a → a < σ1.next → σ2.mem.get a = σ1.mem.get a) : GSl lo' σ2 v l := by
  rcases h with h | ⟨o, h1, h3, h4, h5, h6⟩
  · exact .inl h
  · exact .inr ⟨o, h1, by omega, by omega, (hm o h3 h4).trans h5, h6⟩
theorem GSl.frame {lo : Nat} {σ1 σ2 : St} {v : AVal} {l : Tbl} (h : GSl lo σ1 v l) (hn : σ1.next ≤ σ2.next) (hm : ∀ a, lo ≤ a → a < σ1.next → σ2.mem.get a = σ1.mem.get a) : GSl lo σ2 v l := h.frame' hn (Nat.le_refl _) hm
theorem GSl.lo {lo : Nat} {σ1 : St} {v : AVal} {l : Tbl} (h : GSl lo σ1 v l) {o : Nat} (hv : v = .sl o 0 l.length l.length false) : lo ≤ o := by
  rcases h with ⟨rfl, _⟩ | ⟨o', rfl, h3, _⟩
  · cases hv
  · cases hv; exact h3
theorem GSl.one {lo : Nat} {σ1 : St} {v : AVal} {l : Tbl} (h : GSl lo σ1 v l) : v.one = true ∧ cellsOf v = [v] := by
  rcases h with ⟨rfl, _⟩ | ⟨o, rfl, _⟩ <;> simp
theorem GSl.gs {lo : Nat} {σ1 : St} {v : AVal} {l : Tbl} (h : GSl lo σ1 v l) : ∃ b, GS rwL σ1 v l b ∧ ∀ x, b = some x → lo ≤ x := by
  rcases h with ⟨rfl, rfl⟩ | ⟨o, rfl, h3, h4, h5, _⟩
  · exact ⟨none, GS.nil _, by simp⟩
  · exact ⟨some o, .inr ⟨o, false, rfl, rfl, h4, h5⟩, fun x hx => by cases hx; exact h3⟩
theorem gsl_app {lo : Nat} {ρ0 ρ : St} {ov : AVal} {l : Tbl} (ho : GSl lo ρ0 ov l) (hn : ρ0.next ≤ ρ.next) (hm : ∀ a, lo ≤ a → a < ρ0.next → ρ.mem.get a = ρ0.mem.get a) (hl : l.length ≤ 100000) {b : Nat} {x : ByteArray × Ln} (hb : ρ.mem.get b = some (.cells 5 (rwL.a x))) (hlo : lo ≤ ρ.next) (hb0 : ρ0.next ≤ b) :
    ∃ w ρ', evalV ρ (.append 5 48 ov (.sl b 0 1 1 true)) = some (w, ρ') ∧ GSl lo ρ' w (l ++ [x]) ∧ ρ'.next = ρ.next + 1 ∧ ∀ a, a < ρ.next → (∀ o, ov = .sl o 0 l.length l.length false → a ≠ o) → ρ'.mem.get a = ρ.mem.get a := by
  obtain ⟨c, hg, hc⟩ := (ho.frame hn hm).gs
  have hc0 : c ≠ some b := fun e => by
    rcases ho with ⟨rfl, rfl⟩ | ⟨o, rfl, _, h4, _⟩
    · rcases hg with ⟨_, _, h⟩ | ⟨_, _, _, h, _⟩
      · rw [h] at e; cases e
      · cases h
    · rcases hg with ⟨h, _⟩ | ⟨_, _, h1, h2, _⟩
      · cases h
      · cases h2; rw [h1] at e; cases e; omega
  obtain ⟨ρ', e1, e2, e3, e4⟩ := gs_app1 hg (nb := b) (by_ := 48) (t := true) (x := x) (by decide) hb hc0 (by omega) (by omega)
  refine ⟨_, ρ', e1, ?_, e3, fun a ha hne => e4 a ha fun e => ?_⟩
  · rcases e2 with ⟨h, _⟩ | ⟨o, t, h1, h2, h3, h4⟩
    · cases h
    · cases h1; exact .inr ⟨ρ.next, by simp, hlo, h3, h4, by simp⟩
  · rcases hg with ⟨_, _, h⟩ | ⟨o, t, h1, h2, _⟩
    · rw [h] at e; cases e
    · rw [h1] at e; cases e
      rcases ho with ⟨rfl, _⟩ | ⟨o', rfl, _⟩
      · cases h2
      · cases h2; exact hne _ rfl rfl
def leftE (S : List Nat) (ents : List Entry) : Nat := ents.countP fun e => decide (e.1 ∉ S)
theorem leftE_lt {S : List Nat} {e : Entry} : ∀ {ents : List Entry}, e ∈ ents → e.1 ∉ S → leftE (S ++ [e.1]) ents < leftE S ents
  | e0 :: ents, h, hs => by
    have hle : leftE (S ++ [e.1]) ents ≤ leftE S ents := List.countP_mono_left fun z _ h => by
      simp only [decide_eq_true_eq, List.mem_append, not_or] at h ⊢; exact h.1
    simp only [leftE, List.countP_cons] at hle ⊢
    rcases List.mem_cons.1 h with rfl | h
    · simp [hs]
      exact Nat.lt_succ_of_le (by simpa using hle)
    · have ih := leftE_lt h hs
      simp only [leftE] at ih
      by_cases h0 : e0.1 ∈ S
      · simp [h0]; simpa using ih
      · by_cases h1 : e0.1 = e.1
        · simp [h0, h1] at ih ⊢; omega
        · simp [h0, h1]; simpa using ih
def VLn (e : MEnt) (x : ByteArray × Ln) : Prop := e.2.2 = .agg (rwL.a x)
theorem rwL_inj {x y : ByteArray × Ln} (h : rwL.a x = rwL.a y) : x = y := by
  obtain ⟨n, a, b, c, d⟩ := x
  obtain ⟨n', a', b', c', d'⟩ := y
  simp only [rwL, List.cons.injEq, AVal.int.injEq, AVal.str.injEq, true_and, and_true] at h
  obtain ⟨h0, h1, h2, h3, h4⟩ := h
  simp only [Prod.mk.injEq]
  exact ⟨h0, by omega, by omega, by omega, by omega⟩
theorem vln_uniq : ∀ {V : List MEnt} {ys zs : Tbl}, All2 VLn V ys → All2 VLn V zs → ys = zs
  | [], [], [], _, _ => rfl
  | [], _ :: _, _, h, _ => h.elim
  | [], _, _ :: _, _, h => h.elim
  | _ :: _, [], _, h, _ => h.elim
  | _ :: _, _, [], _, h => h.elim
  | v :: V, y :: ys, z :: zs, h, k => by
    have e : AVal.agg (rwL.a y) = .agg (rwL.a z) := h.1.symm.trans k.1
    rw [rwL_inj (AVal.agg.inj e), vln_uniq h.2 k.2]
theorem perm_ln {V ents : List MEnt} (hp : V.Perm ents) : ∀ {xs : Tbl}, All2 VLn ents xs → ∃ ys, All2 VLn V ys ∧ ys.Perm xs := by
  induction hp with
  | nil => intro xs h; cases xs with
    | nil => exact ⟨[], trivial, .nil⟩
    | cons => exact h.elim
  | cons x p ih => intro xs h; cases xs with
    | nil => exact h.elim
    | cons y ys => obtain ⟨zs, h1, h2⟩ := ih h.2; exact ⟨y :: zs, ⟨h.1, h1⟩, h2.cons y⟩
  | swap x y l => intro xs h; match xs, h with
    | a :: b :: t, h => exact ⟨b :: a :: t, ⟨h.2.1, h.1, h.2.2⟩, .swap _ _ _⟩
  | trans p q ih1 ih2 => intro xs h; obtain ⟨ys, h1, h2⟩ := ih2 h; obtain ⟨zs, h3, h4⟩ := ih1 h1; exact ⟨zs, h3, h4.trans h2⟩

/-- slices.AppendSeq over maps.Values. -/
def ApJ (n0 it b1 mp clock : Nat) (ents : List MEnt) (lp : Loop) (σ0 : St) (mm : Nat) (rg : Regs) (σ' : St) : Prop := ∃ (V : List MEnt) (ys : List (ByteArray × Ln)) (ov : AVal), mm = leftE (V.map (·.1)) ents ∧ V.length + leftE (V.map (·.1)) ents ≤ ents.length ∧ (V.map (·.1)).Nodup ∧ (∀ e ∈ V, e ∈ ents) ∧ All2 VLn V ys ∧
  σ'.mem.get it = some (.iter (some mp) clock (V.map (·.1)) clock) ∧ σ'.mem.get (n0 + 1) = some (.loop lp) ∧ σ'.mem.get n0 = some (.cells 1 [ov]) ∧ GSl (it + 1) σ' ov ys ∧ it < σ'.next ∧ (∀ a, a < n0 → σ'.mem.get a = σ0.mem.get a) ∧ rg = [(0, .yld (n0 + 1)), (6, .ptr it 0)]

theorem appseq_c {σ : St} {b1 mp clock : Nat} {ents : List MEnt} {xs : List (ByteArray × Ln)} (hb : σ.mem.get b1 = some (.cells 1 [.map mp])) (hm : σ.mem.get mp = some (.map clock ents)) (hb1 : b1 < σ.next) (hmp : mp < σ.next) (hs : ∀ e ∈ ents, e.1 < clock) (hn : (ents.map (·.1)).Nodup) (hx : All2 VLn ents xs) (hl : ents.length ≤ 10000)
    (Q : AVal → St → Prop) (hQ : ∀ v ys σ', ys.Perm xs → GSl σ.next σ' v ys → Grow σ σ' → Q v σ') : ACall Tryd.prog 53 [.nilsl, .fn 47 [] [.ptr b1 0]] σ Q := by
  refine ACall.of_compF hmx (fun a w => Tryd.call53 a w) Tryd.func53 cf53 (n := 2) (by decide) rfl ?_
  simp [ac53, rs53, lk_cons]
  intro lp hlp1 hlp2
  refine ACall.of_compF hmx (fun a w => Tryd.call47 a w) Tryd.func47 cf47 (n := 2) (by decide) rfl ?_
  have z1 : ¬ b1 = σ.next := by omega
  have z2 : ¬ b1 = σ.next + 1 := by omega
  have z3 : ¬ mp = σ.next := by omega
  have z4 : ¬ mp = σ.next + 1 := by omega
  simp [ac47, rs47, lk_cons, hb, hm, z1, z2, z3, z4]
  refine wp_loop (ApJ σ.next (σ.next + 1 + 1) b1 mp clock ents lp σ) (leftE [] ents) ?_ ?_
  · refine ⟨[], [], .nilsl, rfl, by simp [leftE, List.countP_le_length], List.nodup_nil, fun e he => (by cases he), trivial, by simp, by simp [show ¬ σ.next + 1 = σ.next + 1 + 1 by omega], by simp [show ¬ σ.next = σ.next + 1 by omega, show ¬ σ.next = σ.next + 1 + 1 by omega], .inl ⟨rfl, rfl⟩, by simp, fun a ha => by simp [show ¬ a = σ.next by omega, show ¬ a = σ.next + 1 by omega, show ¬ a = σ.next + 1 + 1 by omega], rfl⟩
  · rintro mm rg σ' ⟨V, ys, ov, rfl, hvl, hv1, hv2, hv3, g1, g2, g3, g4, g5, g6, rfl⟩
    have q1 : mp < σ.next := hmp
    obtain ⟨L, n1, n2⟩ := next_all g1 ((g6 mp hmp).trans hm) hs
    simp [lk_cons, ↓n1]
    intro p1 p2 hp
    rcases n2 _ hp with ⟨he, hall⟩ | ⟨e, he, hne, hpe⟩
    · cases he
      have hperm := walked hn hv1 hv2 hall
      obtain ⟨zs, hz1, hz2⟩ := perm_ln hperm hx
      have hyz : ys = zs := vln_uniq hv3 hz1
      subst hyz
      simp [lk_cons, g2, g3, hlp1, hlp2, afterQ]
      refine hQ ov ys _ hz2 (g4.frame' (Nat.le_refl _) (by omega) fun a ha _ => by simp [show ¬ a = σ.next + 1 by omega]) ⟨by simp; omega, fun a ha => by simp [show ¬ a = σ.next + 1 by omega]; exact g6 a ha⟩
    · cases hpe
      have el := entry_last (σ := ⟨σ'.mem.set (σ.next + 1 + 1) (.iter (some mp) clock (V.map (·.1) ++ [e.1]) clock), σ'.next⟩) (it := σ.next + 1 + 1) (mp := mp) (clock := clock) (S := V.map (·.1)) (by simp) (by simp [show ¬ mp = σ.next + 1 + 1 by omega, g6 mp hmp, hm]) hn he
      obtain ⟨j, hj⟩ := List.getElem?_of_mem he
      obtain ⟨x, hx1, hx2⟩ := hx.get hj
      simp only [VLn, rwL] at hx2
      have hyl : ys.length ≤ 100000 := by have := hv3.len; omega
      rw [hx2] at el
      simp [lk_cons, ↓el, storeL]
      refine ⟨fun v σ3 => v = .bool true ∧ ∃ ov', σ3.mem.get σ.next = some (.cells 1 [ov']) ∧ GSl (σ.next + 1 + 1 + 1) σ3 ov' (ys ++ [x]) ∧ σ3.mem.get (σ.next + 1) = some (.loop lp) ∧ σ3.mem.get (σ.next + 1 + 1) = some (.iter (some mp) clock (V.map (·.1) ++ [e.1]) clock) ∧ σ'.next ≤ σ3.next ∧ ∀ a, a < σ.next → σ3.mem.get a = σ.mem.get a, ?_, ?_⟩
      · have w1 : ¬ σ.next = σ'.next := by omega
        have w2 : ¬ σ.next + 1 = σ'.next := by omega
        have w3 : ¬ σ.next = σ'.next + 1 := by omega
        have w4 : ¬ σ.next = σ.next + 1 + 1 := by omega
        have w5 : ¬ σ.next = σ'.next + 1 + 1 := by omega
        have v1 : ¬ σ'.next = σ.next := by omega
        have v2 : ¬ σ'.next = σ.next + 1 := by omega
        have v3 : ¬ σ'.next + 1 = σ.next := by omega
        have v4 : ¬ σ.next + 1 = σ'.next + 1 + 1 := by omega
        have v5 : ¬ σ.next + 1 + 1 = σ'.next := by omega
        have v6 : ¬ σ.next + 1 + 1 = σ'.next + 1 := by omega
        have v7 : ¬ σ.next + 1 = σ'.next + 1 := by omega
        obtain ⟨w, ρ', e1, e2, e3, e4⟩ := gsl_app (x := x) (b := σ'.next + 1 + 1) (ρ := ⟨((((((σ'.mem.set (σ.next + 1 + 1) (.iter (some mp) clock (V.map (·.1) ++ [e.1]) clock)).set σ'.next (.cells 5 [.str ⟨#[]⟩, .int .u64 0, .int .u64 0, .int .u64 0, .int .u64 0])).set σ'.next (.cells 5 [.str x.1, u64 (x.2.1 : Int), u64 (x.2.2.1 : Int), u64 (x.2.2.2.1 : Int), u64 (x.2.2.2.2 : Int)])).set (σ'.next + 1) (.cells 5 [.str ⟨#[]⟩, .int .u64 0, .int .u64 0, .int .u64 0, .int .u64 0])).set (σ'.next + 1) (.cells 5 [.str x.1, u64 (x.2.1 : Int), u64 (x.2.2.1 : Int), u64 (x.2.2.2.1 : Int), u64 (x.2.2.2.2 : Int)])).set (σ.next + 1) (.loop { lp with state := .busy })).set (σ'.next + 1 + 1) (.cells 5 [.str x.1, u64 (x.2.1 : Int), u64 (x.2.2.1 : Int), u64 (x.2.2.2.1 : Int), u64 (x.2.2.2.2 : Int)]), σ'.next + 1 + 1 + 1⟩) g4 (by simp; omega) (fun a ha hb => by simp [show ¬ a = σ.next + 1 by omega, show ¬ a = σ.next + 1 + 1 by omega, show ¬ a = σ'.next by omega, show ¬ a = σ'.next + 1 by omega, show ¬ a = σ'.next + 1 + 1 by omega]) hyl (by simp [rwL]) (by simp; omega) (by omega)
        simp [roundY, bindP, lk_cons, storeL, w1, w2, w3, w4, w5, v1, v2, v3, v4, v5, v6, v7, g2, g3, fillL, repL, ↓e1]
        have m0 : ρ'.mem.get σ.next = some (.cells 1 [ov]) := by
          rw [e4 _ (by simp; omega) fun o ho => by have := g4.lo ho; omega]
          simp [w1, w2, w3, w4, w5, v1, v2, v3, v4, v5, v6, v7, g3]
          all_goals omega
        have m1 : ρ'.mem.get (σ.next + 1) = some (.loop { lp with state := .busy }) := by
          rw [e4 _ (by simp; omega) fun o ho => by have := g4.lo ho; omega]
          simp [v4]
          all_goals omega
        have m2 : ρ'.mem.get (σ.next + 1 + 1) = some (.iter (some mp) clock (V.map (·.1) ++ [e.1]) clock) := by
          rw [e4 _ (by simp; omega) fun o ho => by have := g4.lo ho; omega]
          simp [v5, v6, w2, show ¬ σ.next = σ'.next by omega]
        simp [m0, e2.one, storeL, roundQ, m1, m2, lk_cons]
        refine ⟨e2.frame (by simp) fun a ha hb => by simp [show ¬ a = σ.next + 1 by omega, show ¬ a = σ.next by omega], by omega, by rw [e3]; simp; omega, fun a ha => ?_⟩
        simp [show ¬ a = σ.next + 1 by omega, show ¬ a = σ.next by omega]
        rw [e4 _ (by simp; omega) fun o ho => by have := g4.lo ho; omega]
        simp [show ¬ a = σ.next + 1 by omega, show ¬ a = σ.next + 1 + 1 by omega, show ¬ a = σ'.next by omega, show ¬ a = σ'.next + 1 by omega, show ¬ a = σ'.next + 1 + 1 by omega]
        exact g6 a ha
      · rintro v σ3 ⟨rfl, ov', k1, k2, k3, k4, k5, k6⟩
        simp [lk_cons]
        refine ⟨leftE ((V ++ [e]).map (·.1)) ents, by rw [List.map_append]; exact leftE_lt he hne, V ++ [e], ys ++ [x], ov', rfl, by rw [List.map_append, List.length_append]; have := leftE_lt he hne; simp only [List.map_cons, List.map_nil, List.length_cons, List.length_nil]; omega, ?_, ?_, All2.snoc (R := VLn) hx2 hv3, by simpa using k4, k3, k1, k2, by omega, k6, rfl⟩
        · rw [List.map_append, List.nodup_append]
          exact ⟨hv1, by simp, fun a ha b hb e => by simp at hb; subst hb; subst e; exact hne ha⟩
        · intro y hy
          rcases List.mem_append.1 hy with hy | hy
          · exact hv2 y hy
          · rw [List.mem_singleton.1 hy]; exact he
end Go.Proofs.YtieieknhhfallaaDoor.AM

/- All lines of a table, by their names. -/
namespace Go.Proofs.YtieieknhhfallaaDoor.AM
open Go.RowKit
open Go.Sort hiding Below ahead
open Go.Shelf
set_option maxRecDepth 100000
set_option linter.unusedVariables false
set_option linter.unusedSimpArgs false

def ordS (a b : ByteArray) : Int := if lessB a b then -1 else if a = b then 0 else 1
theorem ordS_lt {a b : ByteArray} : ordS a b < 0 ↔ lessB a b = true := by
  unfold ordS
  cases h : lessB a b with
  | true => simp
  | false =>
    by_cases he : a = b
    · simp [he]
    · simp [he]
theorem baEq (a b : ByteArray) : (a.toList == b.toList) = decide (a = b) := by
  have h := strEq a b
  simp only [abinS, Option.some.injEq, AVal.bool.injEq] at h
  exact h
theorem nanS_c (a : ByteArray) (σ : St) (Q : AVal → St → Prop) (h : Q (.bool false) σ) : ACall Tryd.prog 48 [.str a] σ Q := by
  refine ACall.of_compF hmx (fun a w => Tryd.call48 a w) Tryd.func48 cf48 (n := 1) (by decide) rfl ?_
  have e : abinS .neq a a = some (.bool false) := by simp [abinS]
  simp [ac48, rs48, lk_cons, e]
  exact h
theorem cmpS_c (a b : ByteArray) (σ : St) (Q : AVal → St → Prop) (h : Q (i64 (ordS a b)) σ) : ACall Tryd.prog 36 [.str a, .str b] σ Q := by
  refine ACall.of_compF hmx (fun a w => Tryd.call36 a w) Tryd.func36 cf36 (n := 2) (by decide) rfl ?_
  simp [ac36, rs36, lk_cons]
  refine nanS_c _ _ _ ?_
  simp [lk_cons]
  refine nanS_c _ _ _ ?_
  have e1 := strLss a b
  have e2 : abinS .gtr a b = some (.bool !(lessB a b || decide (a = b))) := by simp only [abinS, bLess, baEq]
  unfold ordS at h
  cases hl : lessB a b with
  | true =>
    rw [hl] at h e1 e2
    simp [lk_cons, e1]
    simpa using h
  | false =>
    rw [hl] at h e1 e2
    by_cases he : a = b
    · rw [decide_eq_true he] at e2
      simp [lk_cons, e1, e2]
      simpa [he] using h
    · rw [decide_eq_false he] at e2
      simp [lk_cons, e1, e2]
      simpa [he] using h
def ordL (x y : ByteArray × Ln) : Int := ordS x.1 y.1
theorem swoL : SWO (ltOf ordL) where
  irrefl x := by simp only [ltOf, ordL, ordS_lt, decide_eq_false_iff_not, lessB_irrefl]; simp
  trans x y z h1 h2 := by simp only [ltOf, decide_eq_true_eq, ordL, ordS_lt] at *; exact lessB_trans h1 h2
  ntrans x y z h1 h2 := by
    simp only [ltOf, decide_eq_false_iff_not, ordL, ordS_lt, Bool.not_eq_true] at *
    exact lessB_ntrans h1 h2
theorem lncmp_c (x y : ByteArray × Ln) (σ : St) (Q : AVal → St → Prop) (h : Q (i64 (ordL x y)) σ) : ACall Tryd.prog 35 [.agg (rwL.a x), .agg (rwL.a y)] σ Q := by
  refine ACall.scrub ?_
  refine ACall.of_compF hmx (fun a w => Tryd.call35 a w) Tryd.func35 cf35 (n := 2) (by decide) rfl ?_
  simp [ac35, rs35, lk_cons, rwL]
  refine cmpS_c _ _ _ _ ?_
  simp [lk_cons]
  exact ⟨fun a ha => by simp [show ¬ a = σ.next by omega, show ¬ a = σ.next + 1 by omega], h⟩
def lnRow : RowOf (ByteArray × Ln) 5 where
  a := rwL.a
  c x := [.string x.1, .int .u64 (x.2.1 : Int), .int .u64 (x.2.2.1 : Int), .int .u64 (x.2.2.2.1 : Int), .int .u64 (x.2.2.2.2 : Int)]
  la _ := rfl
  lc _ := rfl
  rel x i v u h1 h2 ρ I u' := by
    match i with
    | 0 => simp [rwL] at h1 h2; subst h1; subst h2; simp [VRel]
    | 1 => simp [rwL] at h1 h2; subst h1; subst h2; simp [VRel]
    | 2 => simp [rwL] at h1 h2; subst h1; subst h2; simp [VRel]
    | 3 => simp [rwL] at h1 h2; subst h1; subst h2; simp [VRel]
    | 4 => simp [rwL] at h1 h2; subst h1; subst h2; simp [VRel]
    | i + 5 => simp [rwL] at h1
  one x := rfl
  onec x v h := by simp at h; rcases h with rfl | rfl | rfl | rfl | rfl <;> rfl
theorem rows_ln (l : Tbl) : rowsA lnRow l = rws rwL l := rfl
theorem sortl_c {σ : St} {a : Nat} {l : Tbl} (hne : l ≠ []) (hl : l.length ≤ 100000) (hm : σ.mem.get a = some (.cells 5 (rws rwL l))) (Q : AVal → St → Prop)
    (hQ : ∀ l', l'.Perm l → RisL l' → Q (.tup []) ⟨σ.mem.set a (.cells 5 (rws rwL l')), σ.next⟩) : ACall Tryd.prog 46 [.sl a 0 l.length l.length false, .fn 35 [] []] σ Q := by
  have h := sortf_calls Tryd.sortLn lnRow (by decide) (fun w => by kernel_rfl) (fun w => by kernel_rfl) swoL (fun a w => Tryd.call35 a w) (fun x y => lncmp_c x y _ _ rfl) (fun a w => Tryd.call46 a w) (σ := σ) (a := a) (cap := l.length) (t := false) (post := []) hne (by omega) (by simpa [rows_ln] using hm) Q (fun l' h1 h2 => by
    have := hQ l' h1 fun i j x y hij hx hy => by
      have := h2 i j x y hij hx hy
      simp only [ordL, ordS_lt, Bool.not_eq_true] at this
      exact this
    simpa [rows_ln] using this)
  exact h
theorem sortl_nil (σ : St) (fv : AVal) (Q : AVal → St → Prop) (hQ : Q (.tup []) σ) : ACall Tryd.prog 46 [.nilsl, fv] σ Q := by
  refine ACall.ofCalls (fun a w => Tryd.call46 a w) fun B w0 ρ I w cargs rl hsz hargs => ?_
  obtain ⟨u0, h0, v0⟩ := hargs.get 0 _ rfl
  obtain ⟨u1, h1, v1⟩ := hargs.get 1 _ rfl
  simp only [VRel] at v0
  subst v0
  have hca : cargs = #[.slice none 0 0, u1] := by
    apply Array.ext_getElem?
    intro i
    have hs : cargs.size = 2 := hsz
    match i with
    | 0 => exact h0
    | 1 => exact h1
    | i + 2 => rw [Array.getElem?_eq_none (by omega), Array.getElem?_eq_none (by simp)]
  subst hca
  refine (AnyF.slices_SortFunc_none { Tryd.sortLn with } none 0 u1 w).mono ?_
  rintro e w' ⟨rfl, rfl⟩
  exact ⟨.tup [], σ, ρ, I, .tuple #[], rfl, by simp only [VRel]; exact ⟨_, rfl, rfl, trivial⟩, rl, Ext.refl _ _ _, hQ⟩
theorem vln_of : ∀ {ents : List MEnt} {T : Tbl}, All2 EntL ents T → All2 VLn ents T := fun h => h.imp fun _ _ h => h.2
/-- All. -/
theorem all_c {σ : St} {t mp : Nat} {T : Tbl} (h : TRep σ t mp T) (hl : T.length ≤ 10000) (Q : AVal → St → Prop)
    (hQ : ∀ v ys σ' b', ys.Perm T → RisL ys → GS rwL σ' v ys b' → (∀ x, b' = some x → σ.next ≤ x) → Grow σ σ' → Q v σ') : ACall Tryd.prog 21 [.ptr t 0] σ Q := by
  refine ACall.of_compF hmx (fun a w => Tryd.call21 a w) Tryd.func21 cf21 (n := 1) (by decide) rfl ?_
  have hh := h.head
  have hlt := h.lt
  obtain ⟨clock, ents, hm, ha, hs, hd⟩ := h.map
  have hle := ha.len
  simp [ac21, rs21, lk_cons, hh]
  refine ACall.of_compF hmx (fun a w => Tryd.call34 a w) Tryd.func34 cf34 (n := 1) (by decide) rfl ?_
  simp [ac34, rs34, lk_cons]
  refine ACall.of_compF hmx (fun a w => Tryd.call33 a w) Tryd.func33 cf33 (n := 2) (by decide) rfl ?_
  simp [ac33, rs33, lk_cons]
  refine ACall.of_compF hmx (fun a w => Tryd.call45 a w) Tryd.func45 cf45 (n := 1) (by decide) rfl ?_
  simp [ac45, rs45, lk_cons]
  refine appseq_c (b1 := σ.next) (mp := mp) (clock := clock) (ents := ents) (xs := T) (by simp) (by simp [show ¬ mp = σ.next by omega, hm]) (by simp) (by simp; omega) hs hd (vln_of ha) (by omega) _ fun v ys σ' p1 p2 p3 => ?_
  have hg : Grow σ σ' := ⟨by have := p3.1; simp at this; omega, fun a ha => by rw [p3.2 a (by simp; omega)]; simp [show ¬ a = σ.next by omega]⟩
  have pl := p1.length_eq
  simp [lk_cons]
  rcases p2 with ⟨rfl, rfl⟩ | ⟨o, rfl, q2, q3, q4, q5⟩
  · refine sortl_nil _ _ _ ?_
    simp [lk_cons]
    exact hQ _ [] _ none p1 (fun i j x y _ h => by simp at h) (GS.nil _) (by simp) hg
  · simp at q2
    refine sortl_c (by intro e; subst e; simp at q5) (by omega) q4 _ fun l' s1 s2 => ?_
    have sl := s1.length_eq
    simp [lk_cons]
    refine hQ _ l' _ (some o) (s1.trans p1) s2 (.inr ⟨o, false, rfl, by rw [sl], q3, by simp⟩) (fun x hx => by cases hx; omega) ⟨hg.1, fun a ha => ?_⟩
    simp [show ¬ a = o by omega]
    exact hg.2 a ha
end Go.Proofs.YtieieknhhfallaaDoor.AM

/- The example of chapter 115 is as it should be. -/
namespace Go.Proofs.YtieieknhhfallaaDoor.AM
set_option maxRecDepth 100000
set_option linter.unusedVariables false
set_option linter.unusedSimpArgs false

def tabL : TabL := [(6, ac6, rs6, 0), (7, ac7, rs7, 0), (9, ac9, rs9, 3), (10, ac10, rs10, 4), (16, ac16, rs16, 1), (20, ac20, rs20, 2)]
theorem tabOk : TabOk Tryd.prog (look tabL) := by
  unfold tabL
  refine tab_cons ?_ (fun a w => Tryd.call6 a w) Tryd.func6 cf6 (by decide)
  refine tab_cons ?_ (fun a w => Tryd.call7 a w) Tryd.func7 cf7 (by decide)
  refine tab_cons ?_ (fun a w => Tryd.call9 a w) Tryd.func9 cf9 (by decide)
  refine tab_cons ?_ (fun a w => Tryd.call10 a w) Tryd.func10 cf10 (by decide)
  refine tab_cons ?_ (fun a w => Tryd.call16 a w) Tryd.func16 cf16 (by decide)
  refine tab_cons ?_ (fun a w => Tryd.call20 a w) Tryd.func20 cf20 (by decide)
  exact tab_nil hmx

def runOk (x : Option (AVal × St)) : Bool := match x with
  | some (.bool true, _) => true
  | _ => false
theorem awake_run : runOk (callT (look tabL) 300 20 6 [] σ0) = true := by kernel_rfl
theorem awake (σ : St) (Q : AVal → St → Prop) (hq : Q (.bool true) σ) : ACall Tryd.prog 6 [] σ Q := by
  refine ACall.frame ?_ rfl
  have h := awake_run
  unfold runOk at h
  split at h
  · rename_i σ hs; exact ACall.of_run tabOk 300 20 hs ⟨rfl, hq⟩
  · cases h
end Go.Proofs.YtieieknhhfallaaDoor.AM

/- A table written; Last; few. -/
namespace Go.Proofs.YtieieknhhfallaaDoor.AM
set_option maxRecDepth 100000
set_option linter.unusedVariables false
set_option linter.unusedSimpArgs false

def W1J (w : Nat) (v1 : AVal) (ys : Tbl) (σ0 : St) (mm : Nat) (rg : Regs) (σ' : St) : Prop := ∃ (i : Nat) (v2 : AVal) (b2 : Option Nat), mm = ys.length - i ∧ i ≤ ys.length ∧ GS rwL σ' v2 (dn (ys.take i)) b2 ∧ (∀ x, b2 = some x → σ0.next ≤ x) ∧ Grow σ0 σ' ∧ rg = [(1, .ptr w 0), (4, v2), (10, v1), (11, i64 (ys.length : Nat)), (12, i64 i)]
def W2J (w : Nat) (v2 : AVal) (l : Tbl) (pre : List UInt8) (σ0 : St) (mm : Nat) (rg : Regs) (σ' : St) : Prop := ∃ (i : Nat) (b : Option Nat), mm = l.length - i ∧ i ≤ l.length ∧ WB σ' w (pre ++ lnsB (l.take i)) b ∧ WStp w none b σ0 σ' ∧ rg = [(1, .ptr w 0), (29, v2), (30, i64 (l.length : Nat)), (31, i64 i)]
set_option maxHeartbeats 2000000 in
theorem wwrite_c {σ : St} {t mp w : Nat} {T : Tbl} (h : TRep σ t mp T) (hw : WB σ w [] none) (hl : T.length ≤ 200) (hok : ∀ x ∈ T, LnOk x) (Q : AVal → St → Prop)
    (hQ : ∀ ys σ' b', ys.Perm T → RisL ys → WB σ' w (encT ys) b' → WStp w none b' σ σ' → Q (.tup []) σ') : ACall Tryd.prog 22 [.ptr t 0, .ptr w 0] σ Q := by
  refine ACall.of_compF hmx (fun a w => Tryd.call22 a w) Tryd.func22 cf22 (n := 2) (by decide) rfl ?_
  simp [ac22, rs22, lk_cons]
  refine all_c h (by omega) _ fun v1 ys σ1 b1 p1 p2 p3 p4 p5 => ?_
  have hyl := p1.length_eq
  have hlen1 := p3.len
  have hyok : ∀ x ∈ ys, LnOk x := fun x hx => hok x (p1.subset hx)
  simp [lk_cons, ↓hlen1]
  refine wp_loop (W1J w v1 ys σ1) ys.length ?_ ?_
  · exact ⟨0, .nilsl, none, rfl, Nat.zero_le _, by simpa [dn] using GS.nil (R := rwL) σ1, by simp, Grow.refl _, by simp [lk_cons]⟩
  · rintro mm rg σ2 ⟨i, v2, b2, rfl, hi, g1, g2, g3, rfl⟩
    have gn := g3.1
    by_cases hc : i < ys.length
    · obtain ⟨x, hx⟩ : ∃ x, ys[i]? = some x := ⟨_, List.getElem?_eq_getElem hc⟩
      have w1 : IntKind.i64.wrap ((i : Int) + 1) = ((i + 1 : Nat) : Int) := by rw [IntWalk.i64_in] <;> omega
      have htk : ys.take (i + 1) = ys.take i ++ [x] := by rw [List.take_add_one, hx]; rfl
      have row : ((rws rwL ys).drop (i * 5)).take 5 = [.str x.1, u64 (x.2.1 : Int), u64 (x.2.2.1 : Int), u64 (x.2.2.2.1 : Int), u64 (x.2.2.2.2 : Int)] := rws_at rwL hx
      have k5 : i * 5 + 5 ≤ (rws rwL ys).length := by rw [rws_len]; omega
      obtain ⟨o, ho1, ho2, m1, i1⟩ := p3.idx hc
      have m2 := (g3.2 o ho2).trans m1
      have hdl := dn_len (ys.take i)
      rw [List.length_take] at hdl
      by_cases hd : x.2.2.1 = 0
      · have hd' : ¬ (0 : Int) < (x.2.2.1 : Int) := by omega
        have hd2 : ¬ 0 < x.2.2.1 := by omega
        simp [lk_cons, hc, ↓i1, m2, row, k5, storeL, hd, hd', hd2, w1]
        refine ⟨ys.length - (i + 1), by omega, i + 1, v2, b2, rfl, by omega, ?_, g2, ⟨by simp; omega, fun a ha => by simp [show ¬ a = σ2.next by omega]; exact g3.2 a ha⟩, rfl⟩
        rw [htk, dn_snoc, if_pos hd, List.append_nil]
        exact g1.keep (by simp) fun a ha _ => by simp [show ¬ a = σ2.next by omega]
      · have hd' : (0 : Int) < (x.2.2.1 : Int) := by omega
        have hd2 : 0 < x.2.2.1 := by omega
        have hs2 : GS rwL ⟨((σ2.mem.set σ2.next (.cells 5 [.str ⟨#[]⟩, .int .u64 0, .int .u64 0, .int .u64 0, .int .u64 0])).set σ2.next (.cells 5 [.str x.1, u64 (x.2.1 : Int), u64 (x.2.2.1 : Int), u64 (x.2.2.2.1 : Int), u64 (x.2.2.2.2 : Int)])).set (σ2.next + 1) (.cells 5 [.str x.1, u64 (x.2.1 : Int), u64 (x.2.2.1 : Int), u64 (x.2.2.2.1 : Int), u64 (x.2.2.2.2 : Int)]), σ2.next + 1 + 1⟩ v2 (dn (ys.take i)) b2 := g1.keep (by simp; omega) fun a ha _ => by simp [show ¬ a = σ2.next by omega, show ¬ a = σ2.next + 1 by omega]
        obtain ⟨σ', f1, f2, f3, f4⟩ := gs_app1 hs2 (nb := σ2.next + 1) (by_ := 48) (t := true) (x := x) (by decide) (by simp [rwL]) (fun e => by have := g1.lt e; omega) (by omega) (by omega)
        simp [lk_cons, hc, ↓i1, m2, row, k5, hd2, w1, fillL, repL, storeL, ↓f1]
        refine ⟨ys.length - (i + 1), by omega, i + 1, _, some (σ2.next + 1 + 1), rfl, by omega, ?_, fun y hy => ?_, ⟨by rw [f3]; simp; omega, fun a ha => ?_⟩, rfl⟩
        · rw [htk, dn_snoc, if_neg hd]; exact f2
        · cases hy; omega
        · rw [f4 a (by simp; omega) (fun e => by have := g2 a e; omega)]
          simp [show ¬ a = σ2.next by omega, show ¬ a = σ2.next + 1 by omega]
          exact g3.2 a ha
    · have : i = ys.length := by omega
      subst this
      rw [List.take_length] at g1
      have hdl := dn_len ys
      have hdok : ∀ x ∈ dn ys, LnOk x := fun x hx => hyok x (List.mem_filter.1 hx).1
      have hlen2 := g1.len
      have w1 : IntKind.u8.wrap ((dn ys).length : Int) = (dn ys).length := by rw [IntWalk.u8_in] <;> omega
      have hw2 : WB σ2 w [] none := by
        obtain ⟨_, _, _, _, hwl⟩ := id hw
        exact hw.keep (by have := p5.1; omega) fun a ha _ => by rw [g3.2 a (by have := p5.1; omega), p5.2 a ha]
      have fin : ∀ σ' b', WB σ' w (encT ys) b' → WStp w none b' σ2 σ' → Q (.tup []) σ' := fun σ' b' q1 q2 => hQ ys σ' b' p1 p2 q1 ⟨by have := q2.next; have := p5.1; omega, fun x hx => by
        rcases q2.own x hx with e | e
        · cases e
        · have := p5.1; exact .inr (by omega), fun a ha hne _ => by rw [q2.keep a (by have := p5.1; omega) hne (by simp), g3.2 a (by have := p5.1; omega), p5.2 a ha]⟩
      have henc : encT ys = beN 1 (dn ys).length ++ lnsB (dn ys) := rfl
      simp [lk_cons, ↓hlen2, w1]
      rw [henc] at fin
      have how : ∀ o, b2 = some o → o ≠ w := fun o ho => by
        obtain ⟨_, _, _, _, hwl⟩ := id hw
        have := g2 o ho; have := p5.1; omega
      revert g1 hdl hdok hlen2 fin
      clear henc w1
      generalize dn ys = l
      intro g1 hdl hdok hlen2 fin
      refine wu8_c hw2 (by omega) (by simp) _ fun σ3 b3 q1 q2 => ?_
      simp only [List.nil_append] at q1
      simp [lk_cons, ↓hlen2]
      refine wp_loop (W2J w v2 l (beN 1 l.length) σ2) l.length ?_ ?_
      · exact ⟨0, b3, rfl, Nat.zero_le _, by simpa [lnsB] using q1, q2, by simp [lk_cons]⟩
      · rintro mm rg σ4 ⟨i, b4, rfl, hi, q4, s4, rfl⟩
        have gn4 := s4.next
        by_cases hc : i < l.length
        · obtain ⟨x, hx⟩ : ∃ x, l[i]? = some x := ⟨_, List.getElem?_eq_getElem hc⟩
          have w1 : IntKind.i64.wrap ((i : Int) + 1) = ((i + 1 : Nat) : Int) := by rw [IntWalk.i64_in] <;> omega
          have htk : l.take (i + 1) = l.take i ++ [x] := by rw [List.take_add_one, hx]; rfl
          have hxok := hdok x (List.mem_of_getElem? hx)
          obtain ⟨ok1, ok2, ok3, ok4, ok5⟩ := id hxok
          have row : ((rws rwL l).drop (i * 5)).take 5 = [.str x.1, u64 (x.2.1 : Int), u64 (x.2.2.1 : Int), u64 (x.2.2.2.1 : Int), u64 (x.2.2.2.2 : Int)] := rws_at rwL hx
          have k5 : i * 5 + 5 ≤ (rws rwL l).length := by rw [rws_len]; omega
          obtain ⟨o, ho1, ho2, m1, i1⟩ := g1.idx hc
          have m4 := (s4.keep o ho2 (how o ho1) (by simp)).trans m1
          have hbl : (beN 1 l.length ++ lnsB (l.take i)).length ≤ 500000 := by
            have := lnsB_len (T := l.take i) fun y hy => hdok y (List.mem_of_mem_take hy)
            rw [List.length_append, beN_len]
            rw [List.length_take] at this
            omega
          obtain ⟨_, _, hg4, _, hwl⟩ := id q4
          simp [lk_cons, hc, ↓i1, m4, row, k5, storeL]
          have q5 : WB ⟨(σ4.mem.set σ4.next (.cells 5 [.str ⟨#[]⟩, .int .u64 0, .int .u64 0, .int .u64 0, .int .u64 0])).set σ4.next (.cells 5 [.str x.1, u64 (x.2.1 : Int), u64 (x.2.2.1 : Int), u64 (x.2.2.2.1 : Int), u64 (x.2.2.2.2 : Int)]), σ4.next + 1⟩ w (beN 1 l.length ++ lnsB (l.take i)) b4 := q4.keep (by simp) fun a ha _ => by simp [show ¬ a = σ4.next by omega]
          have hb4 : b4 ≠ some σ4.next := fun e => by have := hg4.lt e; omega
          have hwn : ¬ σ4.next = w := by omega
          have s5 : WStp w b4 b4 σ4 ⟨(σ4.mem.set σ4.next (.cells 5 [.str ⟨#[]⟩, .int .u64 0, .int .u64 0, .int .u64 0, .int .u64 0])).set σ4.next (.cells 5 [.str x.1, u64 (x.2.1 : Int), u64 (x.2.2.1 : Int), u64 (x.2.2.2.1 : Int), u64 (x.2.2.2.2 : Int)]), σ4.next + 1⟩ := ⟨by simp, fun _ h => .inl h, fun a ha _ _ => by simp [show ¬ a = σ4.next by omega]⟩
          refine wtext_c q5 (by omega) (by omega) _ fun σ6 b6 q6 s6 => ?_
          have m6 : σ6.mem.get σ4.next = some (.cells 5 [.str x.1, u64 (x.2.1 : Int), u64 (x.2.2.1 : Int), u64 (x.2.2.2.1 : Int), u64 (x.2.2.2.2 : Int)]) := by rw [s6.keep _ (by simp) hwn hb4]; simp
          have n6 : b6 ≠ some σ4.next := fun e => by
            rcases s6.own _ e with e | e
            · exact hb4 e
            · simp at e; omega
          have gn6 := s6.next
          simp at gn6
          simp [lk_cons, m6]
          refine wu64_c q6 (n := x.2.2.1) (by simp [beN_len] at hbl ⊢; omega) _ fun σ7 b7 q7 s7 => ?_
          have m7 := (s7.keep σ4.next (by omega) hwn n6).trans m6
          have n7 : b7 ≠ some σ4.next := fun e => by
            rcases s7.own _ e with e | e
            · exact n6 e
            · omega
          have gn7 := s7.next
          simp [lk_cons, m7]
          refine wu64_c q7 (n := x.2.2.2.1) (by simp [beN_len] at hbl ⊢; omega) _ fun σ8 b8 q8 s8 => ?_
          have m8 := (s8.keep σ4.next (by omega) hwn n7).trans m7
          have gn8 := s8.next
          simp [lk_cons, m8]
          refine wu64_c q8 (n := x.2.2.2.2) (by simp [beN_len] at hbl ⊢; omega) _ fun σ9 b9 q9 s9 => ?_
          simp [lk_cons, w1]
          refine ⟨l.length - (i + 1), by omega, i + 1, b9, rfl, by omega, ?_, s4.trans (s5.trans (s6.trans (s7.trans (s8.trans s9)))), rfl⟩
          rw [htk, lnsB_snoc]
          simpa [lnB, List.append_assoc] using q9
        · have : i = l.length := by omega
          subst this
          rw [List.take_length] at q4
          simp [lk_cons]
          exact fin σ4 b4 q4 s4
theorem tbytes_c {σ : St} {t mp : Nat} {T : Tbl} (h : TRep σ t mp T) (hl : T.length ≤ 200) (hok : ∀ x ∈ T, LnOk x) (Q : AVal → St → Prop)
    (hQ : ∀ v ys σ' b', ys.Perm T → RisL ys → GS rwB σ' v (encT ys) b' → (∀ x, b' = some x → σ.next ≤ x) → Grow σ σ' → Q v σ') : ACall Tryd.prog 11 [.ptr t 0] σ Q := by
  refine ACall.of_compF hmx (fun a w => Tryd.call11 a w) Tryd.func11 cf11 (n := 1) (by decide) rfl ?_
  have hlt := h.lt
  simp [ac11, rs11, lk_cons, fillL]
  refine wwrite_c (w := σ.next) (h.frame (fun a ha => by simp [show ¬ a = σ.next by omega]) (by simp)) ⟨.nilsl, by simp, GS.nil _, by simp, by simp⟩ hl hok _ fun ys σ1 b1 p1 p2 p3 p4 => ?_
  simp [lk_cons]
  have hel : (encT ys).length ≤ 1000000000 := by
    have h1 := dn_len ys
    have h2 := p1.length_eq
    have := lnsB_len (T := dn ys) fun x hx => hok x (p1.subset (List.mem_filter.1 hx).1)
    simp only [encT, List.length_append, beN_len]
    omega
  refine wdone_c p3 hel _ fun σ2 v b2 q1 q2 q3 => ?_
  simp [lk_cons]
  have n1 := p4.next
  simp at n1
  exact hQ v ys σ2 b2 p1 p2 q1 (fun x hx => by have := q2 x hx; omega) ⟨by have := q3.1; omega, fun a ha => by
    rw [q3.2 a (by omega), p4.keep a (by simp; omega) (by omega) (by simp)]; simp [show ¬ a = σ.next by omega]⟩
end Go.Proofs.YtieieknhhfallaaDoor.AM

/- Last; few; the acts. -/
namespace Go.Proofs.YtieieknhhfallaaDoor.AM
open Go.RowKit
set_option maxRecDepth 100000
set_option linter.unusedVariables false
set_option linter.unusedSimpArgs false

theorem last_c {σ : St} {t mp : Nat} {T : Tbl} (h : TRep σ t mp T) (n : ByteArray) (Q : AVal → St → Prop)
    (h1 : lkB T n = none → Q (.tup [lnV ⟨#[]⟩ (0, 0, 0, 0), .bool false]) σ) (h2 : ∀ x, lkB T n = some x → Q (.tup [lnV n x, .bool true]) σ) : ACall Tryd.prog 20 [.ptr t 0, .str n] σ Q := by
  refine ACall.scrub ?_
  refine ACall.of_compF hmx (fun a w => Tryd.call20 a w) Tryd.func20 cf20 (n := 2) (by decide) rfl ?_
  have hh := h.head
  have hlt := h.lt
  obtain ⟨clock, ents, hm, ha, hs, hd⟩ := h.map
  have z1 : ¬ t = σ.next := by omega
  have z2 : ¬ mp = σ.next := by omega
  have z3 : ¬ σ.next = σ.next + 1 := by omega
  rcases findS (n := n) ha with ⟨f1, f2⟩ | ⟨i, x, f1, f2, f3⟩
  · have hq := h1 f2
    simp [lnV] at hq
    simp [ac20, rs20, lk_cons, hh, hm, f1, keyIs, shapeOk, kShape, storeL, z1, z2, z3]
    exact ⟨fun a ha => by simp [show ¬ a = σ.next by omega, show ¬ a = σ.next + 1 by omega], hq⟩
  · have hq := h2 x f2
    simp [lnV] at hq
    simp [ac20, rs20, lk_cons, hh, hm, f1, keyIs, shapeOk, kShape, storeL, z1, z2, z3, lnV]
    exact ⟨fun a ha => by simp [show ¬ a = σ.next by omega, show ¬ a = σ.next + 1 by omega], hq⟩

structure DAct where
  k : Nat
  n : ByteArray
  q : Nat
  l : Nat
  e : Nat
  raw : Bool
abbrev drow (a : DAct) : List AVal := [.int .u8 (a.k : Int), .str a.n, u64 (a.q : Int), u64 (a.l : Int), u64 (a.e : Int), .bool a.raw]
structure DAct.ok (a : DAct) : Prop where
  k : a.k < 256
  q : a.q < 18446744073709551616
  l : a.l < 18446744073709551616
  e : a.e < 18446744073709551616
def rwA : Rw DAct 6 := ⟨drow, fun _ => rfl, fun _ => rfl⟩
/-- What few makes of an act. -/
def fewA (a : DAct) : DAct := if a.raw then a else { a with q := a.q % 9, n := ⟨#[112, UInt8.ofNat (97 + a.n.size % 3)]⟩ }
theorem fewA_ok {a : DAct} (h : a.ok) (hn : a.n.size ≤ 200) : (fewA a).ok ∧ (fewA a).n.size ≤ 200 ∧ (fewA a).k = a.k := by
  unfold fewA
  split
  · exact ⟨h, hn, rfl⟩
  · exact ⟨⟨h.k, by have := h.q; show a.q % 9 < _; omega, h.l, h.e⟩, by show (2 : Nat) ≤ 200; omega, rfl⟩
theorem few_c (a : DAct) (hn : a.n.size ≤ 140737488355328) (σ : St) (Q : AVal → St → Prop) (h : Q (.agg (drow (fewA a))) σ) : ACall Tryd.prog 8 [.agg (drow a)] σ Q := by
  refine ACall.scrub ?_
  refine ACall.of_compF hmx (fun a w => Tryd.call8 a w) Tryd.func8 cf8 (n := 1) (by decide) rfl ?_
  have e1 : ¬ σ.next = σ.next + 1 := by omega
  have e2 : ¬ σ.next = σ.next + 1 + 1 := by omega
  cases hr : a.raw
  · have t1 : (a.q : Int).tmod 9 = ((a.q % 9 : Nat) : Int) := by rw [Int.tmod_eq_emod_of_nonneg (by omega)]; omega
    obtain ⟨r, hr3⟩ : ∃ r, a.n.size % 3 = r := ⟨_, rfl⟩
    have t2 : (a.n.size : Int).tmod 3 = (r : Int) := by rw [Int.tmod_eq_emod_of_nonneg (by omega)]; omega
    obtain ⟨c, hc⟩ : ∃ c, 97 + r = c := ⟨_, rfl⟩
    have w1 : IntKind.i64.wrap (97 + (r : Int)) = (c : Int) := by rw [IntWalk.i64_in] <;> omega
    have w2 : IntKind.u8.wrap (c : Int) = (c : Int) := by rw [IntWalk.u8_in]; omega
    have os : byteOfA (.int .u8 (c : Int)) = some (UInt8.ofNat c) := by simp [byteOfA]
    have ad : abinS .add ⟨#[112]⟩ ⟨#[UInt8.ofNat c]⟩ = some (.str ⟨#[112, UInt8.ofNat c]⟩) := by
      have hs : ¬ (((⟨#[112]⟩ : ByteArray).size + (⟨#[UInt8.ofNat c]⟩ : ByteArray).size : Nat) : Int) > IntKind.i64.max := by
        show ¬ ((2 : Nat) : Int) > IntKind.i64.max
        decide
      simp only [abinS, if_neg hs]
      rfl
    have hf : fewA a = { a with q := a.q % 9, n := ⟨#[112, UInt8.ofNat c]⟩ } := by rw [fewA, hr, hr3, hc]; rfl
    rw [hf] at h
    obtain ⟨q9, hq9⟩ : ∃ q9, a.q % 9 = q9 := ⟨_, rfl⟩
    rw [hq9] at t1 h
    simp [ac8, rs8, lk_cons, hr, fillL, repL, storeL, e1, e2, t1, t2, w1, w2, srcL, os, ad]
    simp [drow, hr] at h
    exact ⟨fun x hx => by simp [show ¬ x = σ.next by omega, show ¬ x = σ.next + 1 by omega, show ¬ x = σ.next + 1 + 1 by omega], h⟩
  · have hf : fewA a = a := by rw [fewA, hr]; rfl
    rw [hf] at h
    simp [drow, hr] at h
    simp [ac8, rs8, lk_cons, hr, fillL, repL, storeL, e1]
    exact ⟨fun x hx => by simp [show ¬ x = σ.next by omega, show ¬ x = σ.next + 1 by omega], h⟩
end Go.Proofs.YtieieknhhfallaaDoor.AM
