/- What the functions of this chapter give: their contracts over the machine. -/
import Derived.Test.YticefdfhcahlfaaDoorC121
import Derived.Test.YticefdfhcahlfaaDoorAm3
import Derived.Shelf.SlGeneric
import Derived.Ground.SlsfProg
import Derived.Shelf.SlSortCmp.NoneTotal
import Derived.Tactics
import Derived.Tactics2
import Derived.Defers
import Derived.Recover
import Derived.Laws.Pointers
namespace Go.Proofs.YticefdfhcahlfaaDoor.AM
set_option maxRecDepth 100000
set_option linter.unusedVariables false
set_option linter.unusedSimpArgs false
abbrev i64 (n : Int) : AVal := .int .i64 n
abbrev u64 (n : Int) : AVal := .int .u64 n
abbrev Ln := Nat × Nat × Nat × Nat
def lnV (n : ByteArray) (x : Ln) : AVal := .agg [.str n, u64 (x.1 : Int), u64 (x.2.1 : Int), u64 (x.2.2.1 : Int), u64 (x.2.2.2 : Int)]
abbrev Tbl := List (ByteArray × Ln)
def lkB : Tbl → ByteArray → Option Ln
  | [], _ => none
  | (k, x) :: T, n => if n = k then some x else lkB T n
def setB : Tbl → ByteArray → Ln → Tbl
  | [], n, y => [(n, y)]
  | (k, x) :: T, n, y => if n = k then (n, y) :: T else (k, x) :: setB T n y
def EntL (e : Entry) (p : ByteArray × Ln) : Prop := e.2.1 = .str p.1 ∧ e.2.2 = lnV p.1 p.2
theorem lkB_none {n : ByteArray} : ∀ {T : Tbl}, lkB T n = none ↔ n ∉ T.map (·.1)
  | [] => by simp [lkB]
  | (k, x) :: T => by
    have ih := lkB_none (n := n) (T := T)
    simp only [lkB, List.map_cons, List.mem_cons]
    by_cases h : n = k
    · simp [h]
    · rw [if_neg h, ih]; simp [h]
theorem setB_new {n : ByteArray} {y : Ln} : ∀ {T : Tbl}, lkB T n = none → setB T n y = T ++ [(n, y)]
  | [], _ => rfl
  | (k, x) :: T, h => by
    simp only [lkB] at h
    by_cases hk : n = k
    · rw [if_pos hk] at h; cases h
    · rw [if_neg hk] at h
      simp only [setB]
      rw [if_neg hk, setB_new h]; rfl
theorem setB_keys {n : ByteArray} {y x : Ln} : ∀ {T : Tbl}, lkB T n = some x → (setB T n y).map (·.1) = T.map (·.1)
  | [], h => by cases h
  | (k, z) :: T, h => by
    simp only [lkB] at h
    simp only [setB]
    by_cases hk : n = k
    · rw [if_pos hk]; simp [hk]
    · rw [if_neg hk] at h ⊢
      simp [setB_keys h]
theorem setB_nodup {n : ByteArray} {y : Ln} {T : Tbl} (h : (T.map (·.1)).Nodup) : ((setB T n y).map (·.1)).Nodup := by
  cases hl : lkB T n with
  | none =>
    rw [setB_new hl, List.map_append, List.nodup_append]
    refine ⟨h, by simp, ?_⟩
    rintro a ha b hb rfl
    simp at hb; subst hb
    exact lkB_none.1 hl ha
  | some x => rw [setB_keys hl]; exact h
theorem setB_get {n q : ByteArray} {y : Ln} : ∀ {T : Tbl}, lkB (setB T n y) q = if q = n then some y else lkB T q
  | [] => by simp [setB, lkB]
  | (k, x) :: T => by
    have ih := setB_get (n := n) (q := q) (y := y) (T := T)
    simp only [setB]
    by_cases hk : n = k
    · subst hk
      rw [if_pos rfl]
      simp only [lkB]
      by_cases hq : q = n
      · simp [hq]
      · simp [hq]
    · rw [if_neg hk]
      simp only [lkB, ih]
      by_cases hq : q = k
      · subst hq
        have : ¬ q = n := fun e => hk e.symm
        simp [this]
      · simp [hq]
theorem setB_len {n : ByteArray} {y : Ln} {T : Tbl} : (setB T n y).length = if lkB T n = none then T.length + 1 else T.length := by
  cases hl : lkB T n with
  | none => rw [setB_new hl]; simp
  | some x =>
    have := congrArg List.length (setB_keys (y := y) hl)
    simpa using this
theorem ba_beq (a b : ByteArray) : (a == b) = decide (a = b) := by
  have h : (a == b) = (a.data == b.data) := by
    cases a; cases b; rfl
  rw [h]
  by_cases hab : a = b
  · subst hab; simp
  · have : ¬ a.data = b.data := fun e => hab (ByteArray.ext e)
    simp [hab, this]
theorem keyS (a b : ByteArray) : keyEqA (.str a) (.str b) = some (decide (a = b)) := by
  simp only [keyEqA, keyEq, ba_beq]
theorem findS {n : ByteArray} : ∀ {ents : List Entry} {T : Tbl}, All2 EntL ents T → (findA (.str n) ents = some none ∧ lkB T n = none) ∨ ∃ i x, findA (.str n) ents = some (some (i, lnV n x)) ∧ lkB T n = some x ∧ ∀ y, All2 EntL (ents.modify i fun e => (e.1, .str n, lnV n y)) (setB T n y)
  | [], [], _ => .inl ⟨rfl, rfl⟩
  | (st, y, d) :: ents, (k, x) :: T, h => by
    obtain ⟨⟨hy, hd⟩, ht⟩ := h
    simp only at hy hd
    subst hy hd
    by_cases hnk : n = k
    · subst hnk
      refine .inr ⟨0, x, by simp only [findA, keyS, decide_true], by simp [lkB], fun y => ?_⟩
      simp only [List.modify_zero_cons, setB, if_true]
      exact ⟨⟨rfl, rfl⟩, ht⟩
    · have hf : keyEqA (.str n) (.str k) = some false := by rw [keyS, decide_eq_false hnk]
      rcases findS (n := n) ht with ⟨h1, h2⟩ | ⟨i, x1, h1, h2, h3⟩
      · exact .inl ⟨by simp only [findA]; rw [hf]; simp only; rw [h1]; rfl, by simp [lkB, hnk, h2]⟩
      · refine .inr ⟨i + 1, x1, by simp only [findA]; rw [hf]; simp only; rw [h1]; rfl, by simp [lkB, hnk, h2], fun y => ?_⟩
        simp only [List.modify_succ_cons, setB, if_neg hnk]
        exact ⟨⟨rfl, rfl⟩, h3 y⟩
  | [], _ :: _, h => h.elim
  | _ :: _, [], h => h.elim
structure TRep (σ : St) (t mp : Nat) (T : Tbl) : Prop where
  head : σ.mem.get t = some (.cells 1 [.map mp])
  map : ∃ clock ents, σ.mem.get mp = some (.map clock ents) ∧ All2 EntL ents T ∧ (∀ e ∈ ents, e.1 < clock) ∧ (ents.map (·.1)).Nodup
  keys : (T.map (·.1)).Nodup
  ne : t ≠ mp
  lt : t < σ.next ∧ mp < σ.next
theorem TRep.frame {σ σ' : St} {t mp : Nat} {T : Tbl} (h : TRep σ t mp T) (hm : ∀ a, a = t ∨ a = mp → σ'.mem.get a = σ.mem.get a) (hn : σ.next ≤ σ'.next) : TRep σ' t mp T :=
  ⟨by rw [hm t (.inl rfl)]; exact h.head, by rw [hm mp (.inr rfl)]; exact h.map, h.keys, h.ne, by have := h.lt; omega⟩
theorem stamps_modify (f : Entry → Entry) (hf : ∀ e, (f e).1 = e.1) : ∀ (ents : List Entry) (i : Nat), (ents.modify i f).map (·.1) = ents.map (·.1)
  | [], 0 => rfl
  | [], i + 1 => rfl
  | e :: es, 0 => by simp [hf]
  | e :: es, i + 1 => by simp [stamps_modify f hf es i]
theorem stamps_lt {ents : List Entry} {c : Nat} : (∀ e ∈ ents, e.1 < c) ↔ ∀ s ∈ ents.map (·.1), s < c := by simp
theorem tnew_c (σ : St) (Q : AVal → St → Prop) (h : ∀ t mp σ', TRep σ' t mp [] → σ.next ≤ σ'.next → (∀ a, a < σ.next → σ'.mem.get a = σ.mem.get a) → σ.next ≤ t ∧ σ.next ≤ mp → Q (.ptr t 0) σ') : ACall Tryd.prog 86 [] σ Q := by
  refine ACall.of_compF hmx (fun a w => Tryd.call86 a w) Tryd.func86 cf86 (n := 0) (by decide) rfl ?_
  simp [ac86, rs86, lk_cons, storeL, fillL]
  refine h (σ.next + 1) σ.next _ ⟨by simp, ⟨0, [], ?_, trivial, by simp, by simp⟩, by simp, by simp, ⟨Nat.lt_succ_self _, Nat.lt_succ_of_lt (Nat.lt_succ_self _)⟩⟩ (by simp; omega) (fun a ha => ?_) ⟨by omega, by omega⟩
  · simp
  · simp [show ¬ a = σ.next by omega, show ¬ a = σ.next + 1 by omega]
end Go.Proofs.YticefdfhcahlfaaDoor.AM

namespace Go.Proofs.YticefdfhcahlfaaDoor.AM
set_option maxRecDepth 100000
set_option linter.unusedVariables false
set_option linter.unusedSimpArgs false
theorem ba_list (a : ByteArray) : a = ⟨a.data.toList.toArray⟩ := by cases a; rfl
theorem strEq (a b : ByteArray) : abinS .eql a b = some (.bool (decide (a = b))) := by
  have h := str_eq a.data.toList b.data.toList
  rw [← ba_list, ← ba_list] at h
  rw [h]
  by_cases hab : a = b
  · subst hab; simp
  · have : ¬ a.data.toList = b.data.toList := fun e => hab (ByteArray.ext (Array.ext' e))
    simp [hab, this]
theorem ba_empty (n : ByteArray) : n = ⟨#[]⟩ ↔ n.size = 0 := by
  constructor
  · rintro rfl; rfl
  · intro h
    exact ByteArray.ext (Array.eq_empty_of_size_eq_zero h)
def Keep1 (mp : Nat) (σ σ' : St) : Prop := σ.next ≤ σ'.next ∧ ∀ a, a < σ.next → a ≠ mp → σ'.mem.get a = σ.mem.get a
def begC (T : Tbl) (n : ByteArray) (q : Nat) : Int :=
  if n.size = 0 ∨ 64 < n.size then 10 else if q = 0 then 2 else match lkB T n with
  | some x => if q ≤ x.2.1 then 40 else if q ≤ x.1 then 41 else 0
  | none => if 16 ≤ T.length then 14 else 0
def begT (T : Tbl) (n : ByteArray) (q : Nat) : Tbl := if begC T n q = 0 then setB T n (q, ((lkB T n).getD (0, 0, 0, 0)).2) else T
theorem begin_c {σ : St} {t mp : Nat} {T : Tbl} (h : TRep σ t mp T) (n : ByteArray) (hn : n.size ≤ 140737488355328) (q : Nat) (Q : AVal → St → Prop) (hQ : ∀ σ', TRep σ' t mp (begT T n q) → Keep1 mp σ σ' → Q (i64 (begC T n q)) σ') :
    ACall Tryd.prog 87 [.ptr t 0, .str n, u64 (q : Int)] σ Q := by
  refine ACall.of_compF hmx (fun a w => Tryd.call87 a w) Tryd.func87 cf87 (n := 3) (by decide) rfl ?_
  have hh := h.head
  have hlt := h.lt
  have hne := h.ne
  obtain ⟨clock, ents, hm, ha, hs, hd⟩ := h.map
  have hla := ha.len
  have z1 : ¬ t = σ.next := by omega
  have z2 : ¬ mp = σ.next := by omega
  have keep : ∀ b c : Blk, begT T n q = T → TRep ⟨(σ.mem.set σ.next b).set σ.next c, σ.next + 1⟩ t mp (begT T n q) ∧ Keep1 mp σ ⟨(σ.mem.set σ.next b).set σ.next c, σ.next + 1⟩ := fun b c hb => by
    rw [hb]
    exact ⟨h.frame (fun a ha => by simp [show ¬ a = σ.next by omega]) (by simp), ⟨by simp, fun a ha _ => by simp [show ¬ a = σ.next by omega]⟩⟩
  have b0 : begC T n q ≠ 0 → begT T n q = T := fun hc => by rw [begT, if_neg hc]
  have e0 := ba_empty n
  rcases findS (n := n) ha with ⟨f1, f2⟩ | ⟨i, x, f1, f2, f3⟩
  · by_cases he : n.size = 0
    · have he' := e0.2 he
      have hc : begC T n q = 10 := by rw [begC, if_pos (.inl he)]
      have hT := b0 (by rw [hc]; omega)
      rw [hc] at hQ
      simp [ac87, rs87, lk_cons, hh, hm, f1, keyIs, shapeOk, kShape, storeL, strEq, z1, z2, lnV, eq_true he']
      exact hQ _ (keep _ _ hT).1 (keep _ _ hT).2
    have he' : ¬ n = ⟨#[]⟩ := fun e => he (e0.1 e)
    by_cases h64 : 64 < n.size
    · have h64' : (64 : Int) < n.size := by omega
      have hc : begC T n q = 10 := by rw [begC, if_pos (.inr h64)]
      have hT := b0 (by rw [hc]; omega)
      rw [hc] at hQ
      simp [ac87, rs87, lk_cons, hh, hm, f1, keyIs, shapeOk, kShape, storeL, strEq, z1, z2, lnV, he', h64, h64']
      exact hQ _ (keep _ _ hT).1 (keep _ _ hT).2
    have h64' : ¬ (64 : Int) < n.size := by omega
    have hno : ¬ (n.size = 0 ∨ 64 < n.size) := by omega
    by_cases hq : q = 0
    · have hq' : (q : Int) = 0 := by omega
      have hc : begC T n q = 2 := by rw [begC, if_neg hno, if_pos hq]
      have hT := b0 (by rw [hc]; omega)
      rw [hc] at hQ
      simp [ac87, rs87, lk_cons, hh, hm, f1, keyIs, shapeOk, kShape, storeL, strEq, z1, z2, lnV, he', h64, h64', hq, hq']
      exact hQ _ (keep _ _ hT).1 (keep _ _ hT).2
    have hq' : ¬ (q : Int) = 0 := by omega
    by_cases hl : 16 ≤ T.length
    · have hl' : 16 ≤ ents.length := by omega
      have hl2 : (16 : Int) ≤ ents.length := by omega
      have hc : begC T n q = 14 := by rw [begC, if_neg hno, if_neg hq, f2]; simp [hl]
      have hT := b0 (by rw [hc]; omega)
      rw [hc] at hQ
      simp [ac87, rs87, lk_cons, hh, hm, f1, keyIs, shapeOk, kShape, storeL, strEq, z1, z2, lnV, he', h64, h64', hq, hq', hl', hl2]
      exact hQ _ (keep _ _ hT).1 (keep _ _ hT).2
    have hl' : ¬ 16 ≤ ents.length := by omega
    have hl2 : ¬ (16 : Int) ≤ ents.length := by omega
    have hc : begC T n q = 0 := by rw [begC, if_neg hno, if_neg hq, f2]; simp [hl]
    rw [hc] at hQ
    have hb : begT T n q = T ++ [(n, (q, 0, 0, 0))] := by rw [begT, if_pos hc, f2]; exact setB_new f2
    rw [hb] at hQ
    simp [ac87, rs87, lk_cons, hh, hm, f1, keyIs, shapeOk, kShape, storeL, strEq, z1, z2, lnV, he', h64, h64', hq, hq', hl', hl2]
    refine hQ _ ⟨by simp [z1, hne, hh], ⟨clock + 1, ents ++ [(clock, .str n, lnV n (q, 0, 0, 0))], by simp [lnV], All2.snoc ⟨rfl, rfl⟩ ha, ?_, ?_⟩, ?_, hne, by simp; omega⟩ ⟨by simp, fun a ha hx => by simp [show ¬ a = σ.next by omega, hx]⟩
    · intro e he
      rcases List.mem_append.1 he with he | he
      · have := hs e he; omega
      · simp at he; subst he; simp
    · rw [List.map_append, List.nodup_append]
      refine ⟨hd, by simp, ?_⟩
      rintro a ha b hb rfl
      simp at hb; subst hb
      have := stamps_lt.1 hs _ ha
      omega
    · rw [← setB_new (y := (q, 0, 0, 0)) f2]; exact setB_nodup h.keys
  · by_cases he : n.size = 0
    · have he' := e0.2 he
      have hc : begC T n q = 10 := by rw [begC, if_pos (.inl he)]
      have hT := b0 (by rw [hc]; omega)
      rw [hc] at hQ
      simp [ac87, rs87, lk_cons, hh, hm, f1, keyIs, shapeOk, kShape, storeL, strEq, z1, z2, lnV, eq_true he']
      exact hQ _ (keep _ _ hT).1 (keep _ _ hT).2
    have he' : ¬ n = ⟨#[]⟩ := fun e => he (e0.1 e)
    by_cases h64 : 64 < n.size
    · have h64' : (64 : Int) < n.size := by omega
      have hc : begC T n q = 10 := by rw [begC, if_pos (.inr h64)]
      have hT := b0 (by rw [hc]; omega)
      rw [hc] at hQ
      simp [ac87, rs87, lk_cons, hh, hm, f1, keyIs, shapeOk, kShape, storeL, strEq, z1, z2, lnV, he', h64, h64']
      exact hQ _ (keep _ _ hT).1 (keep _ _ hT).2
    have h64' : ¬ (64 : Int) < n.size := by omega
    have hno : ¬ (n.size = 0 ∨ 64 < n.size) := by omega
    by_cases hq : q = 0
    · have hq' : (q : Int) = 0 := by omega
      have hc : begC T n q = 2 := by rw [begC, if_neg hno, if_pos hq]
      have hT := b0 (by rw [hc]; omega)
      rw [hc] at hQ
      simp [ac87, rs87, lk_cons, hh, hm, f1, keyIs, shapeOk, kShape, storeL, strEq, z1, z2, lnV, he', h64, h64', hq, hq']
      exact hQ _ (keep _ _ hT).1 (keep _ _ hT).2
    have hq' : ¬ (q : Int) = 0 := by omega
    by_cases h1 : q ≤ x.2.1
    · have h1' : (q : Int) ≤ x.2.1 := by omega
      have hc : begC T n q = 40 := by rw [begC, if_neg hno, if_neg hq, f2]; simp [h1]
      have hT := b0 (by rw [hc]; omega)
      rw [hc] at hQ
      simp [ac87, rs87, lk_cons, hh, hm, f1, keyIs, shapeOk, kShape, storeL, strEq, z1, z2, lnV, he', h64, h64', hq, hq', h1, h1']
      exact hQ _ (keep _ _ hT).1 (keep _ _ hT).2
    have h1' : ¬ (q : Int) ≤ x.2.1 := by omega
    by_cases h2 : q ≤ x.1
    · have h2' : (q : Int) ≤ x.1 := by omega
      have hc : begC T n q = 41 := by rw [begC, if_neg hno, if_neg hq, f2]; simp [h1, h2]
      have hT := b0 (by rw [hc]; omega)
      rw [hc] at hQ
      simp [ac87, rs87, lk_cons, hh, hm, f1, keyIs, shapeOk, kShape, storeL, strEq, z1, z2, lnV, he', h64, h64', hq, hq', h1, h1', h2, h2']
      exact hQ _ (keep _ _ hT).1 (keep _ _ hT).2
    have h2' : ¬ (q : Int) ≤ x.1 := by omega
    have hc : begC T n q = 0 := by rw [begC, if_neg hno, if_neg hq, f2]; simp [h1, h2]
    rw [hc] at hQ
    have hb : begT T n q = setB T n (q, x.2) := by rw [begT, if_pos hc, f2]; rfl
    rw [hb] at hQ
    simp [ac87, rs87, lk_cons, hh, hm, f1, keyIs, shapeOk, kShape, storeL, strEq, z1, z2, lnV, he', h64, h64', hq, hq', h1, h1', h2, h2']
    refine hQ _ ⟨by simp [z1, hne, hh], ⟨clock, ents.modify i fun e => (e.1, .str n, lnV n (q, x.2)), by simp [lnV], f3 _, ?_, ?_⟩, setB_nodup h.keys, hne, by simp; omega⟩ ⟨by simp, fun a ha hx => by simp [show ¬ a = σ.next by omega, hx]⟩
    · rw [stamps_lt, stamps_modify (fun e => (e.1, AVal.str n, lnV n (q, x.2))) (fun e => rfl), ← stamps_lt]; exact hs
    · rw [stamps_modify (fun e => (e.1, AVal.str n, lnV n (q, x.2))) (fun e => rfl)]; exact hd
end Go.Proofs.YticefdfhcahlfaaDoor.AM

namespace Go.Proofs.YticefdfhcahlfaaDoor.AM
set_option maxRecDepth 100000
set_option linter.unusedVariables false
set_option linter.unusedSimpArgs false
def fgt (T : Tbl) : Tbl := (T.filter fun p => decide (p.2.2.1 ≠ 0)).map fun p => (p.1, (p.2.2.1, p.2.2))
end Go.Proofs.YticefdfhcahlfaaDoor.AM


namespace Go.Proofs.YticefdfhcahlfaaDoor.AM
set_option maxRecDepth 100000
set_option linter.unusedVariables false
set_option linter.unusedSimpArgs false
def doneC (T : Tbl) (n : ByteArray) (q : Nat) : Int := match lkB T n with
  | none => 11
  | some x => if x.1 < q then 11 else if q ≤ x.2.1 then 40 else 0
def doneT (T : Tbl) (n : ByteArray) (q : Nat) (at' : Nat × Nat) : Tbl := if doneC T n q = 0 then setB T n (((lkB T n).getD (0, 0, 0, 0)).1, q, at') else T
theorem done_c {σ : St} {t mp : Nat} {T : Tbl} (h : TRep σ t mp T) (n : ByteArray) (q : Nat) (at' : Nat × Nat) (Q : AVal → St → Prop) (hQ : ∀ σ', TRep σ' t mp (doneT T n q at') → Keep1 mp σ σ' → Q (i64 (doneC T n q)) σ') :
    ACall Tryd.prog 88 [.ptr t 0, .str n, u64 (q : Int), .agg [u64 (at'.1 : Int), u64 (at'.2 : Int)]] σ Q := by
  refine ACall.of_compF hmx (fun a w => Tryd.call88 a w) Tryd.func88 cf88 (n := 4) (by decide) rfl ?_
  have hh := h.head
  have hlt := h.lt
  have hne := h.ne
  obtain ⟨clock, ents, hm, ha, hs, hd⟩ := h.map
  have z1 : ¬ t = σ.next := by omega
  have z2 : ¬ mp = σ.next := by omega
  have z3 : ¬ t = σ.next + 1 := by omega
  have z4 : ¬ mp = σ.next + 1 := by omega
  have z5 : ¬ σ.next = σ.next + 1 := by omega
  have keep : ∀ b0 b c : Blk, doneT T n q at' = T → TRep ⟨((σ.mem.set σ.next b0).set (σ.next + 1) b).set (σ.next + 1) c, σ.next + 1 + 1⟩ t mp (doneT T n q at') ∧ Keep1 mp σ ⟨((σ.mem.set σ.next b0).set (σ.next + 1) b).set (σ.next + 1) c, σ.next + 1 + 1⟩ := fun b0 b c hb => by
    rw [hb]
    exact ⟨h.frame (fun a ha => by simp [show ¬ a = σ.next by omega, show ¬ a = σ.next + 1 by omega]) (by simp; omega), ⟨by simp; omega, fun a ha _ => by simp [show ¬ a = σ.next by omega, show ¬ a = σ.next + 1 by omega]⟩⟩
  have b0 : doneC T n q ≠ 0 → doneT T n q at' = T := fun hc => by rw [doneT, if_neg hc]
  rcases findS (n := n) ha with ⟨f1, f2⟩ | ⟨i, x, f1, f2, f3⟩
  · have hc : doneC T n q = 11 := by rw [doneC, f2]
    have hT := b0 (by rw [hc]; omega)
    rw [hc] at hQ
    simp [ac88, rs88, lk_cons, hh, hm, f1, keyIs, shapeOk, kShape, storeL, strEq, z1, z2, z3, z4, lnV]
    exact hQ _ (keep _ _ _ hT).1 (keep _ _ _ hT).2
  · by_cases h1 : x.1 < q
    · have h1' : (x.1 : Int) < q := by omega
      have hc : doneC T n q = 11 := by rw [doneC, f2]; simp [h1]
      have hT := b0 (by rw [hc]; omega)
      rw [hc] at hQ
      simp [ac88, rs88, lk_cons, hh, hm, f1, keyIs, shapeOk, kShape, storeL, strEq, z1, z2, z3, z4, lnV, h1, h1']
      exact hQ _ (keep _ _ _ hT).1 (keep _ _ _ hT).2
    have h1' : ¬ (x.1 : Int) < q := by omega
    by_cases h2 : q ≤ x.2.1
    · have h2' : (q : Int) ≤ x.2.1 := by omega
      have hc : doneC T n q = 40 := by rw [doneC, f2]; simp [h1, h2]
      have hT := b0 (by rw [hc]; omega)
      rw [hc] at hQ
      simp [ac88, rs88, lk_cons, hh, hm, f1, keyIs, shapeOk, kShape, storeL, strEq, z1, z2, z3, z4, lnV, h1, h1', h2, h2']
      exact hQ _ (keep _ _ _ hT).1 (keep _ _ _ hT).2
    have h2' : ¬ (q : Int) ≤ x.2.1 := by omega
    have hc : doneC T n q = 0 := by rw [doneC, f2]; simp [h1, h2]
    rw [hc] at hQ
    have hb : doneT T n q at' = setB T n (x.1, q, at') := by rw [doneT, if_pos hc, f2]; rfl
    rw [hb] at hQ
    simp [ac88, rs88, lk_cons, hh, hm, f1, keyIs, shapeOk, kShape, storeL, strEq, z1, z2, z3, z4, lnV, z5, h1, h1', h2, h2']
    refine hQ _ ⟨by simp [z1, z3, hne, hh], ⟨clock, ents.modify i fun e => (e.1, .str n, lnV n (x.1, q, at')), by simp [lnV], f3 _, ?_, ?_⟩, setB_nodup h.keys, hne, by simp; omega⟩ ⟨by simp; omega, fun a ha hx => by simp [show ¬ a = σ.next by omega, show ¬ a = σ.next + 1 by omega, hx]⟩
    · rw [stamps_lt, stamps_modify (fun e => (e.1, AVal.str n, lnV n (x.1, q, at'))) (fun e => rfl), ← stamps_lt]; exact hs
    · rw [stamps_modify (fun e => (e.1, AVal.str n, lnV n (x.1, q, at'))) (fun e => rfl)]; exact hd
end Go.Proofs.YticefdfhcahlfaaDoor.AM

namespace Go.Proofs.YticefdfhcahlfaaDoor.AM
def Grow (σ σ' : St) : Prop := σ.next ≤ σ'.next ∧ ∀ a, a < σ.next → σ'.mem.get a = σ.mem.get a
theorem Grow.refl (σ : St) : Grow σ σ := ⟨Nat.le_refl _, fun _ _ => rfl⟩
theorem Grow.trans {a b c : St} (h : Grow a b) (k : Grow b c) : Grow a c := ⟨Nat.le_trans h.1 k.1, fun x hx => by rw [k.2 x (by have := h.1; omega), h.2 x hx]⟩
end Go.Proofs.YticefdfhcahlfaaDoor.AM

namespace Go.Proofs.YticefdfhcahlfaaDoor.AM
set_option maxRecDepth 100000
set_option linter.unusedVariables false
set_option linter.unusedSimpArgs false
theorem beN_drop (n : Nat) : ∀ (d s : Nat), (beN (d + s) n).drop d = beN s n
  | 0, s => by simp
  | d + 1, s => by
    rw [show d + 1 + s = (d + s) + 1 by omega]
    simp only [beN, List.drop_succ_cons]
    exact beN_drop n d s
abbrev WB (σ : St) (w : Nat) (l : List UInt8) (b : Option Nat) : Prop := HB rwB σ w l b
theorem shr8 {n i q : Nat} (hi : i < 8) (hq : n / 256 ^ i = q) (ρ : St) : evalV ρ (.bin .shr (.int .u64 (n : Int)) (.int .i64 (8 * (i : Int)))) = some (.int .u64 (q : Int), ρ) := by
  rw [← hq]
  have h0 : (8 : Int) * (i : Int) = ((8 * i : Nat) : Int) := by omega
  rw [h0]
  have h1 : ¬ (((8 * i : Nat) : Int) < 0) := by omega
  have h2 : min ((8 * i : Nat) : Int).toNat (IntKind.bits .u64) = 8 * i := by
    have : IntKind.bits .u64 = 64 := rfl
    rw [this, Int.toNat_natCast]; omega
  have h3 : (2 : Nat) ^ (8 * i) = 256 ^ i := by rw [Nat.pow_mul]
  simp only [evalV, abin, ashift, if_neg h1, h2]
  rw [Int.fdiv_eq_ediv_of_nonneg _ (Int.pow_nonneg (by omega))]
  simp only [Option.map_some]
  congr 3
  have h4 : ((2 : Int) ^ (8 * i)) = ((256 ^ i : Nat) : Int) := by rw [← h3]; simp
  rw [h4]
  exact (Int.natCast_ediv _ _).symm
theorem byte_wrap (x : Nat) : IntKind.u8.wrap (x : Int) = ((UInt8.ofNat x).toNat : Int) := by
  have h1 : (UInt8.ofNat x).toNat = x % 256 := by simp
  rw [h1]
  have h2 : IntKind.u8.wrap (x : Int) = (x : Int) % 256 := by
    have : IntKind.wrap .u8 (x : Int) = IntKind.wrap .u8 ((x : Int) % 256) := by
      simp [IntKind.wrap, IntKind.bits, IntKind.signed]
    rw [this, IntWalk.u8_in] <;> omega
  rw [h2]; omega
def WnJ (w size n : Nat) (σ0 : St) (mm : Nat) (rg : Regs) (σ' : St) : Prop := ∃ i, mm = 8 - i ∧ i ≤ 8 ∧ σ'.next = σ0.next + 1 ∧ σ'.mem.get σ0.next = some (.cells 1 (List.replicate (8 - i) (AVal.int .u8 0) ++ bytesV (beN i n))) ∧
  (∀ a, a ≠ σ0.next → σ'.mem.get a = σ0.mem.get a) ∧ rg = [(0, .ptr w 0), (1, .int .u64 (n : Int)), (2, .int .i64 (size : Int)), (6, .ptr σ0.next 0), (8, .int .i64 (i : Int))]
theorem wnum_c {σ : St} {w : Nat} {l : List UInt8} {b : Option Nat} (h : WB σ w l b) {n size : Nat} (hs : 1 ≤ size ∧ size ≤ 8) (hl : l.length ≤ 1000000000) (Q : AVal → St → Prop)
    (hQ : ∀ σ' b', WB σ' w (l ++ beN size n) b' → WStp w b b' σ σ' → Q (.tup []) σ') : ACall Tryd.prog 79 [.ptr w 0, .int .u64 (n : Int), .int .i64 (size : Int)] σ Q := by
  refine ACall.of_compF hmx (fun a w => Tryd.call79 a w) Tryd.func79 cf79 (n := 3) (by decide) rfl ?_
  simp [ac79, rs79, lk_cons]
  refine wp_loop (WnJ w size n σ) 8 ?_ ?_
  · exact ⟨0, rfl, by omega, rfl, by simp [beN, bytesV, List.replicate], fun a ha => by simp [ha], rfl⟩
  · rintro mm rg σ' ⟨i, rfl, hi, g1, g2, g3, rfl⟩
    by_cases hc : i < 8
    · have w1 : IntKind.i64.wrap (7 - (i : Int)) = ((7 - i : Nat) : Int) := by rw [IntWalk.i64_in] <;> omega
      have w2 : IntKind.i64.wrap (8 * (i : Int)) = 8 * (i : Int) := by rw [IntWalk.i64_in] <;> omega
      have w3 : IntKind.i64.wrap ((i : Int) + 1) = ((i + 1 : Nat) : Int) := by rw [IntWalk.i64_in] <;> omega
      obtain ⟨q, hq⟩ : ∃ q, n / 256 ^ i = q := ⟨_, rfl⟩
      have e1 := shr8 hc hq σ'
      have e2 := byte_wrap q
      obtain ⟨k, hk⟩ : ∃ k, 7 - i = k := ⟨_, rfl⟩
      rw [hk] at w1
      have hlt : (i : Int) < 8 := by omega
      have k1 : (k : Int) < 8 := by omega
      have k2 : k ≤ 7 := by omega
      have hset : storeL (List.replicate (8 - i) (AVal.int .u8 0) ++ bytesV (beN i n)) k [AVal.int .u8 ((q : Int) % 256)] = List.replicate (8 - (i + 1)) (AVal.int .u8 0) ++ bytesV (beN (i + 1) n) := by
        have h8 : 8 - i = k + 1 := by omega
        have h7 : 8 - (i + 1) = k := by omega
        rw [h8, h7]
        simp only [storeL]
        rw [List.set_append, if_pos (by simp), List.replicate_succ', List.set_append, if_neg (by simp), List.length_replicate]
        simp [beN, bytesV, hq]
      have hlen : (List.replicate (8 - i) (AVal.int .u8 0) ++ bytesV (beN i n)).length = 8 := by simp [bytesV_len, beN_len]; omega
      generalize List.replicate (8 - i) (AVal.int .u8 0) ++ bytesV (beN i n) = arr at g2 hset hlen
      simp [lk_cons, hlt, w1, w2, w3, ↓e1, e2, g2, k1, k2, hlen, hset]
      exact ⟨8 - (i + 1), by omega, i + 1, rfl, by omega, g1, by simp, fun a ha => by simp [ha, g3 a ha], by simp⟩
    · have : i = 8 := by omega
      subst this
      obtain ⟨v, h1, h2, h3, h4⟩ := h
      have m1 : σ'.mem.get w = some (.cells 1 [v]) := by rw [g3 w (by omega)]; exact h1
      have w1 : IntKind.i64.wrap (8 - (size : Int)) = ((8 - size : Nat) : Int) := by rw [IntWalk.i64_in] <;> omega
      obtain ⟨d, hd⟩ : ∃ d, 8 - size = d := ⟨_, rfl⟩
      rw [hd] at w1
      have k1 : d ≤ 8 := by omega
      have h2' : GS rwB σ' v l b := h2.keep (by omega) fun a ha _ => g3 a (by omega)
      have hsrc : srcL σ' 1 (.sl σ.next d (8 - d) (8 - d) true) = some (rws rwB (beN size n), (beN size n).length) := by
        have e1 : 8 - d = size := by omega
        have e2 : bytesV (beN size n) = (bytesV (beN 8 n)).drop d := by
          have := beN_drop n d size
          rw [show d + size = 8 by omega] at this
          rw [← this]; simp [bytesV, List.map_drop]
        simp [srcL, g2, e1, beN_len, rwsB, bytesV_len, show d + size ≤ 8 by omega]
        rw [e2, List.take_of_length_le (by rw [List.length_drop, bytesV_len, beN_len]; omega)]
      obtain ⟨v', σ2, b', e1, e2, e3, e4, e5⟩ := gs_appN h2' (by_ := 1) (by decide) hsrc (by rw [beN_len]; omega) (by rw [beN_len]; omega)
      have m2 : σ2.mem.get w = some (.cells 1 [v]) := by rw [e5 w (by omega) h3]; exact m1
      have hgl : (8 : Nat) ≤ (List.replicate (8 - 8) (AVal.int .u8 0) ++ bytesV (beN 8 n)).length := by simp [bytesV_len, beN_len]
      simp [bytesV_len, beN_len] at g2
      simp [lk_cons, m1, g2, w1, optM, asliceSl, bnd, k1, bytesV_len, beN_len, ↓e1, m2, e2.one, storeL]
      have hwb : b' ≠ some w := fun e => by
        rcases e3 with e3 | e3
        · exact h3 (e3 ▸ e)
        · rw [e3] at e; cases e; omega
      refine hQ _ b' ⟨v', by simp, e2.keep (by simp) fun a ha hb => ?_, hwb, by simp; omega⟩ ⟨by simp; omega, fun x hx => ?_, fun a ha hw hb => ?_⟩
      · have : a ≠ w := fun e => hwb (by rw [hb, e])
        simp [this]
      · rcases e3 with e3 | e3
        · exact .inl (e3 ▸ hx)
        · rw [e3] at hx; cases hx; exact .inr (by omega)
      · simp [hw]
        rw [e5 a (by omega) hb, g3 a (by omega)]
end Go.Proofs.YticefdfhcahlfaaDoor.AM

namespace Go.Proofs.YticefdfhcahlfaaDoor.AM
set_option maxRecDepth 100000
set_option linter.unusedVariables false
set_option linter.unusedSimpArgs false
section
variable {σ : St} {w : Nat} {l : List UInt8} {b : Option Nat}
theorem wu64_c (h : WB σ w l b) {n : Nat} (hl : l.length ≤ 1000000000) (Q : AVal → St → Prop)
    (hQ : ∀ σ' b', WB σ' w (l ++ beN 8 n) b' → WStp w b b' σ σ' → Q (.tup []) σ') : ACall Tryd.prog 34 [.ptr w 0, .int .u64 (n : Int)] σ Q := by
  refine ACall.of_compF hmx (fun a w => Tryd.call34 a w) Tryd.func34 cf34 (n := 2) (by decide) rfl ?_
  simp [ac34, rs34, lk_cons]
  refine wnum_c h (size := 8) (by decide) hl _ fun σ' b' h1 h2 => ?_
  simp [lk_cons]
  exact hQ σ' b' h1 h2
theorem wu8_c (h : WB σ w l b) {n : Nat} (hn : n < 256) (hl : l.length ≤ 1000000000) (Q : AVal → St → Prop)
    (hQ : ∀ σ' b', WB σ' w (l ++ beN 1 n) b' → WStp w b b' σ σ' → Q (.tup []) σ') : ACall Tryd.prog 35 [.ptr w 0, .int .u8 (n : Int)] σ Q := by
  refine ACall.of_compF hmx (fun a w => Tryd.call35 a w) Tryd.func35 cf35 (n := 2) (by decide) rfl ?_
  have w1 : IntKind.u64.wrap (n : Int) = n := by rw [IntWalk.u64_in] <;> omega
  simp [ac35, rs35, lk_cons, w1]
  refine wnum_c h (size := 1) (by decide) hl _ fun σ' b' h1 h2 => ?_
  simp [lk_cons]
  exact hQ σ' b' h1 h2
def SrcB (σ : St) (w : Nat) (b : Option Nat) (v : AVal) (m : List UInt8) : Prop := (∀ ρ, evalV ρ (.len 1 v) = some (.int .i64 (m.length : Int), ρ)) ∧ ∀ σ' : St, σ.next ≤ σ'.next → (∀ a, a < σ.next → a ≠ w → b ≠ some a → σ'.mem.get a = σ.mem.get a) → srcL σ' 1 v = some (rws rwB m, m.length)
theorem SrcB.of (hb : WB σ w l b) {v : AVal} {m : List UInt8} {c : Option Nat} (h : GS rwB σ v m c) (h1 : c ≠ some w) (h2 : ∀ x, c = some x → b ≠ some x) : SrcB σ w b v m :=
  ⟨h.len, fun σ' hn hm => (h.keep hn fun a ha hc => hm a ha (fun e => h1 (by rw [hc, e])) (h2 a hc)).src⟩
theorem SrcB.ofI {v : AVal} {m : List UInt8} (h : BytesOf v m) : SrcB σ w b v m := ⟨h.len, fun σ' _ _ => h.src σ'⟩
theorem wbytes_c (h : WB σ w l b) {v : AVal} {m : List UInt8} (hv : SrcB σ w b v m) (hl : l.length ≤ 1000000) (hm : m.length ≤ 1000000) (Q : AVal → St → Prop)
    (hQ : ∀ σ' b', WB σ' w (l ++ (beN 4 m.length ++ m)) b' → WStp w b b' σ σ' → Q (.tup []) σ') : ACall Tryd.prog 39 [.ptr w 0, v] σ Q := by
  refine ACall.of_compF hmx (fun a w => Tryd.call39 a w) Tryd.func39 cf39 (n := 2) (by decide) rfl ?_
  have w1 : IntKind.u64.wrap (m.length : Int) = m.length := by rw [IntWalk.u64_in] <;> omega
  obtain ⟨hlen, hsrc⟩ := hv
  simp [ac39, rs39, lk_cons, ↓hlen, w1]
  refine wnum_c h (size := 4) (by decide) (by omega) _ fun σ1 b1 h1 h2 => ?_
  obtain ⟨v1, m1, m2, m3, m4⟩ := id h1
  have hs1 := hsrc σ1 h2.next h2.keep
  obtain ⟨v', σ2, b', e1, e2, e3, e4, e5⟩ := gs_appN m2 (by_ := 1) (by decide) hs1 (by simp [beN_len]; omega) (by simp [beN_len]; omega)
  have m5 : σ2.mem.get w = some (.cells 1 [v1]) := by rw [e5 w (by omega) m3]; exact m1
  simp [lk_cons, m1, ↓e1, m5, e2.one, storeL]
  have hwb : b' ≠ some w := fun e => by
    rcases e3 with e3 | e3
    · exact m3 (e3 ▸ e)
    · rw [e3] at e; cases e; omega
  rw [List.append_assoc] at e2
  refine hQ _ b' ⟨v', by simp, e2.keep (by simp) fun a ha hb => ?_, hwb, by simp; omega⟩ (h2.trans ⟨by simp; omega, fun x hx => ?_, fun a ha hw hb => ?_⟩)
  · have : a ≠ w := fun e => hwb (by rw [hb, e])
    simp [this]
  · rcases e3 with e3 | e3
    · exact .inl (e3 ▸ hx)
    · rw [e3] at hx; cases hx; exact .inr (Nat.le_refl _)
  · simp [hw]
    exact e5 a ha hb
theorem wtext_c (h : WB σ w l b) {s : ByteArray} (hl : l.length ≤ 1000000) (hs : s.size ≤ 1000000) (Q : AVal → St → Prop)
    (hQ : ∀ σ' b', WB σ' w (l ++ (beN 4 s.size ++ s.data.toList)) b' → WStp w b b' σ σ' → Q (.tup []) σ') : ACall Tryd.prog 38 [.ptr w 0, .str s] σ Q := by
  refine ACall.of_compF hmx (fun a w => Tryd.call38 a w) Tryd.func38 cf38 (n := 2) (by decide) rfl ?_
  have hs' : s.size ≤ 140737488355328 := by omega
  have hsl : s.data.toList.length = s.size := by simp
  simp [ac38, rs38, lk_cons, hs']
  obtain ⟨v, h1, h2, h3, h4⟩ := id h
  have hb : WB ⟨σ.mem.set σ.next (.cells 1 (s.data.toList.map fun b => .int .u8 (b.toNat : Int))), σ.next + 1⟩ w l b := h.keep (by simp) fun a ha _ => by simp [show ¬ a = σ.next by omega]
  refine wbytes_c hb (m := s.data.toList) (SrcB.of hb (c := some σ.next) (.inr ⟨σ.next, false, rfl, by simp, by simp, by simp [rwsB, bytesV]⟩) (by simp; omega) fun x hx hbx => ?_) hl (by omega) _ fun σ' b' k1 k2 => ?_
  · cases hx; have := h2.lt hbx; omega
  · simp [lk_cons]
    rw [hsl] at k1
    refine hQ σ' b' k1 ⟨by have := k2.next; simp at this; omega, fun x hx => ?_, fun a ha hw hb => ?_⟩
    · rcases k2.own x hx with e | e
      · exact .inl e
      · simp at e; exact .inr (by omega)
    · rw [k2.keep a (by simp; omega) hw hb]
      simp [show ¬ a = σ.next by omega]
theorem wdone_c (h : WB σ w l b) (hl : l.length ≤ 1000000000) (Q : AVal → St → Prop)
    (hQ : ∀ σ' v' b', GS rwB σ' v' l b' → (∀ x, b' = some x → σ.next ≤ x) → Grow σ σ' → Q v' σ') : ACall Tryd.prog 41 [.ptr w 0] σ Q := by
  refine ACall.of_compF hmx (fun a w => Tryd.call41 a w) Tryd.func41 cf41 (n := 1) (by decide) rfl ?_
  obtain ⟨v, h1, h2, h3, h4⟩ := id h
  simp [ac41, rs41, lk_cons, h1]
  refine ACall.of_compF hmx (fun a w => Tryd.call80 a w) Tryd.func80 cf80 (n := 1) (by decide) rfl ?_
  rcases id h2 with ⟨rfl, rfl, rfl⟩ | ⟨o, t, rfl, rfl, h5, h6⟩
  · simp [ac80, rs80, lk_cons]
    exact hQ σ .nilsl none (GS.nil σ) (by simp) ⟨Nat.le_refl _, fun _ _ => rfl⟩
  · have hg : GS rwB ⟨σ.mem.set σ.next (.cells 1 []), σ.next + 1⟩ (.sl σ.next 0 0 0 true) [] (some σ.next) := .inr ⟨σ.next, true, rfl, rfl, by simp, by simp [rws]⟩
    have hsrc : srcL ⟨σ.mem.set σ.next (.cells 1 []), σ.next + 1⟩ 1 (.sl o 0 l.length l.length t) = some (rws rwB l, l.length) := (h2.keep (by simp) fun a ha _ => by simp [show ¬ a = σ.next by omega]).src
    obtain ⟨v', σ2, b', e1, e2, e3, e4, e5⟩ := gs_appN hg (by_ := 1) (by decide) hsrc (by simp; omega) (by simp; omega)
    simp only [List.nil_append] at e2
    simp [ac80, rs80, lk_cons, fillL, repL, ↓e1]
    simp at e4 e5
    refine hQ _ v' b' e2 (fun x hx => ?_) ⟨by omega, fun a ha => ?_⟩
    · rcases e3 with e3 | e3
      · rw [e3] at hx; cases hx; omega
      · rw [e3] at hx; cases hx; simp
    · rw [e5 a (by omega) (by omega)]
      simp [show ¬ a = σ.next by omega]
end
end Go.Proofs.YticefdfhcahlfaaDoor.AM


namespace Go.Proofs.YticefdfhcahlfaaDoor.AM
set_option maxRecDepth 100000
set_option linter.unusedVariables false
set_option linter.unusedSimpArgs false
def rwL : Rw (ByteArray × Ln) 5 := ⟨fun x => [.str x.1, u64 (x.2.1 : Int), u64 (x.2.2.1 : Int), u64 (x.2.2.2.1 : Int), u64 (x.2.2.2.2 : Int)], fun _ => rfl, fun _ => rfl⟩
theorem rwL_row {T : Tbl} {i : Nat} {n : ByteArray} {x : Ln} (h : T[i]? = some (n, x)) : (rws rwL T)[i * 5]? = some (.str n) ∧ (rws rwL T)[i * 5 + 1]? = some (u64 (x.1 : Int)) ∧ (rws rwL T)[i * 5 + 2]? = some (u64 (x.2.1 : Int)) ∧ (rws rwL T)[i * 5 + 3]? = some (u64 (x.2.2.1 : Int)) ∧ (rws rwL T)[i * 5 + 4]? = some (u64 (x.2.2.2 : Int)) := by
  have h0 := rws_get rwL h (j := 0) (by decide)
  have h1 := rws_get rwL h (j := 1) (by decide)
  have h2 := rws_get rwL h (j := 2) (by decide)
  have h3 := rws_get rwL h (j := 3) (by decide)
  have h4 := rws_get rwL h (j := 4) (by decide)
  exact ⟨h0, h1, h2, h3, h4⟩
end Go.Proofs.YticefdfhcahlfaaDoor.AM

namespace Go.Proofs.YticefdfhcahlfaaDoor.AM
set_option maxRecDepth 100000
set_option linter.unusedVariables false
set_option linter.unusedSimpArgs false
def lessB (a b : ByteArray) : Bool := decide (a.data.toList < b.data.toList)
theorem bLess (a b : ByteArray) : Op.bytesLess a.toList b.toList = lessB a b := by
  rw [ByteArray.toList_eq, ByteArray.toList_eq, bytesLess_eq]; rfl
theorem strLss (a b : ByteArray) : abinS .lss a b = some (.bool (lessB a b)) := by simp only [abinS, bLess]
theorem lessB_irrefl (a : ByteArray) : lessB a a = false := by simp [lessB, List.lt_irrefl]
theorem lessB_trans {a b c : ByteArray} (h : lessB a b = true) (k : lessB b c = true) : lessB a c = true := by
  simp only [lessB, decide_eq_true_eq] at *
  exact List.lt_trans h k
theorem lessB_tri {a b : ByteArray} (h : lessB a b = false) (k : lessB b a = false) : a = b := by
  simp only [lessB, decide_eq_false_iff_not] at *
  exact ByteArray.ext (Array.ext' (List.le_antisymm k h))
theorem lessB_ntrans {a b c : ByteArray} (h : lessB a b = false) (k : lessB b c = false) : lessB a c = false := by
  simp only [lessB, decide_eq_false_iff_not] at *
  exact fun hac => (List.not_lt.2 (List.le_trans (List.not_lt.1 k) (List.not_lt.1 h))) hac
theorem lessB_asymm {a b : ByteArray} (h : lessB a b = true) : lessB b a = false := by
  cases hb : lessB b a with
  | false => rfl
  | true => have := lessB_trans h hb; rw [lessB_irrefl] at this; cases this
def RisL (T : Tbl) : Prop := ∀ (i j : Nat) (x y : ByteArray × Ln), i < j → T[i]? = some x → T[j]? = some y → lessB y.1 x.1 = false
theorem RisL.tail {x : ByteArray × Ln} {T : Tbl} (h : RisL (x :: T)) : RisL T := fun i j a b hij ha hb => h (i + 1) (j + 1) a b (by omega) (by simpa using ha) (by simpa using hb)
theorem RisL.uniq : ∀ {S T : Tbl}, RisL S → RisL T → (S.map (·.1)).Nodup → S.Perm T → S = T
  | [], T, _, _, _, h => h.nil_eq
  | x :: S, [], _, _, _, h => by have := h.length_eq; simp at this
  | x :: S, y :: T, hs, ht, hn, h => by
    have hxy : x = y := by
      have h1 : x ∈ y :: T := h.subset (List.mem_cons_self)
      have h2 : y ∈ x :: S := h.symm.subset (List.mem_cons_self)
      rcases List.mem_cons.1 h1 with e | e
      · exact e
      rcases List.mem_cons.1 h2 with e' | e'
      · exact e'.symm
      obtain ⟨i, hi⟩ := List.getElem?_of_mem e
      obtain ⟨j, hj⟩ := List.getElem?_of_mem e'
      have l1 := ht 0 (i + 1) y x (by omega) rfl (by simpa using hi)
      have l2 := hs 0 (j + 1) x y (by omega) rfl (by simpa using hj)
      have he := lessB_tri l1 l2
      simp only [List.map_cons, List.nodup_cons] at hn
      exact absurd (by rw [he]; exact List.mem_map.2 ⟨y, e', rfl⟩) hn.1
    subst hxy
    simp only [List.map_cons, List.nodup_cons] at hn
    rw [RisL.uniq hs.tail ht.tail hn.2 (List.perm_cons x |>.1 h)]
end Go.Proofs.YticefdfhcahlfaaDoor.AM



namespace Go.Proofs.YticefdfhcahlfaaDoor.AM
set_option maxRecDepth 100000
set_option linter.unusedVariables false
set_option linter.unusedSimpArgs false
def dn (T : Tbl) : Tbl := T.filter fun p => decide (p.2.2.1 ≠ 0)
def lnB (x : ByteArray × Ln) : List UInt8 := (beN 4 x.1.size ++ x.1.data.toList) ++ (beN 8 x.2.2.1 ++ (beN 8 x.2.2.2.1 ++ beN 8 x.2.2.2.2))
def lnsB (T : Tbl) : List UInt8 := (T.map lnB).flatten
def encT (T : Tbl) : List UInt8 := beN 1 (dn T).length ++ lnsB (dn T)
theorem lnsB_snoc (T : Tbl) (x : ByteArray × Ln) : lnsB (T ++ [x]) = lnsB T ++ lnB x := by simp [lnsB]
theorem dn_snoc (T : Tbl) (x : ByteArray × Ln) : dn (T ++ [x]) = dn T ++ (if x.2.2.1 = 0 then [] else [x]) := by
  simp only [dn, List.filter_append]
  congr 1
  by_cases h : x.2.2.1 = 0 <;> simp [List.filter_cons, h]
theorem dn_len (T : Tbl) : (dn T).length ≤ T.length := List.length_filter_le _ _
def LnOk (p : ByteArray × Ln) : Prop := p.1.size ≤ 1000 ∧ p.2.1 < 18446744073709551616 ∧ p.2.2.1 < 18446744073709551616 ∧ p.2.2.2.1 < 18446744073709551616 ∧ p.2.2.2.2 < 18446744073709551616
theorem lnB_len {x : ByteArray × Ln} (h : LnOk x) : (lnB x).length ≤ 1028 := by
  have := h.1
  simp [lnB, beN_len]; omega
theorem lnsB_len : ∀ {T : Tbl}, (∀ x ∈ T, LnOk x) → (lnsB T).length ≤ T.length * 1028
  | [], _ => by simp [lnsB]
  | x :: T, h => by
    have h1 := lnB_len (h x (by simp))
    have h2 := lnsB_len (T := T) fun y hy => h y (by simp [hy])
    simp only [lnsB, List.map_cons, List.flatten_cons, List.length_append, List.length_cons] at h2 ⊢
    omega
end Go.Proofs.YticefdfhcahlfaaDoor.AM

namespace Go.Proofs
open Go.Shelf
def Tryd.sortLn_ren : Go.Shelf.Ren := ⟨fun | 6 => 103 | 15 => 111 | 14 => 110 | 28 => 121 | 29 => 122 | 20 => 113 | 21 => 114 | 22 => 115 | 23 => 116 | 24 => 117 | 25 => 118 | 26 => 119 | 27 => 120 | 46 => 123 | 47 => 124 | 48 => 125 | 49 => 126 | 50 => 127 | 57 => 128 | n => n, fun | 22 => 25 | 24 => 43 | 25 => 172 | 3 => 3 | 39 => 86 | 0 => 0 | 53 => 205 | 55 => 22 | 4 => 4 | 46 => 198 | 45 => 197 | 50 => 202 | 5 => 5 | 9 => 9 | 66 => 207 | 70 => 210 | 76 => 212 | 77 => 213 | n => n, fun | n => n⟩
theorem Tryd.sortLn : Go.Proofs.SlLaysF0.n6 Tryd.prog Tryd.sortLn_ren := {
  mixed := by kernel_rfl
  f6 := ⟨Tryd.f103.name, by decide, Tryd.func103.trans (congrArg some (by kernel_rfl))⟩
  f14 := ⟨Tryd.f110.name, by decide, Tryd.func110.trans (congrArg some (by kernel_rfl))⟩
  f15 := Tryd.func111.trans (congrArg some (by kernel_rfl))
  f20 := ⟨Tryd.f113.name, by decide, Tryd.func113.trans (congrArg some (by kernel_rfl))⟩
  f21 := ⟨Tryd.f114.name, by decide, Tryd.func114.trans (congrArg some (by kernel_rfl))⟩
  f22 := ⟨Tryd.f115.name, by decide, Tryd.func115.trans (congrArg some (by kernel_rfl))⟩
  f23 := ⟨Tryd.f116.name, by decide, Tryd.func116.trans (congrArg some (by kernel_rfl))⟩
  f24 := ⟨Tryd.f117.name, by decide, Tryd.func117.trans (congrArg some (by kernel_rfl))⟩
  f25 := ⟨Tryd.f118.name, by decide, Tryd.func118.trans (congrArg some (by kernel_rfl))⟩
  f26 := ⟨Tryd.f119.name, by decide, Tryd.func119.trans (congrArg some (by kernel_rfl))⟩
  f27 := ⟨Tryd.f120.name, by decide, Tryd.func120.trans (congrArg some (by kernel_rfl))⟩
  f28 := Tryd.func121.trans (congrArg some (by kernel_rfl))
  f29 := Tryd.func122.trans (congrArg some (by kernel_rfl))
  f46 := ⟨Tryd.f123.name, by decide, Tryd.func123.trans (congrArg some (by kernel_rfl))⟩
  f47 := Tryd.func124.trans (congrArg some (by kernel_rfl))
  f48 := Tryd.func125.trans (congrArg some (by kernel_rfl))
  f49 := ⟨Tryd.f126.name, by decide, Tryd.func126.trans (congrArg some (by kernel_rfl))⟩
  f50 := ⟨Tryd.f127.name, by decide, Tryd.func127.trans (congrArg some (by kernel_rfl))⟩
  f57 := ⟨Tryd.f128.name, by decide, Tryd.func128.trans (congrArg some (by kernel_rfl))⟩
  t0 := Tryd.underlying0
  a0 := Tryd.isAgg0
  z0 := Tryd.sizeOf0
  v0 := Tryd.zeroValue0
  t3 := Tryd.underlying3
  a3 := Tryd.isAgg3
  z3 := Tryd.sizeOf3
  v3 := Tryd.zeroValue3
  t4 := Tryd.underlying4
  a4 := Tryd.isAgg4
  z4 := Tryd.sizeOf4
  v4 := Tryd.zeroValue4
  t5 := Tryd.underlying5
  a5 := Tryd.isAgg5
  z5 := Tryd.sizeOf5
  v5 := Tryd.zeroValue5
  t9 := Tryd.underlying9
  a9 := Tryd.isAgg9
  z9 := Tryd.sizeOf9
  v9 := Tryd.zeroValue9
  t22 := Tryd.underlying25
  a22 := Tryd.isAgg25
  z22 := Tryd.sizeOf25
  v22 := Tryd.zeroValue25
  t25 := Tryd.underlying172
  a25 := Tryd.isAgg172
  z25 := Tryd.sizeOf172
  v25 := Tryd.zeroValue172
  t39 := Tryd.underlying86
  a39 := Tryd.isAgg86
  z39 := Tryd.sizeOf86
  v39 := Tryd.zeroValue86
  t45 := Tryd.underlying197
  a45 := Tryd.isAgg197
  z45 := Tryd.sizeOf197
  v45 := Tryd.zeroValue197
  t46 := Tryd.underlying198
  a46 := Tryd.isAgg198
  z46 := Tryd.sizeOf198
  v46 := Tryd.zeroValue198
  t50 := Tryd.underlying202
  a50 := Tryd.isAgg202
  z50 := Tryd.sizeOf202
  v50 := Tryd.zeroValue202
  t53 := Tryd.underlying205
  a53 := Tryd.isAgg205
  z53 := Tryd.sizeOf205
  v53 := Tryd.zeroValue205
  t55 := Tryd.underlying22
  a55 := Tryd.isAgg22
  z55 := Tryd.sizeOf22
  v55 := Tryd.zeroValue22
  t66 := Tryd.underlying207
  a66 := Tryd.isAgg207
  z66 := Tryd.sizeOf207
  v66 := Tryd.zeroValue207
  t70 := Tryd.underlying210
  a70 := Tryd.isAgg210
  z70 := Tryd.sizeOf210
  v70 := Tryd.zeroValue210
  t76 := Tryd.underlying212
  a76 := Tryd.isAgg212
  z76 := Tryd.sizeOf212
  v76 := Tryd.zeroValue212
  t77 := Tryd.underlying213
  a77 := Tryd.isAgg213
  z77 := Tryd.sizeOf213
  v77 := Tryd.zeroValue213 }
end Go.Proofs

namespace Go.Proofs.YticefdfhcahlfaaDoor.AM
open Go.RowKit
set_option maxRecDepth 100000
set_option linter.unusedVariables false
set_option linter.unusedSimpArgs false
def GSl (lo : Nat) (σ : St) (v : AVal) (l : Tbl) : Prop := v = .nilsl ∧ l = [] ∨ ∃ o, v = .sl o 0 l.length l.length false ∧ lo ≤ o ∧ o < σ.next ∧ σ.mem.get o = some (.cells 5 (rws rwL l)) ∧ 0 < l.length
theorem GSl.frame' {lo lo' : Nat} {σ1 σ2 : St} {v : AVal} {l : Tbl} (h : GSl lo σ1 v l) (hn : σ1.next ≤ σ2.next) (hl : lo' ≤ lo) (hm : ∀ a, lo ≤ a → a < σ1.next → σ2.mem.get a = σ1.mem.get a) : GSl lo' σ2 v l := by
  rcases h with h | ⟨o, h1, h3, h4, h5, h6⟩
  · exact .inl h
  · exact .inr ⟨o, h1, by omega, by omega, (hm o h3 h4).trans h5, h6⟩
theorem GSl.frame {lo : Nat} {σ1 σ2 : St} {v : AVal} {l : Tbl} (h : GSl lo σ1 v l) (hn : σ1.next ≤ σ2.next) (hm : ∀ a, lo ≤ a → a < σ1.next → σ2.mem.get a = σ1.mem.get a) : GSl lo σ2 v l := h.frame' hn (Nat.le_refl _) hm
theorem GSl.lo {lo : Nat} {σ1 : St} {v : AVal} {l : Tbl} (h : GSl lo σ1 v l) {o : Nat} (hv : v = .sl o 0 l.length l.length false) : lo ≤ o := by
  rcases h with ⟨rfl, _⟩ | ⟨o', rfl, h3, _⟩
  · cases hv
  · cases hv; exact h3
theorem GSl.one {lo : Nat} {σ1 : St} {v : AVal} {l : Tbl} (h : GSl lo σ1 v l) : v.one = true ∧ cellsOf v = [v] := by
  rcases h with ⟨rfl, _⟩ | ⟨o, rfl, _⟩ <;> simp
theorem GSl.gs {lo : Nat} {σ1 : St} {v : AVal} {l : Tbl} (h : GSl lo σ1 v l) : ∃ b, GS rwL σ1 v l b ∧ ∀ x, b = some x → lo ≤ x := by
  rcases h with ⟨rfl, rfl⟩ | ⟨o, rfl, h3, h4, h5, _⟩
  · exact ⟨none, GS.nil _, by simp⟩
  · exact ⟨some o, .inr ⟨o, false, rfl, rfl, h4, h5⟩, fun x hx => by cases hx; exact h3⟩
theorem gsl_app {lo : Nat} {ρ0 ρ : St} {ov : AVal} {l : Tbl} (ho : GSl lo ρ0 ov l) (hn : ρ0.next ≤ ρ.next) (hm : ∀ a, lo ≤ a → a < ρ0.next → ρ.mem.get a = ρ0.mem.get a) (hl : l.length ≤ 100000) {b : Nat} {x : ByteArray × Ln} (hb : ρ.mem.get b = some (.cells 5 (rwL.a x))) (hlo : lo ≤ ρ.next) (hb0 : ρ0.next ≤ b) :
    ∃ w ρ', evalV ρ (.append 5 48 ov (.sl b 0 1 1 true)) = some (w, ρ') ∧ GSl lo ρ' w (l ++ [x]) ∧ ρ'.next = ρ.next + 1 ∧ ∀ a, a < ρ.next → (∀ o, ov = .sl o 0 l.length l.length false → a ≠ o) → ρ'.mem.get a = ρ.mem.get a := by
  obtain ⟨c, hg, hc⟩ := (ho.frame hn hm).gs
  have hc0 : c ≠ some b := fun e => by
    rcases ho with ⟨rfl, rfl⟩ | ⟨o, rfl, _, h4, _⟩
    · rcases hg with ⟨_, _, h⟩ | ⟨_, _, _, h, _⟩
      · rw [h] at e; cases e
      · cases h
    · rcases hg with ⟨h, _⟩ | ⟨_, _, h1, h2, _⟩
      · cases h
      · cases h2; rw [h1] at e; cases e; omega
  obtain ⟨ρ', e1, e2, e3, e4⟩ := gs_app1 hg (nb := b) (by_ := 48) (t := true) (x := x) (by decide) hb hc0 (by omega) (by omega)
  refine ⟨_, ρ', e1, ?_, e3, fun a ha hne => e4 a ha fun e => ?_⟩
  · rcases e2 with ⟨h, _⟩ | ⟨o, t, h1, h2, h3, h4⟩
    · cases h
    · cases h1; exact .inr ⟨ρ.next, by simp, hlo, h3, h4, by simp⟩
  · rcases hg with ⟨_, _, h⟩ | ⟨o, t, h1, h2, _⟩
    · rw [h] at e; cases e
    · rw [h1] at e; cases e
      rcases ho with ⟨rfl, _⟩ | ⟨o', rfl, _⟩
      · cases h2
      · cases h2; exact hne _ rfl rfl
def leftE (S : List Nat) (ents : List Entry) : Nat := ents.countP fun e => decide (e.1 ∉ S)
theorem leftE_lt {S : List Nat} {e : Entry} : ∀ {ents : List Entry}, e ∈ ents → e.1 ∉ S → leftE (S ++ [e.1]) ents < leftE S ents
  | e0 :: ents, h, hs => by
    have hle : leftE (S ++ [e.1]) ents ≤ leftE S ents := List.countP_mono_left fun z _ h => by
      simp only [decide_eq_true_eq, List.mem_append, not_or] at h ⊢; exact h.1
    simp only [leftE, List.countP_cons] at hle ⊢
    rcases List.mem_cons.1 h with rfl | h
    · simp [hs]
      exact Nat.lt_succ_of_le (by simpa using hle)
    · have ih := leftE_lt h hs
      simp only [leftE] at ih
      by_cases h0 : e0.1 ∈ S
      · simp [h0]; simpa using ih
      · by_cases h1 : e0.1 = e.1
        · simp [h0, h1] at ih ⊢; omega
        · simp [h0, h1]; simpa using ih
def VLn (e : MEnt) (x : ByteArray × Ln) : Prop := e.2.2 = .agg (rwL.a x)
theorem rwL_inj {x y : ByteArray × Ln} (h : rwL.a x = rwL.a y) : x = y := by
  obtain ⟨n, a, b, c, d⟩ := x
  obtain ⟨n', a', b', c', d'⟩ := y
  simp only [rwL, List.cons.injEq, AVal.int.injEq, AVal.str.injEq, true_and, and_true] at h
  obtain ⟨h0, h1, h2, h3, h4⟩ := h
  simp only [Prod.mk.injEq]
  exact ⟨h0, by omega, by omega, by omega, by omega⟩
theorem vln_uniq : ∀ {V : List MEnt} {ys zs : Tbl}, All2 VLn V ys → All2 VLn V zs → ys = zs
  | [], [], [], _, _ => rfl
  | [], _ :: _, _, h, _ => h.elim
  | [], _, _ :: _, _, h => h.elim
  | _ :: _, [], _, h, _ => h.elim
  | _ :: _, _, [], _, h => h.elim
  | v :: V, y :: ys, z :: zs, h, k => by
    have e : AVal.agg (rwL.a y) = .agg (rwL.a z) := h.1.symm.trans k.1
    rw [rwL_inj (AVal.agg.inj e), vln_uniq h.2 k.2]
theorem perm_ln {V ents : List MEnt} (hp : V.Perm ents) : ∀ {xs : Tbl}, All2 VLn ents xs → ∃ ys, All2 VLn V ys ∧ ys.Perm xs := by
  induction hp with
  | nil => intro xs h; cases xs with
    | nil => exact ⟨[], trivial, .nil⟩
    | cons => exact h.elim
  | cons x p ih => intro xs h; cases xs with
    | nil => exact h.elim
    | cons y ys => obtain ⟨zs, h1, h2⟩ := ih h.2; exact ⟨y :: zs, ⟨h.1, h1⟩, h2.cons y⟩
  | swap x y l => intro xs h; match xs, h with
    | a :: b :: t, h => exact ⟨b :: a :: t, ⟨h.2.1, h.1, h.2.2⟩, .swap _ _ _⟩
  | trans p q ih1 ih2 => intro xs h; obtain ⟨ys, h1, h2⟩ := ih2 h; obtain ⟨zs, h3, h4⟩ := ih1 h1; exact ⟨zs, h3, h4.trans h2⟩
def ApJ (n0 it b1 mp clock : Nat) (ents : List MEnt) (lp : Loop) (σ0 : St) (mm : Nat) (rg : Regs) (σ' : St) : Prop := ∃ (V : List MEnt) (ys : List (ByteArray × Ln)) (ov : AVal), mm = leftE (V.map (·.1)) ents ∧ V.length + leftE (V.map (·.1)) ents ≤ ents.length ∧ (V.map (·.1)).Nodup ∧ (∀ e ∈ V, e ∈ ents) ∧ All2 VLn V ys ∧
  σ'.mem.get it = some (.iter (some mp) clock (V.map (·.1)) clock) ∧ σ'.mem.get (n0 + 1) = some (.loop lp) ∧ σ'.mem.get n0 = some (.cells 1 [ov]) ∧ GSl (it + 1) σ' ov ys ∧ it < σ'.next ∧ (∀ a, a < n0 → σ'.mem.get a = σ0.mem.get a) ∧ rg = [(0, .yld (n0 + 1)), (6, .ptr it 0)]
theorem appseq_c {σ : St} {b1 mp clock : Nat} {ents : List MEnt} {xs : List (ByteArray × Ln)} (hb : σ.mem.get b1 = some (.cells 1 [.map mp])) (hm : σ.mem.get mp = some (.map clock ents)) (hb1 : b1 < σ.next) (hmp : mp < σ.next) (hs : ∀ e ∈ ents, e.1 < clock) (hn : (ents.map (·.1)).Nodup) (hx : All2 VLn ents xs) (hl : ents.length ≤ 10000)
    (Q : AVal → St → Prop) (hQ : ∀ v ys σ', ys.Perm xs → GSl σ.next σ' v ys → Grow σ σ' → Q v σ') : ACall Tryd.prog 109 [.nilsl, .fn 104 [] [.ptr b1 0]] σ Q := by
  refine ACall.of_compF hmx (fun a w => Tryd.call109 a w) Tryd.func109 cf109 (n := 2) (by decide) rfl ?_
  simp [ac109, rs109, lk_cons]
  intro lp hlp1 hlp2
  refine ACall.of_compF hmx (fun a w => Tryd.call104 a w) Tryd.func104 cf104 (n := 2) (by decide) rfl ?_
  have z1 : ¬ b1 = σ.next := by omega
  have z2 : ¬ b1 = σ.next + 1 := by omega
  have z3 : ¬ mp = σ.next := by omega
  have z4 : ¬ mp = σ.next + 1 := by omega
  simp [ac104, rs104, lk_cons, hb, hm, z1, z2, z3, z4]
  refine wp_loop (ApJ σ.next (σ.next + 1 + 1) b1 mp clock ents lp σ) (leftE [] ents) ?_ ?_
  · refine ⟨[], [], .nilsl, rfl, by simp [leftE, List.countP_le_length], List.nodup_nil, fun e he => (by cases he), trivial, by simp, by simp [show ¬ σ.next + 1 = σ.next + 1 + 1 by omega], by simp [show ¬ σ.next = σ.next + 1 by omega, show ¬ σ.next = σ.next + 1 + 1 by omega], .inl ⟨rfl, rfl⟩, by simp, fun a ha => by simp [show ¬ a = σ.next by omega, show ¬ a = σ.next + 1 by omega, show ¬ a = σ.next + 1 + 1 by omega], rfl⟩
  · rintro mm rg σ' ⟨V, ys, ov, rfl, hvl, hv1, hv2, hv3, g1, g2, g3, g4, g5, g6, rfl⟩
    have q1 : mp < σ.next := hmp
    obtain ⟨L, n1, n2⟩ := next_all g1 ((g6 mp hmp).trans hm) hs
    simp [lk_cons, ↓n1]
    intro p1 p2 hp
    rcases n2 _ hp with ⟨he, hall⟩ | ⟨e, he, hne, hpe⟩
    · cases he
      have hperm := walked hn hv1 hv2 hall
      obtain ⟨zs, hz1, hz2⟩ := perm_ln hperm hx
      have hyz : ys = zs := vln_uniq hv3 hz1
      subst hyz
      simp [lk_cons, g2, g3, hlp1, hlp2, afterQ]
      refine hQ ov ys _ hz2 (g4.frame' (Nat.le_refl _) (by omega) fun a ha _ => by simp [show ¬ a = σ.next + 1 by omega]) ⟨by simp; omega, fun a ha => by simp [show ¬ a = σ.next + 1 by omega]; exact g6 a ha⟩
    · cases hpe
      have el := entry_last (σ := ⟨σ'.mem.set (σ.next + 1 + 1) (.iter (some mp) clock (V.map (·.1) ++ [e.1]) clock), σ'.next⟩) (it := σ.next + 1 + 1) (mp := mp) (clock := clock) (S := V.map (·.1)) (by simp) (by simp [show ¬ mp = σ.next + 1 + 1 by omega, g6 mp hmp, hm]) hn he
      obtain ⟨j, hj⟩ := List.getElem?_of_mem he
      obtain ⟨x, hx1, hx2⟩ := hx.get hj
      simp only [VLn, rwL] at hx2
      have hyl : ys.length ≤ 100000 := by have := hv3.len; omega
      rw [hx2] at el
      simp [lk_cons, ↓el, storeL]
      refine ⟨fun v σ3 => v = .bool true ∧ ∃ ov', σ3.mem.get σ.next = some (.cells 1 [ov']) ∧ GSl (σ.next + 1 + 1 + 1) σ3 ov' (ys ++ [x]) ∧ σ3.mem.get (σ.next + 1) = some (.loop lp) ∧ σ3.mem.get (σ.next + 1 + 1) = some (.iter (some mp) clock (V.map (·.1) ++ [e.1]) clock) ∧ σ'.next ≤ σ3.next ∧ ∀ a, a < σ.next → σ3.mem.get a = σ.mem.get a, ?_, ?_⟩
      · have w1 : ¬ σ.next = σ'.next := by omega
        have w2 : ¬ σ.next + 1 = σ'.next := by omega
        have w3 : ¬ σ.next = σ'.next + 1 := by omega
        have w4 : ¬ σ.next = σ.next + 1 + 1 := by omega
        have w5 : ¬ σ.next = σ'.next + 1 + 1 := by omega
        have v1 : ¬ σ'.next = σ.next := by omega
        have v2 : ¬ σ'.next = σ.next + 1 := by omega
        have v3 : ¬ σ'.next + 1 = σ.next := by omega
        have v4 : ¬ σ.next + 1 = σ'.next + 1 + 1 := by omega
        have v5 : ¬ σ.next + 1 + 1 = σ'.next := by omega
        have v6 : ¬ σ.next + 1 + 1 = σ'.next + 1 := by omega
        have v7 : ¬ σ.next + 1 = σ'.next + 1 := by omega
        obtain ⟨w, ρ', e1, e2, e3, e4⟩ := gsl_app (x := x) (b := σ'.next + 1 + 1) (ρ := ⟨((((((σ'.mem.set (σ.next + 1 + 1) (.iter (some mp) clock (V.map (·.1) ++ [e.1]) clock)).set σ'.next (.cells 5 [.str ⟨#[]⟩, .int .u64 0, .int .u64 0, .int .u64 0, .int .u64 0])).set σ'.next (.cells 5 [.str x.1, u64 (x.2.1 : Int), u64 (x.2.2.1 : Int), u64 (x.2.2.2.1 : Int), u64 (x.2.2.2.2 : Int)])).set (σ'.next + 1) (.cells 5 [.str ⟨#[]⟩, .int .u64 0, .int .u64 0, .int .u64 0, .int .u64 0])).set (σ'.next + 1) (.cells 5 [.str x.1, u64 (x.2.1 : Int), u64 (x.2.2.1 : Int), u64 (x.2.2.2.1 : Int), u64 (x.2.2.2.2 : Int)])).set (σ.next + 1) (.loop { lp with state := .busy })).set (σ'.next + 1 + 1) (.cells 5 [.str x.1, u64 (x.2.1 : Int), u64 (x.2.2.1 : Int), u64 (x.2.2.2.1 : Int), u64 (x.2.2.2.2 : Int)]), σ'.next + 1 + 1 + 1⟩) g4 (by simp; omega) (fun a ha hb => by simp [show ¬ a = σ.next + 1 by omega, show ¬ a = σ.next + 1 + 1 by omega, show ¬ a = σ'.next by omega, show ¬ a = σ'.next + 1 by omega, show ¬ a = σ'.next + 1 + 1 by omega]) hyl (by simp [rwL]) (by simp; omega) (by omega)
        simp [roundY, bindP, lk_cons, storeL, w1, w2, w3, w4, w5, v1, v2, v3, v4, v5, v6, v7, g2, g3, fillL, repL, ↓e1]
        have m0 : ρ'.mem.get σ.next = some (.cells 1 [ov]) := by
          rw [e4 _ (by simp; omega) fun o ho => by have := g4.lo ho; omega]
          simp [w1, w2, w3, w4, w5, v1, v2, v3, v4, v5, v6, v7, g3]
          all_goals omega
        have m1 : ρ'.mem.get (σ.next + 1) = some (.loop { lp with state := .busy }) := by
          rw [e4 _ (by simp; omega) fun o ho => by have := g4.lo ho; omega]
          simp [v4]
          all_goals omega
        have m2 : ρ'.mem.get (σ.next + 1 + 1) = some (.iter (some mp) clock (V.map (·.1) ++ [e.1]) clock) := by
          rw [e4 _ (by simp; omega) fun o ho => by have := g4.lo ho; omega]
          simp [v5, v6, w2, show ¬ σ.next = σ'.next by omega]
        simp [m0, e2.one, storeL, roundQ, m1, m2, lk_cons]
        refine ⟨e2.frame (by simp) fun a ha hb => by simp [show ¬ a = σ.next + 1 by omega, show ¬ a = σ.next by omega], by omega, by rw [e3]; simp; omega, fun a ha => ?_⟩
        simp [show ¬ a = σ.next + 1 by omega, show ¬ a = σ.next by omega]
        rw [e4 _ (by simp; omega) fun o ho => by have := g4.lo ho; omega]
        simp [show ¬ a = σ.next + 1 by omega, show ¬ a = σ.next + 1 + 1 by omega, show ¬ a = σ'.next by omega, show ¬ a = σ'.next + 1 by omega, show ¬ a = σ'.next + 1 + 1 by omega]
        exact g6 a ha
      · rintro v σ3 ⟨rfl, ov', k1, k2, k3, k4, k5, k6⟩
        simp [lk_cons]
        refine ⟨leftE ((V ++ [e]).map (·.1)) ents, by rw [List.map_append]; exact leftE_lt he hne, V ++ [e], ys ++ [x], ov', rfl, by rw [List.map_append, List.length_append]; have := leftE_lt he hne; simp only [List.map_cons, List.map_nil, List.length_cons, List.length_nil]; omega, ?_, ?_, All2.snoc (R := VLn) hx2 hv3, by simpa using k4, k3, k1, k2, by omega, k6, rfl⟩
        · rw [List.map_append, List.nodup_append]
          exact ⟨hv1, by simp, fun a ha b hb e => by simp at hb; subst hb; subst e; exact hne ha⟩
        · intro y hy
          rcases List.mem_append.1 hy with hy | hy
          · exact hv2 y hy
          · rw [List.mem_singleton.1 hy]; exact he
end Go.Proofs.YticefdfhcahlfaaDoor.AM

namespace Go.Proofs.YticefdfhcahlfaaDoor.AM
open Go.RowKit
open Go.Sort hiding Below ahead
open Go.Shelf
set_option maxRecDepth 100000
set_option linter.unusedVariables false
set_option linter.unusedSimpArgs false
def ordS (a b : ByteArray) : Int := if lessB a b then -1 else if a = b then 0 else 1
theorem ordS_lt {a b : ByteArray} : ordS a b < 0 ↔ lessB a b = true := by
  unfold ordS
  cases h : lessB a b with
  | true => simp
  | false =>
    by_cases he : a = b
    · simp [he]
    · simp [he]
theorem baEq (a b : ByteArray) : (a.toList == b.toList) = decide (a = b) := by
  have h := strEq a b
  simp only [abinS, Option.some.injEq, AVal.bool.injEq] at h
  exact h
theorem nanS_c (a : ByteArray) (σ : St) (Q : AVal → St → Prop) (h : Q (.bool false) σ) : ACall Tryd.prog 105 [.str a] σ Q := by
  refine ACall.of_compF hmx (fun a w => Tryd.call105 a w) Tryd.func105 cf105 (n := 1) (by decide) rfl ?_
  have e : abinS .neq a a = some (.bool false) := by simp [abinS]
  simp [ac105, rs105, lk_cons, e]
  exact h
theorem cmpS_c (a b : ByteArray) (σ : St) (Q : AVal → St → Prop) (h : Q (i64 (ordS a b)) σ) : ACall Tryd.prog 92 [.str a, .str b] σ Q := by
  refine ACall.of_compF hmx (fun a w => Tryd.call92 a w) Tryd.func92 cf92 (n := 2) (by decide) rfl ?_
  simp [ac92, rs92, lk_cons]
  refine nanS_c _ _ _ ?_
  simp [lk_cons]
  refine nanS_c _ _ _ ?_
  have e1 := strLss a b
  have e2 : abinS .gtr a b = some (.bool !(lessB a b || decide (a = b))) := by simp only [abinS, bLess, baEq]
  unfold ordS at h
  cases hl : lessB a b with
  | true =>
    rw [hl] at h e1 e2
    simp [lk_cons, e1]
    simpa using h
  | false =>
    rw [hl] at h e1 e2
    by_cases he : a = b
    · rw [decide_eq_true he] at e2
      simp [lk_cons, e1, e2]
      simpa [he] using h
    · rw [decide_eq_false he] at e2
      simp [lk_cons, e1, e2]
      simpa [he] using h
def ordL (x y : ByteArray × Ln) : Int := ordS x.1 y.1
theorem swoL : SWO (ltOf ordL) where
  irrefl x := by simp only [ltOf, ordL, ordS_lt, decide_eq_false_iff_not, lessB_irrefl]; simp
  trans x y z h1 h2 := by simp only [ltOf, decide_eq_true_eq, ordL, ordS_lt] at *; exact lessB_trans h1 h2
  ntrans x y z h1 h2 := by
    simp only [ltOf, decide_eq_false_iff_not, ordL, ordS_lt, Bool.not_eq_true] at *
    exact lessB_ntrans h1 h2
theorem lncmp_c (x y : ByteArray × Ln) (σ : St) (Q : AVal → St → Prop) (h : Q (i64 (ordL x y)) σ) : ACall Tryd.prog 91 [.agg (rwL.a x), .agg (rwL.a y)] σ Q := by
  refine ACall.scrub ?_
  refine ACall.of_compF hmx (fun a w => Tryd.call91 a w) Tryd.func91 cf91 (n := 2) (by decide) rfl ?_
  simp [ac91, rs91, lk_cons, rwL]
  refine cmpS_c _ _ _ _ ?_
  simp [lk_cons]
  exact ⟨fun a ha => by simp [show ¬ a = σ.next by omega, show ¬ a = σ.next + 1 by omega], h⟩
def lnRow : RowOf (ByteArray × Ln) 5 where
  a := rwL.a
  c x := [.string x.1, .int .u64 (x.2.1 : Int), .int .u64 (x.2.2.1 : Int), .int .u64 (x.2.2.2.1 : Int), .int .u64 (x.2.2.2.2 : Int)]
  la _ := rfl
  lc _ := rfl
  rel x i v u h1 h2 ρ I u' := by
    match i with
    | 0 => simp [rwL] at h1 h2; subst h1; subst h2; simp [VRel]
    | 1 => simp [rwL] at h1 h2; subst h1; subst h2; simp [VRel]
    | 2 => simp [rwL] at h1 h2; subst h1; subst h2; simp [VRel]
    | 3 => simp [rwL] at h1 h2; subst h1; subst h2; simp [VRel]
    | 4 => simp [rwL] at h1 h2; subst h1; subst h2; simp [VRel]
    | i + 5 => simp [rwL] at h1
  one x := rfl
  onec x v h := by simp at h; rcases h with rfl | rfl | rfl | rfl | rfl <;> rfl
theorem rows_ln (l : Tbl) : rowsA lnRow l = rws rwL l := rfl
theorem sortl_c {σ : St} {a : Nat} {l : Tbl} (hne : l ≠ []) (hl : l.length ≤ 100000) (hm : σ.mem.get a = some (.cells 5 (rws rwL l))) (Q : AVal → St → Prop)
    (hQ : ∀ l', l'.Perm l → RisL l' → Q (.tup []) ⟨σ.mem.set a (.cells 5 (rws rwL l')), σ.next⟩) : ACall Tryd.prog 103 [.sl a 0 l.length l.length false, .fn 91 [] []] σ Q := by
  have h := sortf_calls Tryd.sortLn lnRow (by decide) (fun w => by kernel_rfl) (fun w => by kernel_rfl) swoL (fun a w => Tryd.call91 a w) (fun x y => lncmp_c x y _ _ rfl) (fun a w => Tryd.call103 a w) (σ := σ) (a := a) (cap := l.length) (t := false) (post := []) hne (by omega) (by simpa [rows_ln] using hm) Q (fun l' h1 h2 => by
    have := hQ l' h1 fun i j x y hij hx hy => by
      have := h2 i j x y hij hx hy
      simp only [ordL, ordS_lt, Bool.not_eq_true] at this
      exact this
    simpa [rows_ln] using this)
  exact h
theorem sortl_nil (σ : St) (fv : AVal) (Q : AVal → St → Prop) (hQ : Q (.tup []) σ) : ACall Tryd.prog 103 [.nilsl, fv] σ Q := by
  refine ACall.ofCalls (fun a w => Tryd.call103 a w) fun B w0 ρ I w cargs rl hsz hargs => ?_
  obtain ⟨u0, h0, v0⟩ := hargs.get 0 _ rfl
  obtain ⟨u1, h1, v1⟩ := hargs.get 1 _ rfl
  simp only [VRel] at v0
  subst v0
  have hca : cargs = #[.slice none 0 0, u1] := by
    apply Array.ext_getElem?
    intro i
    have hs : cargs.size = 2 := hsz
    match i with
    | 0 => exact h0
    | 1 => exact h1
    | i + 2 => rw [Array.getElem?_eq_none (by omega), Array.getElem?_eq_none (by simp)]
  subst hca
  refine (AnyF.slices_SortFunc_none { Tryd.sortLn with } none 0 u1 w).mono ?_
  rintro e w' ⟨rfl, rfl⟩
  exact ⟨.tup [], σ, ρ, I, .tuple #[], rfl, by simp only [VRel]; exact ⟨_, rfl, rfl, trivial⟩, rl, Ext.refl _ _ _, hQ⟩
theorem vln_of : ∀ {ents : List MEnt} {T : Tbl}, All2 EntL ents T → All2 VLn ents T := fun h => h.imp fun _ _ h => h.2
theorem all_c {σ : St} {t mp : Nat} {T : Tbl} (h : TRep σ t mp T) (hl : T.length ≤ 10000) (Q : AVal → St → Prop)
    (hQ : ∀ v ys σ' b', ys.Perm T → RisL ys → GS rwL σ' v ys b' → (∀ x, b' = some x → σ.next ≤ x) → Grow σ σ' → Q v σ') : ACall Tryd.prog 66 [.ptr t 0] σ Q := by
  refine ACall.of_compF hmx (fun a w => Tryd.call66 a w) Tryd.func66 cf66 (n := 1) (by decide) rfl ?_
  have hh := h.head
  have hlt := h.lt
  obtain ⟨clock, ents, hm, ha, hs, hd⟩ := h.map
  have hle := ha.len
  simp [ac66, rs66, lk_cons, hh]
  refine ACall.of_compF hmx (fun a w => Tryd.call90 a w) Tryd.func90 cf90 (n := 1) (by decide) rfl ?_
  simp [ac90, rs90, lk_cons]
  refine ACall.of_compF hmx (fun a w => Tryd.call89 a w) Tryd.func89 cf89 (n := 2) (by decide) rfl ?_
  simp [ac89, rs89, lk_cons]
  refine ACall.of_compF hmx (fun a w => Tryd.call102 a w) Tryd.func102 cf102 (n := 1) (by decide) rfl ?_
  simp [ac102, rs102, lk_cons]
  refine appseq_c (b1 := σ.next) (mp := mp) (clock := clock) (ents := ents) (xs := T) (by simp) (by simp [show ¬ mp = σ.next by omega, hm]) (by simp) (by simp; omega) hs hd (vln_of ha) (by omega) _ fun v ys σ' p1 p2 p3 => ?_
  have hg : Grow σ σ' := ⟨by have := p3.1; simp at this; omega, fun a ha => by rw [p3.2 a (by simp; omega)]; simp [show ¬ a = σ.next by omega]⟩
  have pl := p1.length_eq
  simp [lk_cons]
  rcases p2 with ⟨rfl, rfl⟩ | ⟨o, rfl, q2, q3, q4, q5⟩
  · refine sortl_nil _ _ _ ?_
    simp [lk_cons]
    exact hQ _ [] _ none p1 (fun i j x y _ h => by simp at h) (GS.nil _) (by simp) hg
  · simp at q2
    refine sortl_c (by intro e; subst e; simp at q5) (by omega) q4 _ fun l' s1 s2 => ?_
    have sl := s1.length_eq
    simp [lk_cons]
    refine hQ _ l' _ (some o) (s1.trans p1) s2 (.inr ⟨o, false, rfl, by rw [sl], q3, by simp⟩) (fun x hx => by cases hx; omega) ⟨hg.1, fun a ha => ?_⟩
    simp [show ¬ a = o by omega]
    exact hg.2 a ha
end Go.Proofs.YticefdfhcahlfaaDoor.AM

namespace Go.Proofs.YticefdfhcahlfaaDoor.AM
set_option linter.unusedVariables false
set_option linter.unusedSimpArgs false
structure S25 where
  f0 : Int
  f1 : Int
deriving DecidableEq
def InP (l : List S25) (n : Int) : Prop := ∃ x ∈ l, x.f0 ≤ n ∧ n < x.f1
def Can : Int → List S25 → Prop
  | _, [] => True
  | b, x :: t => b < x.f0 ∧ x.f0 < x.f1 ∧ Can x.f1 t
theorem in_nil (n : Int) : ¬ InP [] n := by simp [InP]
theorem in_cons (x : S25) (t : List S25) (n : Int) : InP (x :: t) n ↔ (x.f0 ≤ n ∧ n < x.f1) ∨ InP t n := by simp [InP]
theorem in_app (s t : List S25) (n : Int) : InP (s ++ t) n ↔ InP s n ∨ InP t n := by
  simp only [InP, List.mem_append]
  constructor
  · rintro ⟨x, h | h, r⟩
    · exact .inl ⟨x, h, r⟩
    · exact .inr ⟨x, h, r⟩
  · rintro (⟨x, h, r⟩ | ⟨x, h, r⟩)
    · exact ⟨x, .inl h, r⟩
    · exact ⟨x, .inr h, r⟩
theorem can_in : ∀ {l : List S25} {b n : Int}, Can b l → InP l n → b < n
  | [], _, _, _, h => absurd h (in_nil _)
  | x :: t, b, n, hc, h => by
    obtain ⟨h1, h2, h3⟩ := hc
    rcases (in_cons x t n).1 h with h | h
    · omega
    · have := can_in h3 h; omega
theorem can_mem : ∀ {l : List S25} {b : Int}, Can b l → ∀ x ∈ l, b < x.f0 ∧ x.f0 < x.f1
  | [], _, _, _, h => absurd h (List.not_mem_nil)
  | y :: t, b, hc, x, h => by
    obtain ⟨h1, h2, h3⟩ := hc
    rcases List.mem_cons.1 h with rfl | h
    · exact ⟨h1, h2⟩
    · have := can_mem h3 x h; omega
theorem can_snoc : ∀ {m : List S25} {b : Int} {z : S25}, Can b m → (∀ w ∈ m, w.f1 < z.f0) → b < z.f0 → z.f0 < z.f1 → Can b (m ++ [z])
  | [], _, _, _, _, h1, h2 => ⟨h1, h2, trivial⟩
  | x :: t, b, z, hc, hw, h1, h2 => ⟨hc.1, hc.2.1, can_snoc hc.2.2 (fun w h => hw w (List.mem_cons_of_mem _ h)) (hw x List.mem_cons_self) h2⟩
theorem can_snoc_inv : ∀ {m : List S25} {b : Int} {z : S25}, Can b (m ++ [z]) → Can b m ∧ (∀ w ∈ m, w.f1 < z.f0) ∧ b < z.f0 ∧ z.f0 < z.f1
  | [], _, _, h => ⟨trivial, fun _ h => absurd h List.not_mem_nil, h.1, h.2.1⟩
  | x :: t, b, z, h => by
    obtain ⟨h1, h2, h3⟩ := h
    obtain ⟨k1, k2, k3, k4⟩ := can_snoc_inv (m := t) h3
    refine ⟨⟨h1, h2, k1⟩, fun w hw => ?_, by omega, k4⟩
    rcases List.mem_cons.1 hw with rfl | hw
    · exact k3
    · exact k2 w hw
def GoodR (l : List S25) : Prop := Can (-1) l ∧ ∀ n, InP l n → n < 18446744073709551615
theorem good_mem {l : List S25} (h : GoodR l) : ∀ x ∈ l, 0 ≤ x.f0 ∧ x.f0 < x.f1 ∧ x.f1 ≤ 18446744073709551615 := fun x hx => by
  have h1 := can_mem h.1 x hx
  have h2 := h.2 (x.f1 - 1) ⟨x, hx, by omega, by omega⟩
  omega
def inB (l : List S25) (n : Int) : Bool := l.any fun x => decide (x.f0 ≤ n ∧ n < x.f1)
theorem inB_iff (l : List S25) (n : Int) : inB l n = true ↔ InP l n := by
  simp [inB, InP]
def putM (e : Int) : List Int → List Int
  | [] => [e]
  | y :: t => if y < e then y :: putM e t else if y = e then y :: t else e :: y :: t
def Inc : Int → List Int → Prop
  | _, [] => True
  | b, y :: t => b < y ∧ Inc y t
theorem put_spec (e : Int) : ∀ (l : List Int) (b : Int), Inc b l → b < e → Inc b (putM e l) ∧ (∀ y, y ∈ putM e l ↔ y = e ∨ y ∈ l) ∧ (putM e l).length ≤ l.length + 1
  | [], b, _, h => ⟨⟨h, trivial⟩, fun y => by simp [putM], by simp [putM]⟩
  | x :: t, b, hi, h => by
    obtain ⟨h1, h2⟩ := hi
    unfold putM
    by_cases c1 : x < e
    · rw [if_pos c1]
      obtain ⟨r1, r2, r3⟩ := put_spec e t x h2 c1
      refine ⟨⟨h1, r1⟩, fun y => ?_, by simp only [List.length_cons]; omega⟩
      rw [List.mem_cons, r2, List.mem_cons]
      constructor
      · rintro (h | h | h)
        · exact .inr (.inl h)
        · exact .inl h
        · exact .inr (.inr h)
      · rintro (h | h | h)
        · exact .inr (.inl h)
        · exact .inl h
        · exact .inr (.inr h)
    · rw [if_neg c1]
      by_cases c2 : x = e
      · rw [if_pos c2]
        subst c2
        exact ⟨⟨h1, h2⟩, fun y => by simp, by simp⟩
      · rw [if_neg c2]
        exact ⟨⟨h, by omega, h2⟩, fun y => by simp, by simp⟩
def endsM : List S25 → List Int → List Int
  | [], acc => acc
  | x :: t, acc => endsM t (putM x.f1 (putM x.f0 acc))
theorem ends_spec : ∀ (l : List S25) (acc : List Int), (∀ x ∈ l, 0 ≤ x.f0 ∧ 0 ≤ x.f1) → Inc (-1) acc → Inc (-1) (endsM l acc) ∧ (∀ y, y ∈ endsM l acc ↔ y ∈ acc ∨ ∃ x ∈ l, y = x.f0 ∨ y = x.f1) ∧ (endsM l acc).length ≤ acc.length + 2 * l.length
  | [], acc, _, h => ⟨h, fun y => by simp [endsM], by simp [endsM]⟩
  | x :: t, acc, hp, h => by
    have hx := hp x List.mem_cons_self
    obtain ⟨a1, a2, a3⟩ := put_spec x.f0 acc (-1) h (by omega)
    obtain ⟨b1, b2, b3⟩ := put_spec x.f1 _ (-1) a1 (by omega)
    obtain ⟨r1, r2, r3⟩ := ends_spec t _ (fun z hz => hp z (List.mem_cons_of_mem _ hz)) b1
    refine ⟨r1, fun y => ?_, by simp only [endsM, List.length_cons]; omega⟩
    show y ∈ endsM t _ ↔ _
    rw [r2, b2, a2]
    simp only [List.mem_cons, exists_eq_or_imp]
    constructor
    · rintro ((h | h | h) | h)
      · exact .inr (.inl (.inr h))
      · exact .inr (.inl (.inl h))
      · exact .inl h
      · exact .inr (.inr h)
    · rintro (h | (h | h) | h)
      · exact .inl (.inr (.inr h))
      · exact .inl (.inr (.inl h))
      · exact .inl (.inl h)
      · exact .inr h
def pushM (acc : List S25) (a c : Int) : List S25 := match acc.getLast? with
  | some z => if z.f1 = a then acc.dropLast ++ [⟨z.f0, c⟩] else acc ++ [⟨a, c⟩]
  | none => [⟨a, c⟩]
theorem push_nil (a c : Int) : pushM [] a c = [⟨a, c⟩] := rfl
theorem push_snoc (m : List S25) (z : S25) (a c : Int) : pushM (m ++ [z]) a c = if z.f1 = a then m ++ [⟨z.f0, c⟩] else (m ++ [z]) ++ [⟨a, c⟩] := by
  unfold pushM
  simp
theorem push_spec (acc : List S25) (a c : Int) (hac : a < c) (h0 : 0 ≤ a) (hc : Can (-1) acc) (hb : ∀ z ∈ acc, z.f1 ≤ a) :
    Can (-1) (pushM acc a c) ∧ (∀ z ∈ pushM acc a c, z.f1 ≤ c) ∧ (∀ n, InP (pushM acc a c) n ↔ InP acc n ∨ (a ≤ n ∧ n < c)) ∧ (pushM acc a c).length ≤ acc.length + 1 := by
  rcases List.eq_nil_or_concat acc with rfl | ⟨m, z, rfl⟩
  · rw [push_nil]
    exact ⟨⟨by show -1 < a; omega, hac, trivial⟩, fun z hz => by rw [List.mem_singleton.1 hz]; exact Int.le_refl _, fun n => by simp [InP], by simp⟩
  · rw [List.concat_eq_append] at *
    rw [push_snoc]
    obtain ⟨k1, k2, k3, k4⟩ := can_snoc_inv hc
    have hz := hb z (by simp)
    have hm : ∀ w ∈ m, w.f1 ≤ a := fun w hw => hb w (by simp [hw])
    by_cases h : z.f1 = a
    · rw [if_pos h]
      refine ⟨can_snoc k1 k2 k3 (by show z.f0 < c; omega), fun w hw => ?_, fun n => ?_, by simp⟩
      · rcases List.mem_append.1 hw with hw | hw
        · have := hm w hw; omega
        · rw [List.mem_singleton.1 hw]; exact Int.le_refl _
      · rw [in_app, in_app, in_cons, in_cons]
        have := in_nil n
        have e : (z.f0 ≤ n ∧ n < c) ↔ (z.f0 ≤ n ∧ n < z.f1) ∨ (a ≤ n ∧ n < c) := by omega
        show InP m n ∨ (z.f0 ≤ n ∧ n < c) ∨ _ ↔ _
        rw [e]
        constructor
        · rintro (h | (h | h) | h)
          · exact .inl (.inl h)
          · exact .inl (.inr (.inl h))
          · exact .inr h
          · exact absurd h this
        · rintro ((h | h | h) | h)
          · exact .inl h
          · exact .inr (.inl (.inl h))
          · exact absurd h this
          · exact .inr (.inl (.inr h))
    · rw [if_neg h]
      refine ⟨can_snoc hc (fun w hw => ?_) (by show -1 < a; omega) hac, fun w hw => ?_, fun n => ?_, by simp⟩
      · show w.f1 < a
        rcases List.mem_append.1 hw with hw | hw
        · have := k2 w hw; omega
        · rw [List.mem_singleton.1 hw]; omega
      · rcases List.mem_append.1 hw with hw | hw
        · have := hb w hw; omega
        · rw [List.mem_singleton.1 hw]; exact Int.le_refl _
      · rw [in_app, in_cons]
        have := in_nil n
        constructor
        · rintro (h | h | h)
          · exact .inl h
          · exact .inr h
          · exact absurd h this
        · rintro (h | h)
          · exact .inl h
          · exact .inr (.inl h)
def keepB (x y : List S25) (a : Int) : Bool := inB x a && !inB y a
def setM (x y : List S25) : List S25 → List Int → List S25
  | acc, a :: c :: t => setM x y (if keepB x y a = true then pushM acc a c else acc) (c :: t)
  | acc, _ => acc
theorem seg_in {x : List S25} {e : List Int} (hx : ∀ z ∈ x, z.f0 ∈ e ∧ z.f1 ∈ e) {a c : Int} (hm : ∀ m ∈ e, m ≤ a ∨ c ≤ m) {n : Int} (h : a ≤ n ∧ n < c) : InP x n ↔ InP x a := by
  constructor
  · rintro ⟨z, hz, h1, h2⟩
    have := hm _ (hx z hz).1
    exact ⟨z, hz, by omega, by omega⟩
  · rintro ⟨z, hz, h1, h2⟩
    have := hm _ (hx z hz).2
    exact ⟨z, hz, by omega, by omega⟩
theorem inc_mem : ∀ {t : List Int} {a : Int}, Inc a t → ∀ m ∈ t, a < m
  | [], _, _, _, h => absurd h List.not_mem_nil
  | y :: t, a, hi, m, h => by
    rcases List.mem_cons.1 h with rfl | h
    · exact hi.1
    · have := inc_mem hi.2 m h
      have := hi.1
      omega
theorem set_spec {x y : List S25} {e : List Int} (hx : ∀ z ∈ x, z.f0 ∈ e ∧ z.f1 ∈ e) (hy : ∀ z ∈ y, z.f0 ∈ e ∧ z.f1 ∈ e) : ∀ (t : List Int) (a : Int) (acc : List S25), Inc a t → 0 ≤ a → (∀ m ∈ e, m ≤ a ∨ m ∈ t) → Can (-1) acc → (∀ z ∈ acc, z.f1 ≤ a) → (∀ n, InP acc n ↔ n < a ∧ InP x n ∧ ¬ InP y n) →
    Can (-1) (setM x y acc (a :: t)) ∧ (∀ n, InP (setM x y acc (a :: t)) n ↔ InP x n ∧ ¬ InP y n) ∧ (setM x y acc (a :: t)).length ≤ acc.length + t.length
  | [], a, acc, _, _, hm, hc, _, hn => by
    refine ⟨hc, fun n => ?_, by simp [setM]⟩
    show InP acc n ↔ _
    rw [hn]
    constructor
    · exact fun h => h.2
    · intro h
      obtain ⟨z, hz, h1, h2⟩ := h.1
      have := hm _ (hx z hz).2
      simp only [List.not_mem_nil, or_false] at this
      exact ⟨by omega, h⟩
  | c :: t, a, acc, hi, h0, hm, hc, hb, hn => by
    obtain ⟨hac, hi'⟩ := hi
    have hm' : ∀ m ∈ e, m ≤ a ∨ c ≤ m := fun m h => by
      rcases hm m h with h | h
      · exact .inl h
      · rcases List.mem_cons.1 h with rfl | h
        · exact .inr (Int.le_refl _)
        · have := inc_mem hi' m h; omega
    have hm2 : ∀ m ∈ e, m ≤ c ∨ m ∈ t := fun m h => by
      rcases hm m h with h | h
      · exact .inl (by omega)
      · rcases List.mem_cons.1 h with rfl | h
        · exact .inl (Int.le_refl _)
        · exact .inr h
    show Can (-1) (setM x y (if keepB x y a = true then pushM acc a c else acc) (c :: t)) ∧ (∀ n, InP (setM x y (if keepB x y a = true then pushM acc a c else acc) (c :: t)) n ↔ _) ∧ (setM x y (if keepB x y a = true then pushM acc a c else acc) (c :: t)).length ≤ _
    have hk : keepB x y a = true ↔ InP x a ∧ ¬ InP y a := by
      unfold keepB
      rw [Bool.and_eq_true, Bool.not_eq_true', inB_iff, ← inB_iff y, Bool.not_eq_true]
    by_cases h : keepB x y a = true
    · rw [if_pos h]
      obtain ⟨p1, p2, p3, p4⟩ := push_spec acc a c hac h0 hc hb
      obtain ⟨r1, r2, r3⟩ := set_spec hx hy t c (pushM acc a c) hi' (by omega) hm2 p1 p2 (fun n => by
        rw [p3, hn]
        constructor
        · rintro (⟨h1, h2⟩ | h1)
          · exact ⟨by omega, h2⟩
          · refine ⟨h1.2, ?_⟩
            rw [seg_in hx hm' h1, seg_in hy hm' h1]
            exact hk.1 h
        · rintro ⟨h1, h2⟩
          by_cases h3 : n < a
          · exact .inl ⟨h3, h2⟩
          · exact .inr ⟨by omega, h1⟩)
      exact ⟨r1, r2, by simp only [List.length_cons]; omega⟩
    · rw [if_neg h]
      obtain ⟨r1, r2, r3⟩ := set_spec hx hy t c acc hi' (by omega) hm2 hc (fun z hz => by have := hb z hz; omega) (fun n => by
        rw [hn]
        constructor
        · rintro ⟨h1, h2⟩
          exact ⟨by omega, h2⟩
        · rintro ⟨h1, h2⟩
          refine ⟨?_, h2⟩
          by_cases h3 : n < a
          · exact h3
          · rw [seg_in hx hm' ⟨by omega, h1⟩, seg_in hy hm' ⟨by omega, h1⟩] at h2
            exact absurd (hk.2 h2) h)
      exact ⟨r1, r2, by simp only [List.length_cons]; omega⟩
end Go.Proofs.YticefdfhcahlfaaDoor.AM

namespace Go.Proofs.YticefdfhcahlfaaDoor.AM
open Go.RowKit
set_option maxRecDepth 100000
set_option linter.unusedVariables false
set_option linter.unusedSimpArgs false
theorem word_c {σ : St} {v : AVal} {c : Option Nat} {a0 a1 a2 a3 a4 a5 a6 a7 : UInt8} {r : List UInt8} (h : RdB σ v (a0 :: a1 :: a2 :: a3 :: a4 :: a5 :: a6 :: a7 :: r) c) (Q : AVal → St → Prop)
    (hQ : Q (.int .u64 (wordN a0.toNat a1.toNat a2.toNat a3.toNat a4.toNat a5.toNat a6.toNat a7.toNat : Nat)) σ) : ACall Tryd.prog 101 [v] σ Q := by
  refine ACall.of_compF hmx (fun a w => Tryd.call101 a w) Tryd.func101 cf101 (n := 1) (by decide) rfl ?_
  obtain ⟨p0, i0, d0⟩ := h.at (i := 0) (x := a0) rfl (z := 0) rfl
  obtain ⟨p1, i1, d1⟩ := h.at (i := 1) (x := a1) rfl (z := 1) rfl
  obtain ⟨p2, i2, d2⟩ := h.at (i := 2) (x := a2) rfl (z := 2) rfl
  obtain ⟨p3, i3, d3⟩ := h.at (i := 3) (x := a3) rfl (z := 3) rfl
  obtain ⟨p4, i4, d4⟩ := h.at (i := 4) (x := a4) rfl (z := 4) rfl
  obtain ⟨p5, i5, d5⟩ := h.at (i := 5) (x := a5) rfl (z := 5) rfl
  obtain ⟨p6, i6, d6⟩ := h.at (i := 6) (x := a6) rfl (z := 6) rfl
  obtain ⟨p7, i7, d7⟩ := h.at (i := 7) (x := a7) rfl (z := 7) rfl
  have d0 := d0 σ (fun _ _ => rfl)
  have d1 := d1 σ (fun _ _ => rfl)
  have d2 := d2 σ (fun _ _ => rfl)
  have d3 := d3 σ (fun _ _ => rfl)
  have d4 := d4 σ (fun _ _ => rfl)
  have d5 := d5 σ (fun _ _ => rfl)
  have d6 := d6 σ (fun _ _ => rfl)
  have d7 := d7 σ (fun _ _ => rfl)
  have b0 := a0.toNat_lt
  have b1 := a1.toNat_lt
  have b2 := a2.toNat_lt
  have b3 := a3.toNat_lt
  have b4 := a4.toNat_lt
  have b5 := a5.toNat_lt
  have b6 := a6.toNat_lt
  have b7 := a7.toNat_lt
  unfold wordN at hQ
  generalize a0.toNat = x0 at *
  generalize a1.toNat = x1 at *
  generalize a2.toNat = x2 at *
  generalize a3.toNat = x3 at *
  generalize a4.toNat = x4 at *
  generalize a5.toNat = x5 at *
  generalize a6.toNat = x6 at *
  generalize a7.toNat = x7 at *
  have w : ∀ x : Nat, x < 256 → IntKind.u64.wrap (x : Int) = (x : Int) := fun x hx => by rw [IntWalk.u64_in] <;> omega
  have sl : ∀ (x s : Nat), x < 256 → s ≤ 56 → x <<< s < 18446744073709551616 := fun x s hx hs => by
    rw [Nat.shiftLeft_eq]
    have h4 : (2 : Nat) ^ s ≤ 2 ^ 56 := Nat.pow_le_pow_right (by omega) hs
    have h5 : x * 2 ^ s ≤ 255 * 2 ^ 56 := Nat.mul_le_mul (by omega) h4
    have : 255 * 2 ^ 56 < 18446744073709551616 := by decide
    omega
  have s1 := shl64 (s := 8) b1 (by omega)
  have s2 := shl64 (s := 16) b2 (by omega)
  have s3 := shl64 (s := 24) b3 (by omega)
  have s4 := shl64 (s := 32) b4 (by omega)
  have s5 := shl64 (s := 40) b5 (by omega)
  have s6 := shl64 (s := 48) b6 (by omega)
  have s7 := shl64 (s := 56) b7 (by omega)
  have t1 := sl x1 8 b1 (by omega)
  have t2 := sl x2 16 b2 (by omega)
  have t3 := sl x3 24 b3 (by omega)
  have t4 := sl x4 32 b4 (by omega)
  have t5 := sl x5 40 b5 (by omega)
  have t6 := sl x6 48 b6 (by omega)
  have t7 := sl x7 56 b7 (by omega)
  simp only [Int.cast_ofNat_Int] at s1 s2 s3 s4 s5 s6 s7
  generalize x1 <<< 8 = y1 at *
  generalize x2 <<< 16 = y2 at *
  generalize x3 <<< 24 = y3 at *
  generalize x4 <<< 32 = y4 at *
  generalize x5 <<< 40 = y5 at *
  generalize x6 <<< 48 = y6 at *
  generalize x7 <<< 56 = y7 at *
  have o1 := or64 (a := x0) (by omega) t1
  have u1 : x0 ||| y1 < 18446744073709551616 := Nat.or_lt_two_pow (n := 64) (by omega) t1
  generalize x0 ||| y1 = z1 at *
  have o2 := or64 u1 t2
  have u2 : z1 ||| y2 < 18446744073709551616 := Nat.or_lt_two_pow (n := 64) u1 t2
  generalize z1 ||| y2 = z2 at *
  have o3 := or64 u2 t3
  have u3 : z2 ||| y3 < 18446744073709551616 := Nat.or_lt_two_pow (n := 64) u2 t3
  generalize z2 ||| y3 = z3 at *
  have o4 := or64 u3 t4
  have u4 : z3 ||| y4 < 18446744073709551616 := Nat.or_lt_two_pow (n := 64) u3 t4
  generalize z3 ||| y4 = z4 at *
  have o5 := or64 u4 t5
  have u5 : z4 ||| y5 < 18446744073709551616 := Nat.or_lt_two_pow (n := 64) u4 t5
  generalize z4 ||| y5 = z5 at *
  have o6 := or64 u5 t6
  have u6 : z5 ||| y6 < 18446744073709551616 := Nat.or_lt_two_pow (n := 64) u5 t6
  generalize z5 ||| y6 = z6 at *
  have o7 := or64 u6 t7
  generalize z6 ||| y7 = z7 at *
  simp [ac101, rs101, lk_cons, ↓i0, ↓i1, ↓i2, ↓i3, ↓i4, ↓i5, ↓i6, ↓i7, ↓d0, ↓d1, ↓d2, ↓d3, ↓d4, ↓d5, ↓d6, ↓d7, w _ b0, w _ b1, w _ b2, w _ b3, w _ b4, w _ b5, w _ b6, w _ b7, s1, s2, s3, s4, s5, s6, s7, o1, o2, o3, o4, o5, o6, o7]
  exact hQ
end Go.Proofs.YticefdfhcahlfaaDoor.AM

namespace Go.Proofs.YticefdfhcahlfaaDoor.AM
open Go.RowKit
set_option maxRecDepth 100000
set_option linter.unusedVariables false
set_option linter.unusedSimpArgs false
def fT (x : Nat) : Nat := Go.Pinned.utf8FirstZ.getD x 0
def clsOf (f : Nat) : Nat × Nat × Nat := (f % 8, utf8Acc.getD (f / 16 * 2) 0, utf8Acc.getD (f / 16 * 2 + 1) 0)
def okB (lo hi : Nat) (b : UInt8) : Bool := decide (lo ≤ b.toNat) && decide (b.toNat ≤ hi)
def vld : List UInt8 → Bool
  | [] => true
  | x :: l => if x.toNat < 128 then vld l
    else if (clsOf (fT x.toNat)).1 = 2 then (match l with
      | a :: r => okB (clsOf (fT x.toNat)).2.1 (clsOf (fT x.toNat)).2.2 a && vld r
      | _ => false)
    else if (clsOf (fT x.toNat)).1 = 3 then (match l with
      | a :: b :: r => okB (clsOf (fT x.toNat)).2.1 (clsOf (fT x.toNat)).2.2 a && okB 128 191 b && vld r
      | _ => false)
    else if (clsOf (fT x.toNat)).1 = 4 then (match l with
      | a :: b :: d :: r => okB (clsOf (fT x.toNat)).2.1 (clsOf (fT x.toNat)).2.2 a && okB 128 191 b && okB 128 191 d && vld r
      | _ => false)
    else false
termination_by l => l.length
decreasing_by all_goals (simp only [List.length_cons]; omega)
theorem vld_nil : vld [] = true := by rw [vld]
theorem vld_asc {x : UInt8} {l : List UInt8} (h : x.toNat < 128) : vld (x :: l) = vld l := by
  rw [vld.eq_def]
  simp only [if_pos h]
theorem vld_skip : ∀ (n : Nat) (l : List UInt8), (∀ x ∈ l.take n, x.toNat < 128) → vld l = vld (l.drop n)
  | 0, l, _ => by simp
  | n + 1, [], _ => by simp
  | n + 1, x :: l, h => by
    rw [vld_asc (h x (by simp)), List.drop_succ_cons]
    exact vld_skip n l fun y hy => h y (by simp [hy])
theorem vld_all {l : List UInt8} (h : ∀ x ∈ l, x.toNat < 128) : vld l = true := by
  rw [vld_skip l.length l (fun x hx => h x (List.mem_of_mem_take hx)), List.drop_length, vld_nil]
theorem first_len : Go.Pinned.utf8FirstZ.length = 256 := by decide
theorem first_lt : ∀ x ∈ Go.Pinned.utf8FirstZ, x < 256 := by decide
theorem acc_len : utf8Acc.length = 32 := by decide
theorem cls_at {x : Nat} (hx : x < 256) : ∃ f n k lo hi : Nat, ((gl 0).drop x).take 1 = [.int .u8 (f : Int)] ∧ abits .and .u8 (f : Int) 7 = some (.int .u8 (n : Int)) ∧ ashift .shr .u8 (f : Int) 4 = some (.int .u8 (k : Int)) ∧ k < 16 ∧ ((gl 1).drop (k * 2)).take 2 = [.int .u8 (lo : Int), .int .u8 (hi : Int)] ∧ n < 8 ∧ clsOf (fT x) = (n, lo, hi) := by
  have hx' : x < Go.Pinned.utf8FirstZ.length := by rw [first_len]; exact hx
  have hf : fT x = Go.Pinned.utf8FirstZ[x] := by simp [fT, List.getD_eq_getElem?_getD, List.getElem?_eq_getElem hx']
  have hlt : fT x < 256 := by rw [hf]; exact first_lt _ (List.getElem_mem hx')
  have h0 : gl 0 = Go.Pinned.utf8FirstZ.map fun (n : Nat) => AVal.int .u8 (n : Int) := rfl
  have h1 : gl 1 = utf8Acc.map fun (n : Nat) => AVal.int .u8 (n : Int) := rfl
  have h2 : ((gl 0).drop x).take 1 = [.int .u8 (fT x : Int)] := by
    rw [h0, ← List.map_drop, ← List.map_take, List.drop_eq_getElem_cons hx', hf]; rfl
  revert h2 hlt
  clear hf
  generalize fT x = f
  intro hlt h2
  refine ⟨f, f % 8, f / 16, utf8Acc.getD (f / 16 * 2) 0, utf8Acc.getD (f / 16 * 2 + 1) 0, h2, ?_, ?_, by omega, ?_, by omega, rfl⟩
  · have := and8 (a := f) (b := 7) hlt (by omega)
    rw [show f &&& 7 = f % 8 from Nat.and_two_pow_sub_one_eq_mod f 3] at this
    exact this
  · have e1 : ¬ ((4 : Int) < 0) := by omega
    have e2 : min (4 : Int).toNat (IntKind.bits .u8) = 4 := rfl
    simp only [ashift, if_neg e1, e2]
    rw [Int.fdiv_eq_ediv_of_nonneg _ (Int.pow_nonneg (by omega))]
    have e3 : (f : Int) / 2 ^ 4 = ((f / 16 : Nat) : Int) := by
      have : (2 : Int) ^ 4 = 16 := by decide
      rw [this]; omega
    rw [e3]
  · obtain ⟨k, hk⟩ : ∃ k, f / 16 = k := ⟨_, rfl⟩
    have hk16 : k < 16 := by omega
    rw [hk, h1, ← List.map_drop, ← List.map_take]
    have g1 : k * 2 < utf8Acc.length := by rw [acc_len]; omega
    have g2 : k * 2 + 1 < utf8Acc.length := by rw [acc_len]; omega
    rw [List.drop_eq_getElem_cons g1, List.drop_eq_getElem_cons g2]
    simp only [List.take_succ_cons, List.take_zero, List.map_cons, List.map_nil, List.getD_eq_getElem?_getD, List.getElem?_eq_getElem g1, List.getElem?_eq_getElem g2, Option.getD_some]
def VaJ (l0 : List UInt8) (c : Option Nat) (σ0 : St) (mm : Nat) (rg : Regs) (σ' : St) : Prop := ∃ (l : List UInt8) (v : AVal), mm = l.length ∧ vld l = vld l0 ∧ l.length ≤ l0.length ∧ RdB σ' v l c ∧ Grow σ0 σ' ∧ rg = [(0, v)]
theorem take8 {l : List UInt8} (h : 8 < l.length) : ∃ a0 a1 a2 a3 a4 a5 a6 a7 r, l = a0 :: a1 :: a2 :: a3 :: a4 :: a5 :: a6 :: a7 :: r := by
  match l, h with
  | a0 :: a1 :: a2 :: a3 :: a4 :: a5 :: a6 :: a7 :: r, _ => exact ⟨_, _, _, _, _, _, _, _, _, rfl⟩
theorem wordl_c {σ : St} {v : AVal} {l : List UInt8} {c : Option Nat} (h : RdB σ v l c) (hl : 8 < l.length) : ∃ w : Nat, w < 18446744073709551616 ∧ (w &&& hiM = 0 → ∀ x ∈ l.take 8, x.toNat < 128) ∧ ∀ (Q : AVal → St → Prop), Q (.int .u64 (w : Int)) σ → ACall Tryd.prog 101 [v] σ Q := by
  obtain ⟨a0, a1, a2, a3, a4, a5, a6, a7, r, rfl⟩ := take8 hl
  refine ⟨wordN a0.toNat a1.toNat a2.toNat a3.toNat a4.toNat a5.toNat a6.toNat a7.toNat, ?_, fun hw => ?_, fun Q hQ => word_c h Q hQ⟩
  · have sl : ∀ (x s : Nat), x < 256 → s ≤ 56 → x <<< s < 2 ^ 64 := fun x s hx hs => by
      rw [Nat.shiftLeft_eq]
      have h4 : (2 : Nat) ^ s ≤ 2 ^ 56 := Nat.pow_le_pow_right (by omega) hs
      have h5 : x * 2 ^ s ≤ 255 * 2 ^ 56 := Nat.mul_le_mul (by omega) h4
      have : 255 * 2 ^ 56 < 2 ^ 64 := by decide
      omega
    show wordN _ _ _ _ _ _ _ _ < 2 ^ 64
    unfold wordN
    have z : a0.toNat < 2 ^ 64 := by have := a0.toNat_lt; omega
    exact Nat.or_lt_two_pow (Nat.or_lt_two_pow (Nat.or_lt_two_pow (Nat.or_lt_two_pow (Nat.or_lt_two_pow (Nat.or_lt_two_pow (Nat.or_lt_two_pow z (sl _ _ a1.toNat_lt (by omega))) (sl _ _ a2.toNat_lt (by omega))) (sl _ _ a3.toNat_lt (by omega))) (sl _ _ a4.toNat_lt (by omega))) (sl _ _ a5.toNat_lt (by omega))) (sl _ _ a6.toNat_lt (by omega))) (sl _ _ a7.toNat_lt (by omega))
  · obtain ⟨h0, h1, h2, h3, h4, h5, h6, h7⟩ := word_hi a0.toNat_lt a1.toNat_lt a2.toNat_lt a3.toNat_lt a4.toNat_lt a5.toNat_lt a6.toNat_lt a7.toNat_lt hw
    intro x hx
    simp at hx
    rcases hx with rfl | rfl | rfl | rfl | rfl | rfl | rfl | rfl <;> assumption
theorem drop8 {l : List UInt8} {n : Nat} (h1 : ∀ x ∈ l.take n, x.toNat < 128) {m : Nat} (h2 : ∀ x ∈ (l.drop n).take m, x.toNat < 128) : ∀ x ∈ l.take (n + m), x.toNat < 128 := by
  intro x hx
  rw [List.take_add] at hx
  rcases List.mem_append.1 hx with hx | hx
  · exact h1 x hx
  · exact h2 x hx
end Go.Proofs.YticefdfhcahlfaaDoor.AM

namespace Go.Proofs.YticefdfhcahlfaaDoor.AM
open Go.RowKit
set_option maxRecDepth 100000
set_option linter.unusedVariables false
set_option linter.unusedSimpArgs false
def ViJ (l0 : List UInt8) (bd : Nat) (c : Option Nat) (σ1 : St) (mm : Nat) (rg : Regs) (σ' : St) : Prop := ∃ (l : List UInt8) (v : AVal), mm = l.length ∧ vld l = vld l0 ∧ l.length ≤ bd ∧ RdB σ' v l c ∧ σ' = σ1 ∧ rg = [(0, v)]
theorem andM {w : Nat} (hw : w < 18446744073709551616) (hlt : hiM < 18446744073709551616) : ∃ z, w &&& hiM = z ∧ abits .and .u64 (w : Int) 9259542123273814144 = some (.int .u64 (z : Int)) := ⟨_, rfl, and64 hw hlt⟩
theorem hi_lt : hiM < 18446744073709551616 := by decide
set_option maxHeartbeats 4000000 in
theorem valid_c {σ : St} {v0 : AVal} {l0 : List UInt8} {c : Option Nat} (h0 : RdB σ v0 l0 c) (hl0 : l0.length ≤ 4611686018427387904) (Q : AVal → St → Prop) (hQ : Q (.bool (vld l0)) σ) : ACall Tryd.prog 83 [v0] σ Q := by
  refine ACall.scrub ?_
  refine ACall.of_compF hmx (fun a w => Tryd.call83 a w) Tryd.func83 cf83 (n := 1) (by decide) rfl ?_
  have hlen0 := h0.len
  obtain ⟨v1, f1, r1⟩ := h0.full
  simp [ac83, rs83, lk_cons, ↓hlen0, optM, ↓f1]
  refine wp_loop (VaJ l0 c σ) l0.length ?_ ?_
  · exact ⟨l0, v1, rfl, rfl, Nat.le_refl _, r1, Grow.refl _, rfl⟩
  · rintro mm rg σ1 ⟨l, v, rfl, hv, hl, r, g, rfl⟩
    have hlen := r.len
    cases l with
    | nil =>
      rw [vld_nil] at hv
      rw [← hv] at hQ
      simp [lk_cons, ↓hlen]
      exact ⟨g.2, hQ⟩
    | cons x l1 =>
      obtain ⟨p0, i0, d0⟩ := r.at (i := 0) (x := x) rfl (z := 0) rfl
      have d0 := d0 σ1 (fun _ _ => rfl)
      have hpos : (0 : Int) < ((x :: l1).length : Int) := by simp only [List.length_cons]; omega
      have hxlt := x.toNat_lt
      simp only [List.length_cons] at hl
      by_cases hx : x.toNat < 128
      · rw [vld_asc hx] at hv
        obtain ⟨v2, s2, r2⟩ := r.cut (n := 1) (by simp) .i64 (z := 1) rfl
        have s2 := s2 σ1 (fun _ _ => rfl)
        simp only [List.drop_succ_cons, List.drop_zero] at r2
        have hlen2 := r2.len
        have hx' : (x.toNat : Int) < 128 := by omega
        have fin : ∀ (l' : List UInt8) (v' : AVal), vld l' = vld l0 → l'.length ≤ l1.length → RdB σ1 v' l' c → ∃ m', m' < (x :: l1).length ∧ VaJ l0 c σ m' [(0, v')] σ1 := fun l' v' h1 h2 h3 => ⟨l'.length, by simp; omega, l', v', rfl, h1, by omega, h3, g, rfl⟩
        by_cases h8 : 8 < l1.length
        · have h8' : (8 : Int) < l1.length := by omega
          obtain ⟨w, hw1, hw2, hw3⟩ := wordl_c r2 h8
          obtain ⟨z, hz, ha⟩ := andM hw1 hi_lt
          simp [lk_cons, ↓hlen, hpos, ↓i0, ↓d0, hx, hx', optM, ↓s2, ↓hlen2, h8, h8']
          refine hw3 _ ?_
          by_cases hz0 : z = 0
          · have a8 := hw2 (hz.trans hz0)
            have v8 : vld (l1.drop 8) = vld l0 := by rw [← vld_skip 8 l1 a8]; exact hv
            obtain ⟨v3, s3, r3⟩ := r2.cut (n := 8) (by omega) .i64 (z := 8) rfl
            have s3 := s3 σ1 (fun _ _ => rfl)
            have hlen3 := r3.len
            have hdl : (l1.drop 8).length = l1.length - 8 := List.length_drop
            revert r3 hlen3 v8 hdl
            generalize l1.drop 8 = l2
            intro v8 r3 hlen3 hdl
            by_cases h16 : 16 < l2.length
            · have h16' : (16 : Int) < l2.length := by omega
              obtain ⟨wa, wa1, wa2, wa3⟩ := wordl_c r3 (by omega)
              obtain ⟨v4, s4, r4⟩ := r3.cut (n := 8) (by omega) .i64 (z := 8) rfl
              have s4 := s4 σ1 (fun _ _ => rfl)
              have hd8 : (l2.drop 8).length = l2.length - 8 := List.length_drop
              obtain ⟨wb, wb1, wb2, wb3⟩ := wordl_c r4 (by omega)
              have ho := or64 wa1 wb1
              have hol : wa ||| wb < 18446744073709551616 := Nat.or_lt_two_pow (n := 64) wa1 wb1
              obtain ⟨y, hy⟩ : ∃ y, wa ||| wb = y := ⟨_, rfl⟩
              rw [hy] at ho hol
              obtain ⟨z', hz', ha'⟩ := andM hol hi_lt
              simp [lk_cons, ha, hz0, optM, ↓s3, ↓hlen3, h16, h16', ↓s4]
              refine wa3 _ ?_
              simp [lk_cons, ↓s4]
              refine wb3 _ ?_
              by_cases hz1 : z' = 0
              · have hor : (wa ||| wb) &&& hiM = 0 := by rw [hy]; exact hz'.trans hz1
                obtain ⟨ka, kb⟩ := hi_or hor
                have a16 := drop8 (wa2 ka) (wb2 kb)
                have v16 : vld (l2.drop 16) = vld l0 := by rw [← vld_skip 16 l2 a16]; exact v8
                obtain ⟨v5, s5, r5⟩ := r3.cut (n := 16) (by omega) .i64 (z := 16) rfl
                have s5 := s5 σ1 (fun _ _ => rfl)
                have hd16 : (l2.drop 16).length = l2.length - 16 := List.length_drop
                simp [lk_cons, ho, ha', hz1, optM, ↓s5]
                refine wp_loop (ViJ l0 l1.length c σ1) (l2.drop 16).length ?_ ?_
                · exact ⟨_, v5, rfl, v16, by omega, r5, rfl, by simp [lk_cons]⟩
                · rintro mm rg σ2 ⟨l3, v6, rfl, v3e, l3l, r6, rfl, rfl⟩
                  have hlen6 := r6.len
                  by_cases h32 : 32 < l3.length
                  · have h32' : (32 : Int) < l3.length := by omega
                    obtain ⟨x1, x11, x12, x13⟩ := wordl_c r6 (by omega)
                    obtain ⟨u8, t8, q8⟩ := r6.cut (n := 8) (by omega) .i64 (z := 8) rfl
                    obtain ⟨u16, t16, q16⟩ := r6.cut (n := 16) (by omega) .i64 (z := 16) rfl
                    obtain ⟨u24, t24, q24⟩ := r6.cut (n := 24) (by omega) .i64 (z := 24) rfl
                    obtain ⟨u32, t32, q32⟩ := r6.cut (n := 32) (by omega) .i64 (z := 32) rfl
                    have t8 := t8 σ2 (fun _ _ => rfl)
                    have t16 := t16 σ2 (fun _ _ => rfl)
                    have t24 := t24 σ2 (fun _ _ => rfl)
                    have t32 := t32 σ2 (fun _ _ => rfl)
                    obtain ⟨x2, x21, x22, x23⟩ := wordl_c q8 (by rw [List.length_drop]; omega)
                    obtain ⟨x3, x31, x32, x33⟩ := wordl_c q16 (by rw [List.length_drop]; omega)
                    obtain ⟨x4, x41, x42, x43⟩ := wordl_c q24 (by rw [List.length_drop]; omega)
                    have ho1 := or64 x11 x21
                    have hol1 : x1 ||| x2 < 18446744073709551616 := Nat.or_lt_two_pow (n := 64) x11 x21
                    have ho2 := or64 x31 x41
                    have hol2 : x3 ||| x4 < 18446744073709551616 := Nat.or_lt_two_pow (n := 64) x31 x41
                    have ho3 := or64 hol1 hol2
                    have hol3 : (x1 ||| x2) ||| (x3 ||| x4) < 18446744073709551616 := Nat.or_lt_two_pow (n := 64) hol1 hol2
                    obtain ⟨z2, hz2, ha2⟩ := andM hol3 hi_lt
                    have asc : z2 = 0 → ∀ x ∈ l3.take 32, x.toNat < 128 := fun e => by
                      obtain ⟨k12, k34⟩ := hi_or (hz2.trans e)
                      obtain ⟨k1, k2⟩ := hi_or k12
                      obtain ⟨k3, k4⟩ := hi_or k34
                      exact drop8 (n := 24) (drop8 (n := 16) (drop8 (x12 k1) (x22 k2)) (x32 k3)) (x42 k4)
                    clear hz2
                    generalize (x1 ||| x2) ||| (x3 ||| x4) = y3 at *
                    generalize x1 ||| x2 = y1 at *
                    generalize x3 ||| x4 = y2 at *
                    simp [lk_cons, ↓hlen6, h32, h32', optM, ↓t8, ↓t16, ↓t24]
                    refine x13 _ ?_
                    simp [lk_cons, ↓t8, ↓t16, ↓t24]
                    refine x23 _ ?_
                    simp [lk_cons, ↓t16, ↓t24, ho1]
                    refine x33 _ ?_
                    simp [lk_cons, ↓t24]
                    refine x43 _ ?_
                    by_cases hz3 : z2 = 0
                    · have e32 : vld (l3.drop 32) = vld l0 := by rw [← vld_skip 32 l3 (asc hz3)]; exact v3e
                      have hd32 : (l3.drop 32).length = l3.length - 32 := List.length_drop
                      simp [lk_cons, ho2, ho3, ha2, hz3, optM, ↓t32]
                      exact ⟨_, by omega, l3.drop 32, u32, hd32.symm, e32, by omega, q32, rfl, rfl⟩
                    · have hz3' : ¬ (z2 : Int) = 0 := by omega
                      simp [lk_cons, ho2, ho3, ha2, hz3, hz3']
                      have := fin l3 v6 v3e (by omega) r6
                      simpa using this
                  · have h32' : ¬ (32 : Int) < l3.length := by omega
                    simp [lk_cons, ↓hlen6, h32, h32']
                    have := fin l3 v6 v3e (by omega) r6
                    simpa using this
              · have hz1' : ¬ (z' : Int) = 0 := by omega
                simp [lk_cons, ho, ha', hz1, hz1']
                have := fin l2 v3 v8 (by omega) r3
                simpa using this
            · have h16' : ¬ (16 : Int) < l2.length := by omega
              simp [lk_cons, ha, hz0, optM, ↓s3, ↓hlen3, h16, h16']
              have := fin l2 v3 v8 (by omega) r3
              simpa using this
          · have hz0' : ¬ (z : Int) = 0 := by omega
            simp [lk_cons, ha, hz0, hz0']
            have := fin l1 v2 hv (Nat.le_refl _) r2
            simpa using this
        · have h8' : ¬ (8 : Int) < l1.length := by omega
          simp [lk_cons, ↓hlen, hpos, ↓i0, ↓d0, hx, hx', optM, ↓s2, ↓hlen2, h8, h8']
          have := fin l1 v2 hv (Nat.le_refl _) r2
          simpa using this
      · obtain ⟨f, n, k, lo, hi, e1, e2, e3, e4, e5, e6, e7⟩ := cls_at hxlt
        have vx := vld.eq_def (x :: l1)
        simp only [if_neg hx, e7] at vx
        have hx' : ¬ (x.toNat : Int) < 128 := by omega
        have hx2 : (x.toNat : Int) < 256 := by omega
        have wn : IntKind.i64.wrap (n : Int) = n := by rw [IntWalk.i64_in] <;> omega
        have hk16 : (k : Int) < 16 := by omega
        have g2 : Grow σ ⟨(σ1.mem.set σ1.next (.cells 2 [.int .u8 0, .int .u8 0])).set σ1.next (.cells 2 [.int .u8 (lo : Int), .int .u8 (hi : Int)]), σ1.next + 1⟩ := ⟨by have := g.1; simp; omega, fun a ha => by have := g.1; simp [show ¬ a = σ1.next by omega]; exact g.2 a ha⟩
        have rS : RdB ⟨(σ1.mem.set σ1.next (.cells 2 [.int .u8 0, .int .u8 0])).set σ1.next (.cells 2 [.int .u8 (lo : Int), .int .u8 (hi : Int)]), σ1.next + 1⟩ v (x :: l1) c := r.keep (by simp) fun a ha _ => by simp [show ¬ a = σ1.next by omega]
        obtain ⟨S, hS⟩ : ∃ S : St, S = ⟨(σ1.mem.set σ1.next (.cells 2 [.int .u8 0, .int .u8 0])).set σ1.next (.cells 2 [.int .u8 (lo : Int), .int .u8 (hi : Int)]), σ1.next + 1⟩ := ⟨_, rfl⟩
        have mS : S.mem.get σ1.next = some (.cells 2 [.int .u8 (lo : Int), .int .u8 (hi : Int)]) := by rw [hS]; simp
        rw [← hS] at g2 rS
        have bad : vld l0 = false → ∀ a, a < σ.next → S.mem.get a = σ.mem.get a := fun _ => g2.2
        have fin : ∀ (m : Nat) (v' : AVal), 1 ≤ m → m ≤ l1.length + 1 → vld ((x :: l1).drop m) = vld l0 → RdB S v' ((x :: l1).drop m) c → ∃ m', m' < l1.length + 1 ∧ VaJ l0 c σ m' [(0, v')] S := fun m v' h1 h1' h2 h3 => ⟨((x :: l1).drop m).length, by rw [List.length_drop, List.length_cons]; omega, _, v', rfl, h2, by rw [List.length_drop, List.length_cons]; omega, h3, g2, rfl⟩
        have byte : ∀ (i : Nat) (z : Int), z = (i : Int) → ∀ b, (x :: l1)[i]? = some b → ∃ p, (∀ ρ, evalV ρ (.idxAddr 1 v (.int .i64 z)) = some (p, ρ)) ∧ evalV S (.ld1 p) = some (.int .u8 (b.toNat : Int), S) := fun i z hz b hb => by
          obtain ⟨p, h1, h2⟩ := rS.at hb hz
          exact ⟨p, h1, h2 S fun _ _ => rfl⟩
        obtain ⟨N, hN⟩ : ∃ N, (x :: l1).length = N := ⟨_, rfl⟩
        have hN1 : l1.length + 1 = N := hN
        simp only [hN] at hlen
        have hposN : (0 : Int) < (N : Int) := by omega
        have hposN' : 0 < N := by omega
        have no : vld l0 = false → (∀ a, a < σ.next → S.mem.get a = σ.mem.get a) ∧ Q (.bool false) σ := fun h => ⟨g2.2, by rw [h] at hQ; exact hQ⟩
        rw [hN1] at fin
        have hm : (x :: l1).length = N := hN
        simp [lk_cons, ↓hlen, hposN, hposN', ↓i0, ↓d0, hx, hx', hx2, e1, e2, e3, e5, wn, hk16, e4, storeL]
        rw [← hS]
        by_cases hn2 : n = 2
        · subst hn2
          rcases l1 with _ | ⟨a, l2⟩
          · simp at vx hm
            subst hm
            simp [lk_cons, ↓hlen]
            exact no (hv.symm.trans vx)
          · simp only [if_true] at vx
            have hN2 : ¬ N < 2 := by simp at hm; omega
            have hN2' : ¬ (N : Int) < 2 := by omega
            obtain ⟨p1, i1, d1⟩ := byte 1 1 rfl a rfl
            obtain ⟨v2, s2, r2⟩ := rS.cut (n := 2) (by simp) .i64 (z := 2) rfl
            have s2 := s2 S (fun _ _ => rfl)
            by_cases c1 : a.toNat < lo
            · have c1' : (a.toNat : Int) < lo := by omega
              simp [lk_cons, ↓hlen, hN2, hN2', ↓i1, ↓d1, mS, c1, c1']
              exact no (hv.symm.trans (by rw [vx]; simp [okB, Nat.not_le.2 c1]))
            have c1' : ¬ (a.toNat : Int) < lo := by omega
            by_cases c2 : hi < a.toNat
            · have c2' : (hi : Int) < a.toNat := by omega
              simp [lk_cons, ↓hlen, hN2, hN2', ↓i1, ↓d1, mS, c1, c1', c2, c2']
              exact no (hv.symm.trans (by rw [vx]; simp [okB, Nat.not_le.2 c2]))
            have c2' : ¬ (hi : Int) < a.toNat := by omega
            simp [lk_cons, ↓hlen, hN2, hN2', ↓i1, ↓d1, mS, c1, c1', c2, c2', optM, ↓s2]
            obtain ⟨m', q1, q2⟩ := fin 2 v2 (by omega) (by omega) (by rw [← hv, vx]; simp [okB, Nat.not_lt.1 c1, Nat.not_lt.1 c2]) r2
            exact ⟨m', by first | omega | (simp only [List.length_cons] at hm; omega) | (simp only [List.length_cons] at hm ⊢; omega), q2⟩
        by_cases hn3 : n = 3
        · subst hn3
          rcases l1 with _ | ⟨a, _ | ⟨b, l2⟩⟩
          · simp at vx hm
            subst hm
            simp [lk_cons, ↓hlen]
            exact no (hv.symm.trans vx)
          · simp at vx hm
            subst hm
            simp [lk_cons, ↓hlen]
            exact no (hv.symm.trans vx)
          · simp only [if_true] at vx
            simp at vx
            have hN2 : ¬ N < 3 := by simp at hm; omega
            have hN2' : ¬ (N : Int) < 3 := by omega
            obtain ⟨p1, i1, d1⟩ := byte 1 1 rfl a rfl
            obtain ⟨p2, i2, d2⟩ := byte 2 2 rfl b rfl
            obtain ⟨v2, s2, r2⟩ := rS.cut (n := 3) (by simp) .i64 (z := 3) rfl
            have s2 := s2 S (fun _ _ => rfl)
            by_cases c1 : a.toNat < lo
            · have c1' : (a.toNat : Int) < lo := by omega
              simp [lk_cons, ↓hlen, hN2, hN2', ↓i1, ↓d1, mS, c1, c1']
              exact no (hv.symm.trans (by rw [vx]; simp [okB, Nat.not_le.2 c1]))
            have c1' : ¬ (a.toNat : Int) < lo := by omega
            by_cases c2 : hi < a.toNat
            · have c2' : (hi : Int) < a.toNat := by omega
              simp [lk_cons, ↓hlen, hN2, hN2', ↓i1, ↓d1, mS, c1, c1', c2, c2']
              exact no (hv.symm.trans (by rw [vx]; simp [okB, Nat.not_le.2 c2]))
            have c2' : ¬ (hi : Int) < a.toNat := by omega
            by_cases c3 : b.toNat < 128
            · have c3' : (b.toNat : Int) < 128 := by omega
              simp [lk_cons, ↓hlen, hN2, hN2', ↓i1, ↓d1, mS, c1, c1', c2, c2', ↓i2, ↓d2, c3, c3']
              exact no (hv.symm.trans (by rw [vx]; simp [okB, Nat.not_le.2 c3]))
            have c3' : ¬ (b.toNat : Int) < 128 := by omega
            by_cases c4 : 191 < b.toNat
            · have c4' : (191 : Int) < b.toNat := by omega
              simp [lk_cons, ↓hlen, hN2, hN2', ↓i1, ↓d1, mS, c1, c1', c2, c2', ↓i2, ↓d2, c3, c3', c4, c4']
              exact no (hv.symm.trans (by rw [vx]; simp [okB, Nat.not_le.2 c4]))
            have c4' : ¬ (191 : Int) < b.toNat := by omega
            simp [lk_cons, ↓hlen, hN2, hN2', ↓i1, ↓d1, mS, c1, c1', c2, c2', ↓i2, ↓d2, c3, c3', c4, c4', optM, ↓s2]
            obtain ⟨m', q1, q2⟩ := fin 3 v2 (by omega) (by omega) (by rw [← hv, vx]; simp [okB, Nat.not_lt.1 c1, Nat.not_lt.1 c2, Nat.not_lt.1 c3, Nat.not_lt.1 c4]) r2
            exact ⟨m', by first | omega | (simp only [List.length_cons] at hm; omega) | (simp only [List.length_cons] at hm ⊢; omega), q2⟩
        by_cases hn4 : n = 4
        · subst hn4
          rcases l1 with _ | ⟨a, _ | ⟨b, _ | ⟨d, l2⟩⟩⟩
          · simp at vx hm
            subst hm
            simp [lk_cons, ↓hlen]
            exact no (hv.symm.trans vx)
          · simp at vx hm
            subst hm
            simp [lk_cons, ↓hlen]
            exact no (hv.symm.trans vx)
          · simp at vx hm
            subst hm
            simp [lk_cons, ↓hlen]
            exact no (hv.symm.trans vx)
          · simp at vx
            have hN2 : ¬ N < 4 := by simp at hm; omega
            have hN2' : ¬ (N : Int) < 4 := by omega
            obtain ⟨p1, i1, d1⟩ := byte 1 1 rfl a rfl
            obtain ⟨p2, i2, d2⟩ := byte 2 2 rfl b rfl
            obtain ⟨p3, i3, d3⟩ := byte 3 3 rfl d rfl
            obtain ⟨v2, s2, r2⟩ := rS.cut (n := 4) (by simp) .i64 (z := 4) rfl
            have s2 := s2 S (fun _ _ => rfl)
            by_cases c1 : a.toNat < lo
            · have c1' : (a.toNat : Int) < lo := by omega
              simp [lk_cons, ↓hlen, hN2, hN2', ↓i1, ↓d1, mS, c1, c1']
              exact no (hv.symm.trans (by rw [vx]; simp [okB, Nat.not_le.2 c1]))
            have c1' : ¬ (a.toNat : Int) < lo := by omega
            by_cases c2 : hi < a.toNat
            · have c2' : (hi : Int) < a.toNat := by omega
              simp [lk_cons, ↓hlen, hN2, hN2', ↓i1, ↓d1, mS, c1, c1', c2, c2']
              exact no (hv.symm.trans (by rw [vx]; simp [okB, Nat.not_le.2 c2]))
            have c2' : ¬ (hi : Int) < a.toNat := by omega
            by_cases c3 : b.toNat < 128
            · have c3' : (b.toNat : Int) < 128 := by omega
              simp [lk_cons, ↓hlen, hN2, hN2', ↓i1, ↓d1, mS, c1, c1', c2, c2', ↓i2, ↓d2, c3, c3']
              exact no (hv.symm.trans (by rw [vx]; simp [okB, Nat.not_le.2 c3]))
            have c3' : ¬ (b.toNat : Int) < 128 := by omega
            by_cases c4 : 191 < b.toNat
            · have c4' : (191 : Int) < b.toNat := by omega
              simp [lk_cons, ↓hlen, hN2, hN2', ↓i1, ↓d1, mS, c1, c1', c2, c2', ↓i2, ↓d2, c3, c3', c4, c4']
              exact no (hv.symm.trans (by rw [vx]; simp [okB, Nat.not_le.2 c4]))
            have c4' : ¬ (191 : Int) < b.toNat := by omega
            by_cases c5 : d.toNat < 128
            · have c5' : (d.toNat : Int) < 128 := by omega
              simp [lk_cons, ↓hlen, hN2, hN2', ↓i1, ↓d1, mS, c1, c1', c2, c2', ↓i2, ↓d2, c3, c3', c4, c4', ↓i3, ↓d3, c5, c5']
              exact no (hv.symm.trans (by rw [vx]; simp [okB, Nat.not_le.2 c5]))
            have c5' : ¬ (d.toNat : Int) < 128 := by omega
            by_cases c6 : 191 < d.toNat
            · have c6' : (191 : Int) < d.toNat := by omega
              simp [lk_cons, ↓hlen, hN2, hN2', ↓i1, ↓d1, mS, c1, c1', c2, c2', ↓i2, ↓d2, c3, c3', c4, c4', ↓i3, ↓d3, c5, c5', c6, c6']
              exact no (hv.symm.trans (by rw [vx]; simp [okB, Nat.not_le.2 c6]))
            have c6' : ¬ (191 : Int) < d.toNat := by omega
            simp [lk_cons, ↓hlen, hN2, hN2', ↓i1, ↓d1, mS, c1, c1', c2, c2', ↓i2, ↓d2, c3, c3', c4, c4', ↓i3, ↓d3, c5, c5', c6, c6', optM, ↓s2]
            obtain ⟨m', q1, q2⟩ := fin 4 v2 (by omega) (by omega) (by rw [← hv, vx]; simp [okB, Nat.not_lt.1 c1, Nat.not_lt.1 c2, Nat.not_lt.1 c3, Nat.not_lt.1 c4, Nat.not_lt.1 c5, Nat.not_lt.1 c6]) r2
            exact ⟨m', by first | omega | (simp only [List.length_cons] at hm; omega) | (simp only [List.length_cons] at hm ⊢; omega), q2⟩
        · simp only [if_neg hn2, if_neg hn3, if_neg hn4] at vx
          have hn2' : ¬ (n : Int) = 2 := by omega
          have hn3' : ¬ (n : Int) = 3 := by omega
          have hn4' : ¬ (n : Int) = 4 := by omega
          simp [lk_cons, hn2, hn2', hn3, hn3', hn4, hn4']
          exact no (hv.symm.trans vx)
end Go.Proofs.YticefdfhcahlfaaDoor.AM

namespace Go.Proofs.YticefdfhcahlfaaDoor.AM
open Go.RowKit
set_option linter.unusedVariables false
set_option linter.unusedSimpArgs false
set_option maxRecDepth 100000
theorem catch_idle (p : Addr) (w : World) :
    CallsD Tryd.prog 81 #[.pointer (some p)] .returning w fun e u' w' => e = .returned (.tuple #[]) ∧ u' = .returning ∧ w' = w := by
  refine callsD_of_wpS Tryd.func81 rfl fun c₀ cs hu => ?_
  apply wpS_seq
  apply wpS_region
  simp [wpOpsS, go_sem, recoverD, hu, Exit.thenS]
  have hnil : ∀ w : World, (binOp BinOp.eql 20 .nilIface .nilIface).run Tryd.prog w = .ok (.bool true) w := fun _ => by kernel_rfl
  refine wpS_of_wp ?_
  go_wp2
  cases c₀
  simp_all [bodyPostS, results, Tryd.f81]
set_option maxHeartbeats 8000000 in
theorem catch_thrown (p : Addr) (c : Int) (x : Value) (w : World) (hc : (w.alloc (.cells #[.int .i64 c] 156)).cell? p = some x) (hz : (w.alloc (.cells #[.int .i64 c] 156)).frozen? p = false) :
    CallsD Tryd.prog 81 #[.pointer (some p)] (.panicking [{ v := .iface 156 (.agg #[.int .i64 c]), recovered := false }]) w fun e u' w' => e = .returned (.tuple #[]) ∧ u' = .panicking [{ v := .iface 156 (.agg #[.int .i64 c]), recovered := true }] ∧ w' = (w.alloc (.cells #[.int .i64 c] 156)).setCell p (.int .i64 c) := by
  refine callsD_of_wpS Tryd.func81 rfl fun c₀ cs hu => ?_
  apply wpS_seq
  apply wpS_region
  simp [wpOpsS, go_sem, recoverD, hu, Exit.thenS]
  have hnil : ∀ w : World, (binOp BinOp.eql 20 (.iface 156 (.agg #[.int .i64 c])) .nilIface).run Tryd.prog w = .ok (.bool false) w := fun _ => by kernel_rfl
  have hta : ∀ w : World, (Instr.typeAssert (.iface 156 (.agg #[.int .i64 c])) 20 156 true).run Tryd.prog w = .ok (.tuple #[.agg #[.int .i64 c], .bool true]) w := fun _ => by kernel_rfl
  refine wpS_of_wp ?_
  go_wp2
  simp [bodyPostS, results, Tryd.f81]
end Go.Proofs.YticefdfhcahlfaaDoor.AM

namespace Go.Proofs.YticefdfhcahlfaaDoor.AM
open Go.RowKit
set_option linter.unusedVariables false
set_option linter.unusedSimpArgs false
theorem put_keep {a : Act} {d : Option Tmp} {v : Value} {t : Nat} (h : d ≠ some t) : (a.put d v).tmps[t]? = a.tmps[t]? := by
  cases d with
  | none => rfl
  | some x =>
    show (a.tmps.setIfInBounds x v)[t]? = _
    rw [Array.getElem?_setIfInBounds_ne (fun e => h (by rw [e]))]
theorem wpList_keep {P : Program} {ops : Array Oper} {E : Exit → Act → World → Prop} {t : Nat} {x : Option Value} : ∀ (l : List Oper) (a : Act) (w : World), wpList P ops E l a w → (∀ o ∈ l, o.dst ≠ some t) → a.tmps[t]? = x →
    wpList P ops (fun e a' w' => E e a' w' ∧ (e = .outgrown ∨ a'.tmps[t]? = x)) l a w := by
  intro l
  induction l with
  | nil => intro a w h _ hx; exact ⟨h, .inr hx⟩
  | cons o l ih =>
    intro a w h hk hx
    have hko := hk o (by simp)
    have hkl : ∀ o ∈ l, o.dst ≠ some t := fun o ho => hk o (by simp [ho])
    have go : ∀ v w', wpList P ops E l (a.put o.dst v) w' → wpList P ops (fun e a' w' => E e a' w' ∧ (e = .outgrown ∨ a'.tmps[t]? = x)) l (a.put o.dst v) w' :=
      fun v w' h => ih _ _ h hkl ((put_keep hko).trans hx)
    simp only [wpList] at h ⊢
    split at h
    · rename_i hw
      rw [if_pos hw]
      rcases h with h | ⟨h1, b, c, h2⟩
      · left
        revert h
        unfold Oper.wp
        generalize (execOp a.eval o).run P w = R
        intro h
        cases R with
        | ok s w1 =>
          cases s with
          | value v => exact go _ _ h
          | skip => exact go _ _ h
          | defer d => exact ih _ _ h hkl ((put_keep (a := { a with defers := d :: a.defers }) hko).trans hx)
          | enter f args =>
            rw [Oper.upon_enter] at h ⊢
            refine h.mono fun e w' he => ?_
            cases e with
            | returned v => exact go _ _ he
            | panicked c => exact ⟨he, .inr hx⟩
            | outgrown => obtain ⟨b, c, he⟩ := he; exact ⟨b, c, he, .inl rfl⟩
          | row r args =>
            rw [Oper.upon_row] at h ⊢
            exact Rows.mono h fun v w' he => go _ _ he
          | _ => exact h
        | halt s w1 =>
          cases s with
          | panic v => exact ⟨h, .inr hx⟩
          | _ => exact h
      · exact .inr ⟨h1, b, c, h2, .inl rfl⟩
    · rename_i hw
      rw [if_neg hw]
      exact go _ _ h
theorem seq3_sound {P : Program} {T : AVal → St → Prop} {B : Nat} {w0 : Root} (hmx : P.follows .mixedOrders = true) {nt : Nat} {h : Hints} {x z : Code} {id : Nat} {ops : Array Oper} {ax az : ACode} {l' : List AOper} {keep : List Nat} {t b : Nat}
    (hcx : comp P nt h x = some ax) (hcl : listM (compOper P nt ops.toList) ops.toList = some l') (hcz : comp P nt h z = some az) (hk : ∀ o ∈ ops.toList, o.dst ≠ some t) (nx : ax.noR = true) (nz : az.noR = true) {Q : Post} {r : Regs} {σ : St} {ρ : Rho} {I : Imm} {a : Act} {w : World}
    (hx : ax.wp (Env.of P) (fun e r s => e = .normal ∧ r.lookup t = some (.ptr b 0) ∧ rwp (Env.th P T) l' r s (fun r s => az.wp (Env.of P) Q (norm keep r) s)) r σ)
    (hr : RegsRel ρ I r a.tmps) (rl : Rel B w0 ρ I σ w) (hd : a.defers = w0.ds) (hs : a.tmps.size = nt) (hb : b < σ.next) :
    (Code.seq x (.seq (.region id ops false) z)).wp P (fun e a2 w2 => LiftP0 nt B w0 ρ I σ T Q e a2 w2 ∧ ((∃ c, e = .panic c) → ∃ cv, a2.tmps[t]? = some cv ∧ VRel ρ I (.ptr b 0) cv)) a w := by
  refine Go.wp_seq (Code.wp_mono ?_ (code_sound (P := Env.of P) hmx x ax hcx _ r σ ρ I a w nx hx hr rl (YOk.of _ _ _ _ _) hd hs))
  intro e a1 w1 hl
  cases e with
  | normal =>
    obtain ⟨r1, σ1, ρ1, I1, g1, g2, g3, g4, g5, _, g6, g7⟩ := hl
    obtain ⟨cv, hp, hv⟩ := g4 t _ g6
    have hv0 : VRel ρ I (.ptr b 0) cv := by
      simp only [VRel] at hv ⊢
      rw [g5.1 b hb] at hv
      exact hv
    let E0 : Exit → Act → World → Prop := fun e a2 w2 => match e with
      | .normal => Lift nt B w0 ρ1 I1 σ1 (fun r s => az.wp (Env.of P) Q (norm keep r) s) a2 w2
      | .panic c => a2.defers = w0.ds ∧ LiftT B w0 ρ1 I1 σ1 T c w2
      | _ => False
    have h2 : wpList P ops E0 ops.toList a1 w1 := rwp_sound (P := (Env.th P T)) (fun _ _ _ _ h => h) ops.toList l' r1 σ1 ρ1 I1 a1 w1 _ hcl g7 g4 g3 g1 g2 (fun a w h => h) (fun c a w hd h => ⟨hd, h⟩)
    have h3 := wpList_keep ops.toList a1 w1 h2 hk hp
    have h4 := Go.wp_region_list (id := id) h3
    refine Go.wp_seq (Code.wp_mono ?_ h4)
    intro e a2 w2 hl
    obtain ⟨hl, hkp⟩ := hl
    cases e with
    | normal =>
      obtain ⟨r2, σ2, ρ2, I2, k1, k2, k3, k4, k5, k6⟩ := hl
      show Code.wp P z _ a2 w2
      refine Code.wp_mono ?_ (code_sound (P := Env.of P) hmx z az hcz Q (norm keep r2) σ2 ρ2 I2 a2 w2 nz k6 (k4.norm keep) k3 (YOk.of _ _ _ _ _) k1 k2)
      intro e a3 w3 hl
      have hex := g5.trans k5
      cases e with
      | normal => exact ⟨Lift.ext hex hl, fun ⟨_, h⟩ => by cases h⟩
      | ret => exact ⟨Lift.ext hex hl, fun ⟨_, h⟩ => by cases h⟩
      | exit id => exact ⟨Lift.ext hex hl, fun ⟨_, h⟩ => by cases h⟩
      | goto l => exact (hl : False).elim
      | panic c => exact hl.2.no.elim
      | outgrown => exact (hl : False).elim
    | panic c =>
      refine ⟨⟨hl.1, hl.2.ext g5⟩, fun _ => ⟨cv, ?_, hv0⟩⟩
      rcases hkp with h | h
      · cases h
      · exact h
    | ret => exact (hl : False).elim
    | exit id => exact (hl : False).elim
    | goto l => exact (hl : False).elim
    | outgrown => exact (hl : False).elim
  | ret => obtain ⟨_, _, _, _, _, _, _, _, _, g, _⟩ := hl; cases g
  | exit id => obtain ⟨_, _, _, _, _, _, _, _, _, g, _⟩ := hl; cases g
  | goto l => exact (hl : False).elim
  | panic c => exact hl.2.no.elim
  | outgrown => exact (hl : False).elim
end Go.Proofs.YticefdfhcahlfaaDoor.AM

namespace Go.Proofs.YticefdfhcahlfaaDoor.AM
open Go.RowKit
set_option linter.unusedVariables false
set_option linter.unusedSimpArgs false
set_option maxRecDepth 100000
def cOf : ACode → ACode
  | .seq _ (.seq _ c) => c
  | _ => .skip
def bodyC : Option Code → Code
  | some (.seq _ (.seq _ c)) => c
  | _ => .skip
def bX : Code → Code
  | .seq x _ => x
  | _ => .skip
def bZ : Code → Code
  | .seq _ (.seq _ z) => z
  | _ => .skip
def bR : Code → Array Oper
  | .seq _ (.seq (.region _ ops _) _) => ops
  | _ => #[]
def aX : ACode → ACode
  | .seq x _ => x
  | _ => .skip
def aZ : ACode → ACode
  | .seq _ (.seq _ z) => z
  | _ => .skip
def aR : ACode → List AOper
  | .seq _ (.seq (.reg _ ops) _) => ops
  | _ => []
theorem bodyC_eq : ∃ id, bodyC Tryd.f45.body = .seq (bX (bodyC Tryd.f45.body)) (.seq (.region id (bR (bodyC Tryd.f45.body)) false) (bZ (bodyC Tryd.f45.body))) := ⟨_, rfl⟩
theorem compX61 : comp Tryd.prog 19 h45 (bX (bodyC Tryd.f45.body)) = some (aX (cOf ac45)) := by kernel_rfl
theorem compZ61 : comp Tryd.prog 19 h45 (bZ (bodyC Tryd.f45.body)) = some (aZ (cOf ac45)) := by kernel_rfl
theorem compR61 : listM (compOper Tryd.prog 19 (bR (bodyC Tryd.f45.body)).toList) (bR (bodyC Tryd.f45.body)).toList = some (aR (cOf ac45)) := by kernel_rfl
theorem keepR61 : ∀ o ∈ (bR (bodyC Tryd.f45.body)).toList, o.dst ≠ some 4 := by
  intro o ho
  have : ((bR (bodyC Tryd.f45.body)).toList.all fun o => o.dst != some 4) = true := by kernel_rfl
  have := List.all_eq_true.1 this o ho
  simpa using this
theorem ins_mono {P : Env} : ∀ (i : AIns) (r : Regs) (σ : St) (Q Q' : AVal → St → Prop), i.wp P r σ Q → (∀ v σ, Q v σ → Q' v σ) → i.wp P r σ Q' := by
  intro i r σ Q Q' h hq
  cases i with
  | op o => simp only [AIns.wp] at h ⊢; split at h <;> simp_all
  | pick c a b =>
    simp only [AIns.wp] at h ⊢
    split at h
    · split at h
      · simp_all
      · exact h.elim
    · exact h.elim
  | call f args =>
    simp only [AIns.wp] at h ⊢
    split at h
    · rename_i g xs ys hf
      split at h
      · rename_i vs hvs; exact h.mono hq
      · exact h.elim
    · split at h
      · obtain ⟨K, h1, h2⟩ := h; exact ⟨K, h1, fun v σ hk => hq _ _ (h2 v σ hk)⟩
      · exact h.elim
    · exact h.elim
  | next x =>
    simp only [AIns.wp] at h ⊢
    split at h
    · exact fun p hp => hq _ _ (h p hp)
    · exact h.elim
  | panic x => simp only [AIns.wp] at h ⊢; exact h
theorem rwp_mono {P : Env} : ∀ (ops : List AOper) (r : Regs) (σ : St) (Q Q' : Regs → St → Prop), rwp P ops r σ Q → (∀ v σ, Q v σ → Q' v σ) → rwp P ops r σ Q' := by
  intro ops
  induction ops with
  | nil => intro r σ Q Q' h hq; exact hq _ _ h
  | cons o rest ih =>
    intro r σ Q Q' h hq
    simp only [rwp] at h ⊢
    split at h
    · rename_i hg; exact ins_mono _ _ _ _ _ h fun v σ h => ih _ _ _ _ h hq
    · split at h
      · rename_i hb
        split at h
        · rename_i hbw; simp only [if_pos hbw]; exact ins_mono _ _ _ _ _ h fun v σ h => ih _ _ _ _ h hq
        · rename_i hbw; simp only [if_neg hbw]; exact ih _ _ _ _ h hq
      · exact ih _ _ _ _ h hq
      · exact h.elim
theorem ops_keep {P : Program} {T : AVal → St → Prop} {t : Nat} {v : AVal} : ∀ (l : List AOper) (r : Regs) (σ : St) (Q : Regs → St → Prop), rwp (Env.th P T) l r σ Q → (∀ o ∈ l, ∃ d op, o = ⟨d, .op op, none⟩ ∧ d ≠ some t) → r.lookup t = some v → rwp (Env.of P) l r σ (fun r σ => r.lookup t = some v ∧ Q r σ) := by
  intro l
  induction l with
  | nil => intro r σ Q h _ hv; exact ⟨hv, h⟩
  | cons o l ih =>
    intro r σ Q h hk hv
    obtain ⟨d, op, rfl, hd⟩ := hk o (by simp)
    simp only [rwp, AIns.wp] at h ⊢
    split at h
    · rename_i v' σ' he
      exact ih _ _ _ h (fun o ho => hk o (by simp [ho])) ((lookup_setR_ne hd).trans hv)
    · exact h.elim
theorem quietZ {T : AVal → St → Prop} {Q : Post} {r : Regs} {σ : St} (h : (aZ (cOf ac45)).wp (Env.th Tryd.prog T) Q r σ) : (aZ (cOf ac45)).wp (Env.of Tryd.prog) Q r σ := by
  unfold ac45 cOf aZ at h ⊢
  exact h
theorem body_c {T : AVal → St → Prop} {Q : Post} {bv fv : AVal} {b : Nat} {σ : St} (h : (cOf ac45).wp (Env.th Tryd.prog T) Q [(0, bv), (1, fv), (4, .ptr b 0)] σ) :
    (aX (cOf ac45)).wp (Env.of Tryd.prog) (fun e r s => e = .normal ∧ r.lookup 4 = some (.ptr b 0) ∧ rwp (Env.th Tryd.prog T) (aR (cOf ac45)) r s (fun r s => (aZ (cOf ac45)).wp (Env.of Tryd.prog) Q (norm [4, 5] r) s)) [(0, bv), (1, fv), (4, .ptr b 0)] σ := by
  have hz : ∀ {r σ}, (aZ (cOf ac45)).wp (Env.th Tryd.prog T) Q r σ → (aZ (cOf ac45)).wp (Env.of Tryd.prog) Q r σ := quietZ
  revert h hz
  unfold ac45 cOf aX aR aZ
  intro h hz
  have h1 := ops_keep (t := 4) (v := .ptr b 0) _ _ _ _ h (by simp) rfl
  exact rwp_mono _ _ _ _ _ h1 fun r σ ⟨k1, k2⟩ => ⟨rfl, by simp [norm, k1, List.filterMap_cons]; cases List.lookup 1 r <;> simp [lk_cons], rwp_mono _ _ _ _ _ k2 fun r σ k => hz k⟩
end Go.Proofs.YticefdfhcahlfaaDoor.AM

/- pack.Read (its code: cf45, cf81). -/
namespace Go.Proofs.YticefdfhcahlfaaDoor.AM
open Go.RowKit
set_option linter.unusedVariables false
set_option linter.unusedSimpArgs false
set_option maxRecDepth 100000
def aOf : ACode → ACode
  | .seq a _ => a
  | _ => .skip
def bodyA : Option Code → Code
  | some (.seq a _) => a
  | _ => .skip
def bodyR : Option Code → Array Oper
  | some (.seq _ (.seq (.region _ ops _) _)) => ops
  | _ => #[]
theorem body61 : Tryd.f45.body = some (.seq (bodyA Tryd.f45.body) (.seq (.region 1 (bodyR Tryd.f45.body) false) (bodyC Tryd.f45.body))) := rfl
theorem compA61 : comp Tryd.prog 19 h45 (bodyA Tryd.f45.body) = some (aOf ac45) := by kernel_rfl
theorem read_c {σ : St} {bv fv : AVal} (Q : AVal → St → Prop)
    (h : (cOf ac45).wp (Env.th Tryd.prog fun v σ' => ∃ c x, v = .iface 156 (.agg [.int .i64 c]) ∧ σ'.mem.get σ.next = some (.cells 1 [.int .i64 x]) ∧ Q (.int .i64 c) ⟨σ'.mem.set σ.next (.cells 1 [.int .i64 c]), σ'.next⟩)
      (retPost rs45 Q) [(0, bv), (1, fv), (4, .ptr σ.next 0)] ⟨σ.mem.set σ.next (.cells 1 [.int .i64 0]), σ.next + 1⟩) : ACall Tryd.prog 45 [bv, fv] σ Q := by
  refine ACall.ofCalls (fun a w => Tryd.call45 a w) fun B w0 ρ I w cargs rl hsz hargs => ?_
  refine calls_of_wp_defers Tryd.func45 body61 ?_
  refine Go.wp_seq ?_
  have hA := code_sound (P := Env.of Tryd.prog) (w0 := { w0 with ds := [] }) (B := B) hmx (bodyA Tryd.f45.body) (aOf ac45) compA61 (fun e r s => e = .normal ∧ r = [(0, bv), (1, fv), (4, .ptr σ.next 0)] ∧ s = ⟨σ.mem.set σ.next (.cells 1 [.int .i64 0]), σ.next + 1⟩) (argR 0 [bv, fv]) σ ρ I { tmps := cargs ++ Array.replicate (Tryd.f45.ntmps - cargs.size) undef, defers := [] } w rfl (by simp [ac45, aOf, lk_cons, argR]) ?_ (rl.atDs []) (YOk.of _ _ _ _ _) rfl ?_
  · refine Code.wp_mono ?_ hA
    intro e a w1 hl
    cases e with
    | normal =>
      obtain ⟨r, σ1, ρ1, I1, g1, g2, g3, g4, g5, _, rfl, rfl⟩ := hl
      refine Go.wp_seq ?_
      refine Go.wp_region_list ?_
      obtain ⟨cvp, hp, hvp⟩ := g4 4 (.ptr σ.next 0) rfl
      simp only [VRel] at hvp
      have hmf : ∀ (fn : Fn) (first cap : Array Value) (w : World), (Instr.makeFunc fn first cap).run Tryd.prog w = .ok (.func fn first cap) w := fun _ _ _ _ => rfl
      have hev : a.eval (.tmp 4) = cvp := by
        have : a.tmps.getD 4 undef = cvp := by rw [Array.getD_eq_getD_getElem?, hp]; rfl
        exact this
      have hC0 : Code.wp Tryd.prog (bodyC Tryd.f45.body) (bodyPostD Tryd.prog Tryd.f45 fun e w' => ∃ v σ' ρ' I' cv, e = Ending.returned cv ∧ VRel ρ' I' v cv ∧ Rel B w0 ρ' I' σ' w' ∧ Ext ρ I σ ρ' I' σ' ∧ Q v σ')
          { tmps := a.tmps.setIfInBounds 6 (Value.func (Fn.func 81) #[] #[cvp]), defers := ⟨.fn (.func 81) #[cvp], #[]⟩ :: a.defers } w1 := by
        obtain ⟨pl, hpl, rfl⟩ := hvp
        have hinv : ∀ w, (invoke (.fn (.func 81) #[.pointer (some ⟨pl.b, pl.base + 0, none⟩)]) #[]).run Tryd.prog w = .ok (.enter 81 #[.pointer (some ⟨pl.b, pl.base + 0, none⟩)]) w := fun w => Tryd.call81 _ w
        have hR : RegsRel ρ1 I1 [(0, bv), (1, fv), (4, .ptr σ.next 0)] (a.tmps.setIfInBounds 6 (Value.func (Fn.func 81) #[] #[.pointer (some ⟨pl.b, pl.base + 0, none⟩)])) := by
          intro t v hv
          obtain ⟨cu, b1, b2⟩ := g4 t v hv
          have hne : t ≠ 6 := by
            intro h6; subst h6
            simp [lk_cons] at hv
          exact ⟨cu, by rw [Array.getElem?_setIfInBounds_ne (fun e => hne e.symm)]; exact b1, b2⟩
        obtain ⟨rid, hid⟩ := bodyC_eq
        have hC := seq3_sound (id := rid) (P := Tryd.prog) (B := B) (w0 := { w0 with ds := [⟨.fn (.func 81) #[.pointer (some ⟨pl.b, pl.base + 0, none⟩)], #[]⟩] }) (nt := 19)
          (a := { tmps := a.tmps.setIfInBounds 6 (Value.func (Fn.func 81) #[] #[.pointer (some ⟨pl.b, pl.base + 0, none⟩)]), defers := ⟨.fn (.func 81) #[.pointer (some ⟨pl.b, pl.base + 0, none⟩)], #[]⟩ :: a.defers })
          hmx compX61 compR61 compZ61 keepR61 rfl rfl (body_c h) hR (g3.ofDs.atDs _) (by rw [g1]) (by simp [g2]) (Nat.lt_succ_self _)
        rw [hid]
        · refine Code.wp_mono ?_ hC
          intro e a2 w2 hl
          obtain ⟨hl, hkp⟩ := hl
          have hlt0 : σ.next < σ.next + 1 := Nat.lt_succ_self _
          have key : Lift 19 B { w0 with ds := [⟨.fn (.func 81) #[.pointer (some ⟨pl.b, pl.base + 0, none⟩)], #[]⟩] } ρ1 I1 ⟨σ.mem.set σ.next (.cells 1 [.int .i64 0]), σ.next + 1⟩ (fun r σ => match resA r σ rs45 with | some v => Q v σ | none => False) a2 w2 →
              Leaves Tryd.prog Tryd.f45 a2.tmps (fun e w' => ∃ v σ' ρ' I' cv, e = Ending.returned cv ∧ VRel ρ' I' v cv ∧ Rel B w0 ρ' I' σ' w' ∧ Ext ρ I σ ρ' I' σ' ∧ Q v σ') a2.defers .returning w2 := by
            rintro ⟨r, σ', ρ', I', q1, q2, q3, q4, q5, q6⟩
            split at q6
            · rename_i v hv
              obtain ⟨cv, u1, u2⟩ := res_sound (P := Env.of Tryd.prog) (fn := Tryd.f45) q4 q3.ofDs (rs := rs45) (by kernel_rfl) hv
              rw [q1]
              refine ⟨by simp, _, _, 81, _, rfl, hinv _, (catch_idle _ w2).mono ?_⟩
              rintro e u' w' ⟨rfl, rfl, rfl⟩
              exact ⟨cv, u1, v, σ', ρ', I', cv, rfl, u2, q3.ofDs, g5.trans q5, q6⟩
            · exact q6.elim
          cases e with
          | normal => exact key hl
          | ret => exact key hl
          | exit id =>
            obtain ⟨r, σ', ρ', I', q1, q2, q3, q4, q5, q6⟩ := hl
            exact q6.elim
          | goto l => exact (hl : False).elim
          | outgrown => exact (hl : False).elim
          | panic chain =>
            obtain ⟨hd, v, σ', ρ', I', cv, rfl, q2, q3, q4, c, x, rfl, hm, hq⟩ := hl
            show Leaves Tryd.prog Tryd.f45 a2.tmps _ a2.defers _ w2
            rw [hd]
            obtain ⟨cw, t4, hv4⟩ := hkp ⟨_, rfl⟩
            simp only [VRel] at hv4
            obtain ⟨pl', hp4, rfl⟩ := hv4
            have hpp : pl' = pl := by rw [hpl] at hp4; exact (Option.some.inj hp4).symm
            subst hpp
            have hρ : ρ' σ.next = some pl' := (q4.1 _ hlt0).trans hpl
            have hcv : cv = .iface 156 (.agg #[.int .i64 c]) := by
              simp only [VRel] at q2
              obtain ⟨y, rfl, cs', rfl, hsz, _, hC⟩ := q2
              obtain ⟨u, hu1, hu2⟩ := hC.get 0 (.int .i64 c) rfl
              simp only [VRel] at hu2
              subst hu2
              have h1 : cs'.size = 1 := hsz
              have : cs' = #[.int .i64 c] := by
                apply Array.ext (by simp [h1])
                intro i hi1 hi2
                have : i = 0 := by omega
                subst this
                rw [Array.getElem?_eq_getElem hi1] at hu1
                simpa using hu1
              rw [this]
            subst hcv
            have ra : Rel B w0 ρ' I' σ' (w2.alloc (.cells #[.int .i64 c] 156)) :=
              Rel.below q3.ofDs ((Below.refl _ _).alloc (Nat.le_refl _) _)
            obtain ⟨⟨u, c1⟩, c2, c3, c4⟩ := ra.setCell hρ hm (o := 0) (by simp) (v := .int .i64 c) (cv := .int .i64 c) (by simp [VRel]) rfl
            refine ⟨by simp, _, _, 81, _, rfl, hinv _, (catch_thrown _ c u w2 c1 c2).mono ?_⟩
            rintro e u' w' ⟨rfl, rfl, rfl⟩
            have hregs : RegsRel ρ' I' [(4, .ptr σ.next 0)] a2.tmps := by
              intro t v hv
              by_cases h4 : t = 4
              · subst h4
                simp at hv; subst hv
                exact ⟨_, t4, by simp only [VRel]; exact ⟨pl', hρ, rfl⟩⟩
              · have : (t == 4) = false := by simp [h4]
                simp [List.lookup, this] at hv
            obtain ⟨cv2, u1, u2⟩ := res_sound (P := Env.of Tryd.prog) (fn := Tryd.f45) hregs c3 (rs := rs45) (v := .int .i64 c) (by kernel_rfl) (by simp [rs45, resA, lk_cons])
            exact ⟨cv2, u1, .int .i64 c, _, ρ', I', cv2, rfl, u2, c3, (g5.trans q4).trans c4, hq⟩
      have hev6 : Act.eval { tmps := a.tmps.setIfInBounds 6 (Value.func (Fn.func 81) #[] #[cvp]), defers := a.defers } (.tmp 6) = Value.func (Fn.func 81) #[] #[cvp] := by
        show (a.tmps.setIfInBounds 6 (Value.func (Fn.func 81) #[] #[cvp])).getD 6 undef = _
        rw [Array.getD_eq_getD_getElem?, Array.getElem?_setIfInBounds_self]
        simp [g2]
      have hC1 := hC0
      revert hC1
      generalize bodyC Tryd.f45.body = CC
      intro hC1
      generalize hbr : bodyR Tryd.f45.body = ops
      simp only [bodyR, Tryd.f45] at hbr
      subst hbr
      simp [wpList, Oper.wp, execOp, hmf, hev, Oper.upon, Region.wanted, Act.put, resolve, hev6, Deferred.ofValue]
      left
      have hE : ∀ N E, Exit.then N E .normal = N := fun _ _ => rfl
      rw [hE]
      exact .inl hC1
    | ret =>
      obtain ⟨r, σ1, ρ1, I1, g1, g2, g3, g4, g5, g6, _⟩ := hl
      cases g6
    | exit id =>
      obtain ⟨r, σ1, ρ1, I1, g1, g2, g3, g4, g5, g6, _⟩ := hl
      cases g6
    | goto l => exact (hl : False).elim
    | panic c => exact hl.2.no.elim
    | outgrown => exact (hl : False).elim
  · intro t v hv
    obtain ⟨_, h2⟩ := argR_lookup [bv, fv] 0 t v hv
    rw [Nat.sub_zero] at h2
    obtain ⟨u, h3, h4⟩ := hargs.get t v h2
    have hlt := (Array.getElem?_eq_some_iff.1 h3).1
    exact ⟨u, by rw [Array.getElem?_append_left hlt]; exact h3, h4⟩
  · have : cargs.size = 2 := hsz
    simp [this]
end Go.Proofs.YticefdfhcahlfaaDoor.AM

namespace Go.Proofs.YticefdfhcahlfaaDoor.AM
open Go.RowKit
set_option linter.unusedVariables false
set_option linter.unusedSimpArgs false
set_option maxRecDepth 100000
theorem fail_c {T : AVal → St → Prop} {rv : AVal} {c : Int} {σ : St} {Q : AVal → St → Prop} (hT : c ≠ 0 → T (.iface 156 (.agg [.int .i64 c])) σ) (hQ : c = 0 → Q (.tup []) σ) : ACall (Env.th Tryd.prog T) 67 [rv, .int .i64 c] σ Q := by
  refine ACall.of_compF hmx (fun a w => Tryd.call67 a w) Tryd.func67 cf67 (n := 2) (by decide) rfl ?_
  by_cases hc : c = 0
  · simp [ac67, rs67, lk_cons, hc, hQ]
  · simp [ac67, rs67, lk_cons, hc, hT, fillL, storeL]
end Go.Proofs.YticefdfhcahlfaaDoor.AM


namespace Go.Proofs.YticefdfhcahlfaaDoor.AM
open Go.RowKit
set_option maxRecDepth 100000
set_option linter.unusedVariables false
set_option linter.unusedSimpArgs false
def be (l : List UInt8) : Nat := l.foldl (fun a b => a * 256 + b.toNat) 0
theorem be_snoc (l : List UInt8) (b : UInt8) : be (l ++ [b]) = be l * 256 + b.toNat := by simp [be, List.foldl_append]
theorem be_nil : be [] = 0 := rfl
theorem be_lt_aux : ∀ (l : List UInt8) (a : Nat), l.foldl (fun a b => a * 256 + b.toNat) a + 1 ≤ (a + 1) * 256 ^ l.length
  | [], a => by simp
  | b :: l, a => by
    have h := be_lt_aux l (a * 256 + b.toNat)
    have hb := b.toNat_lt
    simp only [List.foldl_cons, List.length_cons, Nat.pow_succ]
    refine Nat.le_trans h ?_
    have : (a * 256 + b.toNat + 1) * 256 ^ l.length ≤ ((a + 1) * 256) * 256 ^ l.length := Nat.mul_le_mul_right _ (by omega)
    rw [Nat.mul_comm (256 ^ l.length) 256, ← Nat.mul_assoc]
    exact this
theorem be_lt (l : List UInt8) : be l < 256 ^ l.length := by
  have := be_lt_aux l 0
  unfold be
  omega
theorem take_snoc {l : List UInt8} {i : Nat} {x : UInt8} (h : l[i]? = some x) : l.take (i + 1) = l.take i ++ [x] := by
  rw [List.take_add_one, h]; rfl
abbrev thrownV (c : Int) : AVal := .iface 156 (.agg [.int .i64 c])
theorem shl8 {x : Nat} (h : x * 256 < 18446744073709551616) (ρ : St) : evalV ρ (.bin .shl (.int .u64 (x : Nat)) (.int .u64 8)) = some (.int .u64 ((x : Int) * 256), ρ) := by
  have h1 : IntKind.u64.wrap ((x : Int) * 2 ^ min (Int.toNat 8) IntKind.u64.bits) = (x : Int) * 256 := by
    have : (2 : Int) ^ min (Int.toNat 8) IntKind.u64.bits = 256 := by decide
    rw [this]
    rw [IntWalk.u64_in] <;> omega
  simp only [evalV, abin, ashift, h1]
  rfl
theorem or8 {x : Nat} {b : UInt8} (h : x * 256 + b.toNat < 18446744073709551616) (ρ : St) : evalV ρ (.bin .or (.int .u64 ((x : Int) * 256)) (.int .u64 (b.toNat : Int))) = some (.int .u64 ((x * 256 + b.toNat : Nat) : Int), ρ) := by
  have hb := b.toNat_lt
  have h0 : (x : Int) * 256 = ((x * 256 : Nat) : Int) := by omega
  rw [h0]
  have h2 : ((BitVec.ofInt IntKind.u64.bits ((x * 256 : Nat) : Int)) ||| (BitVec.ofInt IntKind.u64.bits (b.toNat : Int))).toNat = x * 256 + b.toNat := by
    have e : IntKind.u64.bits = 64 := rfl
    rw [e]
    simp only [BitVec.ofInt_natCast, BitVec.toNat_or, BitVec.toNat_ofNat]
    rw [Nat.mod_eq_of_lt (by omega), Nat.mod_eq_of_lt (by omega)]
    have := Nat.two_pow_add_eq_or_of_lt (i := 8) (b := b.toNat) hb x
    rw [Nat.mul_comm x 256]
    exact this.symm
  simp only [evalV, abin, abinI, abits, h2, if_true]
  rw [IntWalk.u64_in] <;> first | rfl | omega
end Go.Proofs.YticefdfhcahlfaaDoor.AM

namespace Go.Proofs.YticefdfhcahlfaaDoor.AM
open Go.RowKit
set_option maxRecDepth 100000
set_option linter.unusedVariables false
set_option linter.unusedSimpArgs false
def RR (σ : St) (r : Nat) (l : List UInt8) (c : Option Nat) : Prop := ∃ v, σ.mem.get r = some (.cells 1 [v]) ∧ RdB σ v l c ∧ c ≠ some r ∧ r < σ.next
theorem RR.keep {σ σ' : St} {r : Nat} {l : List UInt8} {c : Option Nat} (h : RR σ r l c) (hn : σ.next ≤ σ'.next) (hm : ∀ a, a < σ.next → a = r ∨ c = some a → σ'.mem.get a = σ.mem.get a) : RR σ' r l c := by
  obtain ⟨v, h1, h2, h3, h4⟩ := h
  exact ⟨v, (hm r h4 (.inl rfl)).trans h1, h2.keep hn fun a ha hc => hm a ha (.inr hc), h3, by omega⟩
structure RStp (r : Nat) (σ σ' : St) : Prop where
  next : σ.next ≤ σ'.next
  keep : ∀ a, a < σ.next → a ≠ r → σ'.mem.get a = σ.mem.get a
theorem RStp.refl (r : Nat) (σ : St) : RStp r σ σ := ⟨Nat.le_refl _, fun _ _ _ => rfl⟩
theorem RStp.trans {r : Nat} {a b d : St} (h : RStp r a b) (k : RStp r b d) : RStp r a d := ⟨Nat.le_trans h.next k.next, fun x hx hr => (k.keep x (Nat.lt_of_lt_of_le hx h.next) hr).trans (h.keep x hx hr)⟩
theorem Grow.rstp {σ σ' : St} (h : Grow σ σ') (r : Nat) : RStp r σ σ' := ⟨h.1, fun a ha _ => h.2 a ha⟩
theorem RR.grow {σ σ' : St} {r : Nat} {l : List UInt8} {c : Option Nat} (h : RR σ r l c) (hg : Grow σ σ') : RR σ' r l c := h.keep hg.1 fun a ha _ => hg.2 a ha
def pNum (k : Nat) (l : List UInt8) : Except Nat (Nat × List UInt8) := if l.length < k then .error 4 else .ok (be (l.take k), l.drop k)
def pBytes (l : List UInt8) : Except Nat (List UInt8 × List UInt8) := match pNum 4 l with
  | .error c => .error c
  | .ok (n, r) => if r.length < n then .error 4 else .ok (r.take n, r.drop n)
def pText (l : List UInt8) : Except Nat (List UInt8 × List UInt8) := match pBytes l with
  | .error c => .error c
  | .ok (b, r) => if vld b then .ok (b, r) else .error 6
theorem pNum_len {k : Nat} {l : List UInt8} {n : Nat} {r : List UInt8} (h : pNum k l = .ok (n, r)) : r.length + k = l.length ∧ n < 256 ^ k := by
  unfold pNum at h
  split at h
  · cases h
  · rename_i hk
    cases h
    have := be_lt (l.take k)
    rw [List.length_take, Nat.min_eq_left (by omega)] at this
    exact ⟨by rw [List.length_drop]; omega, this⟩
theorem pBytes_len {l b r : List UInt8} (h : pBytes l = .ok (b, r)) : r.length ≤ l.length ∧ b.length ≤ l.length := by
  unfold pBytes at h
  split at h
  · cases h
  · rename_i n r' hn
    have := (pNum_len hn).1
    split at h
    · cases h
    · cases h; simp only [List.length_drop, List.length_take]; omega
theorem pText_len {l b r : List UInt8} (h : pText l = .ok (b, r)) : r.length ≤ l.length ∧ b.length ≤ l.length := by
  unfold pText at h
  split at h
  · cases h
  · rename_i b' r' hb
    have := pBytes_len hb
    split at h
    · cases h; exact this
    · cases h
section
variable {T : AVal → St → Prop} {σ : St} {r : Nat} {l : List UInt8} {c : Option Nat} {Q : AVal → St → Prop}
theorem rtake_c (h : RR σ r l c) (hl : l.length < 4611686018427387904) {n : Nat} (hT : l.length < n → T (thrownV 4) σ)
    (hQ : n ≤ l.length → ∀ v1 σ', RR σ' r (l.drop n) c → RdB σ' v1 (l.take n) c → σ'.next = σ.next → (∀ a, a ≠ r → σ'.mem.get a = σ.mem.get a) → Q v1 σ') : ACall (Env.th Tryd.prog T) 84 [.ptr r 0, .int .u64 (n : Int)] σ Q := by
  refine ACall.of_compF hmx (fun a w => Tryd.call84 a w) Tryd.func84 cf84 (n := 2) (by decide) rfl ?_
  obtain ⟨v, h1, h2, h3, h4⟩ := h
  have hlen := h2.len
  have w1 : IntKind.u64.wrap (l.length : Int) = l.length := by rw [IntWalk.u64_in] <;> omega
  by_cases hn : l.length < n
  · have hn' : (l.length : Int) < n := by omega
    simp [ac84, rs84, lk_cons, h1, ↓hlen, w1, hn, hn', fillL, storeL]
    exact hT hn
  · have hn' : ¬ (l.length : Int) < n := by omega
    obtain ⟨v1, s1, r1⟩ := h2.pre (n := n) (by omega) .u64 rfl
    obtain ⟨v2, s2, r2⟩ := h2.cut (n := n) (by omega) .u64 rfl
    have s1 := s1 σ (fun _ _ => rfl)
    have s2 := s2 σ (fun _ _ => rfl)
    simp [ac84, rs84, lk_cons, h1, ↓hlen, w1, hn, hn', optM, ↓s1, ↓s2, r2.one, storeL]
    have kp : ∀ a, a ≠ r → (σ.mem.set r (.cells 1 [v2])).get a = σ.mem.get a := fun a ha => by simp [ha]
    have rk : ∀ {w : AVal} {m : List UInt8}, RdB σ w m c → RdB ⟨σ.mem.set r (.cells 1 [v2]), σ.next⟩ w m c := fun hw => hw.keep (Nat.le_refl _) fun a _ hc => kp a fun e => h3 (by rw [hc, e])
    exact hQ (by omega) v1 _ ⟨v2, by simp, rk r2, h3, h4⟩ (rk r1) rfl kp
def NuJ (v1 : AVal) (l1 : List UInt8) (σ0 : St) (mm : Nat) (rg : Regs) (σ' : St) : Prop := ∃ i, mm = l1.length - i ∧ i ≤ l1.length ∧ σ' = σ0 ∧
  rg = [(5, .int .u64 (be (l1.take i) : Nat)), (10, v1), (11, .int .i64 (l1.length : Nat)), (12, .int .i64 (i : Nat))]
theorem rnum_c (h : RR σ r l c) (hl : l.length < 4611686018427387904) {n : Nat} (hn8 : n ≤ 8) (hT : ∀ e, pNum n l = .error e → T (thrownV (e : Int)) σ)
    (hQ : ∀ x l' σ', pNum n l = .ok (x, l') → RR σ' r l' c → RStp r σ σ' → Q (.int .u64 (x : Int)) σ') : ACall (Env.th Tryd.prog T) 82 [.ptr r 0, .int .u64 (n : Int)] σ Q := by
  refine ACall.of_compF hmx (fun a w => Tryd.call82 a w) Tryd.func82 cf82 (n := 2) (by decide) rfl ?_
  simp [ac82, rs82, lk_cons]
  refine rtake_c h hl (fun hn => by have := hT 4 (by rw [pNum, if_pos hn]); exact this) fun hn v1 σ1 h1 h2 hx hk => ?_
  have hq := hQ (be (l.take n)) (l.drop n) σ1 (by rw [pNum, if_neg (by omega)]) h1 ⟨by omega, fun a _ ha => hk a ha⟩
  have hlt : (l.take n).length = n := by simp [Nat.min_eq_left hn]
  revert h2 hq hlt
  generalize l.take n = l1
  intro h2 hq hlt
  subst hlt
  have hlen1 := h2.len
  simp [lk_cons, ↓hlen1]
  refine wp_loop (NuJ v1 l1 σ1) l1.length ?_ ?_
  · exact ⟨0, rfl, Nat.zero_le _, rfl, by simp [be_nil, lk_cons]⟩
  · rintro mm rg σ' ⟨i, rfl, hi, rfl, rfl⟩
    by_cases hc : i < l1.length
    · obtain ⟨x, hx⟩ : ∃ x, l1[i]? = some x := ⟨_, List.getElem?_eq_getElem (by omega)⟩
      obtain ⟨k, hk⟩ : ∃ k, i + 1 = k := ⟨_, rfl⟩
      have w1 : IntKind.i64.wrap ((i : Int) + 1) = (k : Int) := by rw [IntWalk.i64_in] <;> omega
      have htk := take_snoc hx
      have hbe : be (l1.take k) = be (l1.take i) * 256 + x.toNat := by rw [← hk, htk, be_snoc]
      have hbl : be (l1.take k) < 18446744073709551616 := by
        have := be_lt (l1.take k)
        have hle : (l1.take k).length ≤ 8 := by simp; omega
        have := Nat.pow_le_pow_right (n := 256) (by decide) hle
        have e : 256 ^ 8 = 18446744073709551616 := by decide
        omega
      have e1 := shl8 (x := be (l1.take i)) (by omega) σ'
      have e2 := or8 (x := be (l1.take i)) (b := x) (by omega) σ'
      obtain ⟨p, a1, a2⟩ := h2.at hx rfl
      have a2 := a2 σ' (fun _ _ => rfl)
      have wx : IntKind.u64.wrap (x.toNat : Int) = x.toNat := by have := x.toNat_lt; rw [IntWalk.u64_in] <;> omega
      simp [lk_cons, hc, w1, ↓a1, ↓a2, wx, ↓e1, ↓e2]
      exact ⟨l1.length - k, by omega, k, rfl, by omega, rfl, by rw [hbe]; simp⟩
    · have : i = l1.length := by omega
      subst this
      simp [lk_cons]
      exact hq
theorem ru64_c (h : RR σ r l c) (hl : l.length < 4611686018427387904) (hT : ∀ e, pNum 8 l = .error e → T (thrownV (e : Int)) σ)
    (hQ : ∀ x l' σ', pNum 8 l = .ok (x, l') → RR σ' r l' c → RStp r σ σ' → Q (.int .u64 (x : Int)) σ') : ACall (Env.th Tryd.prog T) 47 [.ptr r 0] σ Q := by
  refine ACall.of_compF hmx (fun a w => Tryd.call47 a w) Tryd.func47 cf47 (n := 1) (by decide) rfl ?_
  simp [ac47, rs47, lk_cons]
  refine rnum_c h hl (n := 8) (by decide) hT fun x l' σ' h1 h2 h3 => ?_
  simp [lk_cons]
  exact hQ x l' σ' h1 h2 h3
theorem ru8_c (h : RR σ r l c) (hl : l.length < 4611686018427387904) (hT : ∀ e, pNum 1 l = .error e → T (thrownV (e : Int)) σ)
    (hQ : ∀ x l' σ', pNum 1 l = .ok (x, l') → RR σ' r l' c → RStp r σ σ' → Q (.int .u8 (x : Int)) σ') : ACall (Env.th Tryd.prog T) 48 [.ptr r 0] σ Q := by
  refine ACall.of_compF hmx (fun a w => Tryd.call48 a w) Tryd.func48 cf48 (n := 1) (by decide) rfl ?_
  simp [ac48, rs48, lk_cons]
  refine rnum_c h hl (n := 1) (by decide) hT fun x l' σ' h1 h2 h3 => ?_
  have hx := (pNum_len h1).2
  have w1 : IntKind.u8.wrap (x : Int) = x := by rw [IntWalk.u8_in]; omega
  simp [lk_cons, w1]
  exact hQ x l' σ' h1 h2 h3
end
theorem clone_c {σ : St} {v : AVal} {l : List UInt8} {c : Option Nat} (h : RdB σ v l c) (hl : l.length ≤ 140737488355328) (Q : AVal → St → Prop)
    (hQ : ∀ σ' v' b', GS rwB σ' v' l b' → (∀ x, b' = some x → σ.next ≤ x) → Grow σ σ' → Q v' σ') : ACall Tryd.prog 80 [v] σ Q := by
  refine ACall.of_compF hmx (fun a w => Tryd.call80 a w) Tryd.func80 cf80 (n := 1) (by decide) rfl ?_
  by_cases hv : v = .nilsl
  · subst hv
    have hl0 : l = [] := by
      rcases h with ⟨⟨_, h⟩ | ⟨t, h⟩, _⟩ | ⟨o, off, cap, t, vals, _, h, _⟩
      · exact h
      · cases h
      · cases h
    subst hl0
    simp [ac80, rs80, lk_cons]
    exact hQ σ .nilsl none (GS.nil σ) (by simp) (Grow.refl _)
  · have hnil : aeqn 1 v .nilsl = some false := by
      rcases h with ⟨⟨h, _⟩ | ⟨t, h⟩, _⟩ | ⟨o, off, cap, t, vals, _, h, _⟩
      · exact absurd h hv
      · rw [h]; simp
      · rw [h]; simp
    have hg : GS rwB ⟨σ.mem.set σ.next (.cells 1 []), σ.next + 1⟩ (.sl σ.next 0 0 0 true) [] (some σ.next) := .inr ⟨σ.next, true, rfl, rfl, by simp, by simp [rws]⟩
    have hsrc := (h.keep (σ' := ⟨σ.mem.set σ.next (.cells 1 []), σ.next + 1⟩) (by simp) fun a ha _ => by simp [show ¬ a = σ.next by omega]).src
    obtain ⟨v', σ2, b', e1, e2, e3, e4, e5⟩ := gs_appN hg (by_ := 1) (by decide) hsrc (by simp; omega) (by simp; omega)
    simp only [List.nil_append] at e2
    have hev : ∀ ρ : St, evalV ρ (.eqn 1 false v .nilsl) = some (.bool false, ρ) := fun ρ => by simp only [evalV, hnil]; rfl
    simp [ac80, rs80, lk_cons, ↓hev, fillL, repL, ↓e1]
    simp at e4 e5
    refine hQ _ v' b' e2 (fun x hx => ?_) ⟨by omega, fun a ha => ?_⟩
    · rcases e3 with e3 | e3
      · rw [e3] at hx; cases hx; omega
      · rw [e3] at hx; cases hx; simp
    · rw [e5 a (by omega) (by omega)]
      simp [show ¬ a = σ.next by omega]
section
variable {T : AVal → St → Prop} {σ : St} {r : Nat} {l : List UInt8} {c : Option Nat} {Q : AVal → St → Prop}
theorem rbytes_b (h : RR σ r l c) (hl : l.length ≤ 140737488355328) (hT : ∀ e σ', pBytes l = .error e → RStp r σ σ' → T (thrownV (e : Int)) σ')
    (hQ : ∀ b l' v' b' σ', pBytes l = .ok (b, l') → RR σ' r l' c → GS rwB σ' v' b b' → (∀ x, b' = some x → σ.next ≤ x) → RStp r σ σ' → Q v' σ') : ACall (Env.th Tryd.prog T) 51 [.ptr r 0] σ Q := by
  refine ACall.of_compF hmx (fun a w => Tryd.call51 a w) Tryd.func51 cf51 (n := 1) (by decide) rfl ?_
  simp [ac51, rs51, lk_cons]
  refine rnum_c h (by omega) (n := 4) (by decide) (fun e he => hT e σ (by rw [pBytes, he]) (RStp.refl _ _)) fun x l1 σ1 h1 h2 h3 => ?_
  have hx := pNum_len h1
  simp [lk_cons]
  refine rtake_c h2 (by omega) (fun hn => hT 4 σ1 (by rw [pBytes, h1]; simp only [if_pos hn]) h3) fun hn v1 σ2 k1 k2 k3 k4 => ?_
  have s2 : RStp r σ1 σ2 := ⟨by omega, fun a _ ha => k4 a ha⟩
  simp [lk_cons]
  refine ACall.into (clone_c k2 (by rw [List.length_take]; omega) _ fun σ3 v' b' m1 m2 m3 => ?_)
  simp [lk_cons]
  have := h3.next
  exact hQ _ _ v' b' σ3 (by rw [pBytes, h1]; simp only [if_neg (show ¬ l1.length < x by omega)]) (k1.grow m3) m1 (fun y hy => by have := m2 y hy; omega) (h3.trans (s2.trans (m3.rstp r)))
theorem rtext_c (h : RR σ r l c) (hl : l.length ≤ 140737488355328) (hT : ∀ e σ', pText l = .error e → RStp r σ σ' → T (thrownV (e : Int)) σ')
    (hQ : ∀ b l' σ', pText l = .ok (b, l') → RR σ' r l' c → RStp r σ σ' → Q (.str ⟨b.toArray⟩) σ') : ACall (Env.th Tryd.prog T) 50 [.ptr r 0] σ Q := by
  refine ACall.of_compF hmx (fun a w => Tryd.call50 a w) Tryd.func50 cf50 (n := 1) (by decide) rfl ?_
  simp [ac50, rs50, lk_cons]
  refine rbytes_b h hl (fun e σ' he hs => hT e σ' (by rw [pText, he]) hs) fun b l' v' b' σ1 h1 h2 h3 h4 h5 => ?_
  have hb := (pBytes_len h1).2
  simp [lk_cons]
  refine ACall.into (valid_c (RdB.ofGS h3) (by omega) _ ?_)
  have hstr := h3.bytesStr
  cases hv : vld b with
  | true =>
    simp [lk_cons, ↓hstr]
    exact hQ b l' σ1 (by rw [pText, h1]; simp only [hv, if_true]) h2 h5
  | false =>
    simp [lk_cons, fillL, storeL]
    exact hT 6 σ1 (by rw [pText, h1]; simp [hv]) h5
end
end Go.Proofs.YticefdfhcahlfaaDoor.AM

namespace Go.Proofs.YticefdfhcahlfaaDoor.AM
open Go.RowKit
set_option maxRecDepth 100000
set_option linter.unusedVariables false
set_option linter.unusedSimpArgs false
abbrev RSt := Except Nat (List UInt8)
end Go.Proofs.YticefdfhcahlfaaDoor.AM



namespace Go.Proofs.YticefdfhcahlfaaDoor.AM
open Go.RowKit
set_option maxRecDepth 100000
set_option linter.unusedVariables false
set_option linter.unusedSimpArgs false
def txB (s : ByteArray) : List UInt8 := beN 4 s.size ++ s.data.toList
def byB (m : List UInt8) : List UInt8 := beN 4 m.length ++ m
theorem txB_len (s : ByteArray) : (txB s).length = 4 + s.size := by simp [txB, beN_len]
theorem byB_len (s : List UInt8) : (byB s).length = 4 + s.length := by simp [byB, beN_len]
end Go.Proofs.YticefdfhcahlfaaDoor.AM
