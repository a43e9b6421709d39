/- The abstract machine, part 2 of 3: a small machine of values, blocks and code, and the proof that the model does as it does. -/
import Derived.Test.YtopagbaokokjdaaAm1
import Derived.Laws.NewFold
import Derived.Tactics
import Derived.TacticsIn
import Derived.RangeFuncRecord
import Derived.Orders
import Derived.OrdersIn
import Derived.RangeFuncLeaves
/- The abstract machine: maps. -/
namespace Go.Proofs.Ytopagbaokokjdaa.AM
open Go.RowKit
set_option linter.unusedVariables false
set_option linter.unusedSimpArgs false

section
variable {P : Program} {ρ : Rho} {I : Imm}

theorem chkFields_run {d : Nat} (ih : ∀ t s, shapeT P d t = some s → ChkRun P d t s) (em : Bool) (D : Nat) (xs : Array Value) : ∀ (fs : List Field) (off : Nat) (s : List Nat) (cs : List AVal) (w : World), shapeL P (shapeT P d) off fs = some s →
    CRel ρ I cs (fun j => xs[off + j]?) → shapeOk s cs = true →
    (forIn fs PUnit.unit fun f _ => if f.name ≠ "_" then (do
        let a ← part f.type xs f.offset
        Instr.checkKey em (D + d) f.type a
        pure (ForInStep.yield PUnit.unit)) else pure (ForInStep.yield PUnit.unit) : Sem PUnit).run P w = .ok PUnit.unit w
  | [], off, s, cs, w, hs, hx, h1 => by simp
  | f :: fs, off, s, cs, w, hs, hx, h1 => by
    simp only [shapeL] at hs
    split at hs
    · cases hs
    · rename_i hf
      simp only [not_or, Decidable.not_not] at hf
      simp only [Option.bind_eq_some_iff] at hs
      obtain ⟨s1, hs1, i, hi, hs⟩ := hs
      split at hs
      · rename_i hsz
        simp only [Option.map_eq_some_iff] at hs
        obtain ⟨s2, hs2, rfl⟩ := hs
        have hlc := shapeOk_len h1
        rw [List.length_append] at hlc
        have hap := shapeOk_append h1
        have hc1 : CRel ρ I (cs.take s1.length) (fun j => xs[off + j]?) := hx.take _
        have hc2 : CRel ρ I (cs.drop s1.length) (fun j => xs[off + i.size + j]?) := (hx.drop s1.length).congr fun j _ => by rw [hsz, Nat.add_assoc]
        obtain ⟨a, pa, ta⟩ := part_TV (w := w) hs1 hi hsz hc1 (by rw [List.length_take]; omega)
        have hne : f.name ≠ "_" := hf.1
        have ho : f.offset = off := hf.2
        have h2 := ih f.type s1 hs1 ρ I em D w a _ ta hap.1
        have h3 := chkFields_run ih em D xs fs (off + i.size) s2 _ w hs2 hc2 hap.2
        rw [List.forIn_cons]
        simp only [hne, ne_eq, not_false_eq_true, if_true, Sem.run_bind, ho, pa, h2, Result.andThen_ok, Sem.run_pure]
        exact h3
      · cases hs

theorem chkT_run : ∀ (d : Nat) (t : TypeId) (s : List Nat), shapeT P d t = some s → ChkRun P d t s
  | 0, t, s, h => by cases h
  | d + 1, t, s, h => by
    intro ρ I em D w a cs ta h1
    simp only [shapeT] at h
    have one : ∀ k dsc, P.underlying t = some dsc → (∀ fs, dsc ≠ .struct fs) → s = [k] → ∃ x, cs = [x] ∧ VRel ρ I x a ∧ kShape k x = true := by
      intro k dsc hu hns hk
      subst hk
      have hst : isStr P t = false := by
        simp only [isStr, hu]
        cases dsc <;> first | rfl | exact absurd rfl (hns _)
      rw [TV, hst, if_neg (by simp)] at ta
      obtain ⟨x, rfl, hx⟩ := ta
      simp only [shapeOk, Bool.and_eq_true] at h1
      exact ⟨x, rfl, hx, h1.1⟩
    split at h
    · rename_i hu; cases h
      obtain ⟨x, rfl, hx, hk⟩ := one 3 _ hu (fun _ h => by cases h) rfl
      cases x <;> simp [kShape] at hk
      simp only [VRel] at hx; subst hx
      exact MapKept.run_checkKey hu (by trivial) em (D + d)
    · rename_i k hu; cases h
      obtain ⟨x, rfl, hx, hk⟩ := one 1 _ hu (fun _ h => by cases h) rfl
      cases x <;> simp [kShape] at hk
      simp only [VRel] at hx; subst hx
      rw [show D + (d + 1) = (D + d) + 1 from rfl]
      unfold Instr.checkKey
      simp [run_underlying hu]
    · rename_i hu; cases h
      obtain ⟨x, rfl, hx, hk⟩ := one 2 _ hu (fun _ h => by cases h) rfl
      cases x <;> simp [kShape] at hk
      simp only [VRel] at hx; subst hx
      exact MapKept.run_checkKey hu (by trivial) em (D + d)
    · rename_i fs hu
      split at h
      · cases h
      · have hst : isStr P t = true := by simp [isStr, hu]
        rw [TV, hst, if_pos rfl] at ta
        obtain ⟨xs, rfl, hx⟩ := ta
        have := chkFields_run (chkT_run d) em D xs fs.toList 0 s cs w h (hx.congr fun j _ => by rw [Nat.zero_add]) h1
        rw [show D + (d + 1) = (D + d) + 1 from rfl]
        unfold Instr.checkKey
        simp only [Sem.run_bind, run_underlying hu, Result.andThen_ok]
        rw [← Array.forIn_toList]
        rw [this]; rfl
    · cases h

/-- Is it a key of this type? -/
theorem keyIs_TV {k : TypeId} {s : List Nat} {x : AVal} {kv : Value} (hx : VRel ρ I x kv) (h : keyIs (isStr P k) s x = true) : TV P ρ I k kv (cellsOf x) ∧ shapeOk s (cellsOf x) = true := by
  cases hst : isStr P k with
  | true =>
    rw [hst] at h
    cases x <;> simp only [keyIs, Bool.false_eq_true] at h
    simp only [VRel] at hx
    obtain ⟨arr, rfl, _, _, h4⟩ := hx
    rw [TV, hst, if_pos rfl]
    exact ⟨⟨arr, rfl, h4⟩, h⟩
  | false =>
    rw [hst] at h
    simp only [keyIs] at h
    have hc : cellsOf x = [x] := by
      cases x <;> first | rfl | skip
      exfalso
      cases s with
      | nil => cases h
      | cons c s =>
        simp only [shapeOk, Bool.and_eq_true] at h
        have := h.1
        unfold kShape at this
        split at this <;> simp_all
    rw [TV, hst, if_neg (by simp), hc]
    exact ⟨⟨x, rfl, hx⟩, h⟩

theorem keyEqA_TV {k : TypeId} {s : List Nat} {x y : AVal} {kv cv : Value} {r : Bool} (hk : keyIs (isStr P k) s x = true) (hx : VRel ρ I x kv) (hy : VRel ρ I y cv) (h : keyEqA x y = some r) :
    TV P ρ I k cv (cellsOf y) ∧ (cellsOf y).length = (cellsOf x).length ∧ keysEq (cellsOf x) (cellsOf y) = some r := by
  cases hst : isStr P k with
  | true =>
    rw [hst] at hk
    cases x <;> simp only [keyIs, Bool.false_eq_true] at hk
    cases y <;> simp only [keyEqA, keyEq, reduceCtorEq] at h
    rename_i xs ys
    split at h
    · rename_i hl
      simp only [VRel] at hy
      obtain ⟨arr, rfl, _, _, h4⟩ := hy
      rw [TV, hst, if_pos rfl]
      exact ⟨⟨arr, rfl, h4⟩, hl.symm, h⟩
    · cases h
  | false =>
    rw [hst] at hk
    simp only [keyIs] at hk
    rw [TV, hst, if_neg (by simp)]
    have sh : ∃ c, kShape c x = true := by
      cases s with
      | nil => cases hk
      | cons c s =>
        simp only [shapeOk, Bool.and_eq_true] at hk
        exact ⟨c, hk.1⟩
    obtain ⟨c, hc⟩ := sh
    cases x <;> first | (exfalso; unfold kShape at hc; split at hc <;> simp_all; done) | skip
    all_goals
      cases y <;> simp only [keyEqA, keyEq, reduceCtorEq] at h
      first
        | exact ⟨⟨_, rfl, hy⟩, rfl, by simp only [cellsOf, keysEq, keyEq]; rw [h]; cases r <;> rfl⟩
        | (simp only [Option.some.injEq] at h; subst h; exact ⟨⟨_, rfl, hy⟩, rfl, by simp only [cellsOf, keysEq, keyEq]; split <;> simp_all⟩)

theorem shapeT_some {d : Nat} {k : TypeId} {s : List Nat} (h : shapeT P d k = some s) : ∃ dk, P.underlying k = some dk ∧ ((dk = .bool ∧ s = [3]) ∨ (∃ q, dk = .int q ∧ s = [1]) ∨ (dk = .string ∧ s = [2]) ∨ ∃ fs, dk = .struct fs) := by
  cases d with
  | zero => cases h
  | succ d =>
    simp only [shapeT] at h
    split at h
    · rename_i hu; cases h; exact ⟨_, hu, .inl ⟨rfl, rfl⟩⟩
    · rename_i q hu; cases h; exact ⟨_, hu, .inr (.inl ⟨q, rfl, rfl⟩)⟩
    · rename_i hu; cases h; exact ⟨_, hu, .inr (.inr (.inl ⟨rfl, rfl⟩))⟩
    · rename_i fs hu; exact ⟨_, hu, .inr (.inr (.inr ⟨fs, rfl⟩))⟩
    · cases h

/-- What is found, in the world. -/
def foundV (es : List MapEntry) (j : Nat) (r : Option (Nat × AVal)) : Option (Nat × Value) := r.bind fun q => (es[q.1]?).map fun m => (j + q.1, m.val)

theorem foundV_cons (m : MapEntry) (es : List MapEntry) (j : Nat) (r : Option (Nat × AVal)) : foundV es (j + 1) r = foundV (m :: es) j (r.map fun (i, v) => (i + 1, v)) := by
  cases r with
  | none => rfl
  | some q =>
    simp only [foundV, Option.bind_some, Option.map_some, List.getElem?_cons_succ]
    congr 1; funext m; congr 1; omega

theorem eq_at {k : TypeId} {s : List Nat} (hs : shapeT P 20 k = some s) {x y : AVal} {kv cv : Value} {r : Bool} (hk : keyIs (isStr P k) s x = true) (hx : VRel ρ I x kv) (hy : VRel ρ I y cv) (h : keyEqA x y = some r) (w : World) : (Op.equal k kv cv).run P w = .ok r w := by
  obtain ⟨t1, t2⟩ := keyIs_TV hx hk
  obtain ⟨t3, t4, t5⟩ := keyEqA_TV hk hx hy h
  exact eqT_run 20 k s hs ρ I 9980 w kv cv _ _ r t1 t3 t2 t4 t5

theorem findAsk_run {k : TypeId} {s : List Nat} (hs : shapeT P 20 k = some s) {x : AVal} {kv : Value} (hk : keyIs (isStr P k) s x = true) (hx : VRel ρ I x kv) (w : World) : ∀ (ents : List (Nat × AVal × AVal)) (es : List MapEntry) (j : Nat) (r : Option (Nat × AVal)),
    ents.length = es.length → (∀ (i : Nat) (e : Nat × AVal × AVal), ents[i]? = some e → ∃ m, es[i]? = some m ∧ VRel ρ I e.2.1 m.key) → findA x ents = some r →
    (Instr.findAsking k kv es j).run P w = .ok (foundV es j r) w
  | [], [], j, r, _, _, h => by
    simp only [findA, Option.some.injEq] at h; subst h
    simp [Instr.findAsking, foundV]
  | e :: ents, m :: es, j, r, hl, hr, h => by
    obtain ⟨st, y, v⟩ := e
    obtain ⟨m', h1, h2⟩ := hr 0 _ rfl
    simp only [List.getElem?_cons_zero, Option.some.injEq] at h1; subst h1
    simp only [findA] at h
    split at h
    · rename_i he
      cases h
      have := eq_at hs hk hx h2 he w
      simp [Instr.findAsking, this, foundV]
    · rename_i he
      have := eq_at hs hk hx h2 he w
      simp only [Option.map_eq_some_iff] at h
      obtain ⟨r1, h3, rfl⟩ := h
      have ih := findAsk_run hs hk hx w ents es (j + 1) r1 (by simpa using hl) (fun i e he => by
        obtain ⟨m, g1, g2⟩ := hr (i + 1) e (by simpa using he)
        exact ⟨m, by simpa using g1, g2⟩) h3
      simp only [Instr.findAsking, Sem.run_bind, this, Result.andThen_ok, Bool.false_eq_true, if_false, ih]
      rw [foundV_cons]
    · cases h
  | [], _ :: _, _, _, hl, _, _ => by simp at hl
  | _ :: _, [], _, _, hl, _, _ => by simp at hl

theorem findNow_run {k : TypeId} {s : List Nat} {dk : TypeDesc} (hu : P.underlying k = some dk) (hst : isStr P k = false) (hs : shapeT P 20 k = some s) {x : AVal} {kv : Value} (hk : keyIs false s x = true) (hx : VRel ρ I x kv) : ∀ (ents : List (Nat × AVal × AVal)) (es : List MapEntry) (j : Nat) (r : Option (Nat × AVal)),
    ents.length = es.length → (∀ (i : Nat) (e : Nat × AVal × AVal), ents[i]? = some e → ∃ m, es[i]? = some m ∧ VRel ρ I e.2.1 m.key) → findA x ents = some r →
    Instr.findNow dk kv es j = some (foundV es j r)
  | [], [], j, r, _, _, h => by
    simp only [findA, Option.some.injEq] at h; subst h
    simp [Instr.findNow, foundV]
  | e :: ents, m :: es, j, r, hl, hr, h => by
    obtain ⟨st, y, v⟩ := e
    obtain ⟨m', h1, h2⟩ := hr 0 _ rfl
    simp only [List.getElem?_cons_zero, Option.some.injEq] at h1; subst h1
    have same : ∀ b, keyEqA x y = some b → Instr.sameNow dk kv m.key = some b := by
      intro b hb
      have h2 : VRel ρ I y m.key := h2
      obtain ⟨dk', hu', hd⟩ := shapeT_some hs
      rw [hu] at hu'; cases hu'
      rcases hd with ⟨rfl, rfl⟩ | ⟨q, rfl, rfl⟩ | ⟨rfl, rfl⟩ | ⟨fs, rfl⟩
      · simp only [keyIs, shapeOk, Bool.and_true] at hk
        cases x <;> simp only [kShape, Bool.false_eq_true] at hk
        cases y <;> simp only [keyEqA, keyEq, reduceCtorEq] at hb
        simp only [VRel] at hx h2; subst hx; rw [h2]
        exact hb
      · simp only [keyIs, shapeOk, Bool.and_true] at hk
        cases x <;> simp only [kShape, Bool.false_eq_true] at hk
        cases y <;> simp only [keyEqA, keyEq, reduceCtorEq] at hb
        simp only [VRel] at hx h2; subst hx; rw [h2]
        exact hb
      · simp only [keyIs, shapeOk, Bool.and_true] at hk
        cases x <;> simp only [kShape, Bool.false_eq_true] at hk
        cases y <;> simp only [keyEqA, keyEq, reduceCtorEq] at hb
        simp only [VRel] at hx h2; subst hx; rw [h2]
        exact hb
      · simp [isStr, hu] at hst
    simp only [findA] at h
    split at h
    · rename_i he
      cases h
      simp [Instr.findNow, same _ he, foundV]
    · rename_i he
      simp only [Option.map_eq_some_iff] at h
      obtain ⟨r1, h3, rfl⟩ := h
      have ih := findNow_run hu hst hs hk hx ents es (j + 1) r1 (by simpa using hl) (fun i e he => by
        obtain ⟨m, g1, g2⟩ := hr (i + 1) e (by simpa using he)
        exact ⟨m, by simpa using g1, g2⟩) h3
      simp only [Instr.findNow, same _ he, ih]
      rw [foundV_cons]
    · cases h
  | [], _ :: _, _, _, hl, _, _ => by simp at hl
  | _ :: _, [], _, _, hl, _, _ => by simp at hl

theorem findKey_run {k : TypeId} {s : List Nat} (hs : shapeT P 20 k = some s) {x : AVal} {kv : Value} (hk : keyIs (isStr P k) s x = true) (hx : VRel ρ I x kv) (w : World) (ents : List (Nat × AVal × AVal)) (es : List MapEntry) (r : Option (Nat × AVal))
    (hl : ents.length = es.length) (hr : ∀ (i : Nat) (e : Nat × AVal × AVal), ents[i]? = some e → ∃ m, es[i]? = some m ∧ VRel ρ I e.2.1 m.key) (h : findA x ents = some r) :
    (Instr.findKey k kv es).run P w = .ok (foundV es 0 r) w := by
  obtain ⟨dk, hu, _⟩ := shapeT_some hs
  · skip
    cases hst : isStr P k with
    | false =>
      rw [hst] at hk
      have := findNow_run hu hst hs hk hx ents es 0 r hl hr h
      simp [Instr.findKey, run_underlying hu, this]
    | true =>
      have := findAsk_run hs hk hx w ents es 0 r hl hr h
      have hdk : ∃ fs, dk = .struct fs := by
        simp only [isStr, hu] at hst
        cases dk <;> first | exact ⟨_, rfl⟩ | cases hst
      obtain ⟨fs, rfl⟩ := hdk
      cases es with
      | nil =>
        have : ents = [] := List.eq_nil_of_length_eq_zero hl
        subst this
        simp only [findA, Option.some.injEq] at h; subst h
        simp [Instr.findKey, run_underlying hu, Instr.findNow, foundV]
      | cons m es =>
        have hn : Instr.findNow (.struct fs) kv (m :: es) 0 = none := by
          simp only [Instr.findNow, Instr.sameNow]
        simp [Instr.findKey, run_underlying hu, hn, this]
end
end Go.Proofs.Ytopagbaokokjdaa.AM

/- The abstract machine: what is done with maps. -/
namespace Go.Proofs.Ytopagbaokokjdaa.AM
open Go.RowKit
set_option linter.unusedVariables false
set_option linter.unusedSimpArgs false

abbrev Entry := Nat × AVal × AVal

section
variable {P : Program} {ρ : Rho} {I : Imm}

/-- Entries, and the world's. -/
def ERel (ρ : Rho) (I : Imm) : List Entry → List MapEntry → Prop
  | [], [] => True
  | x :: xs, m :: ms => (m.born = x.1 ∧ VRel ρ I x.2.1 m.key ∧ VRel ρ I x.2.2 m.val) ∧ ERel ρ I xs ms
  | _, _ => False

theorem ERel.of : ∀ {xs : List Entry} {ms : List MapEntry}, ms.length = xs.length → (∀ (j : Nat) (x : Entry), xs[j]? = some x → ∃ m : MapEntry, ms[j]? = some m ∧ m.born = x.1 ∧ VRel ρ I x.2.1 m.key ∧ VRel ρ I x.2.2 m.val) → ERel ρ I xs ms
  | [], [], _, _ => trivial
  | x :: xs, m :: ms, hl, h => by
    obtain ⟨m', h1, h2⟩ := h 0 x rfl
    simp only [List.getElem?_cons_zero, Option.some.injEq] at h1; subst h1
    exact ⟨h2, ERel.of (by simpa using hl) fun j y hy => by
      obtain ⟨m, g1, g2⟩ := h (j + 1) y (by simpa using hy)
      exact ⟨m, by simpa using g1, g2⟩⟩
  | [], _ :: _, hl, _ => by simp at hl
  | _ :: _, [], hl, _ => by simp at hl
theorem ERel.len : ∀ {xs : List Entry} {ms : List MapEntry}, ERel ρ I xs ms → ms.length = xs.length
  | [], [], _ => rfl
  | x :: xs, m :: ms, h => by simp [h.2.len]
  | [], _ :: _, h => h.elim
  | _ :: _, [], h => h.elim
theorem ERel.get : ∀ {xs : List Entry} {ms : List MapEntry}, ERel ρ I xs ms → ∀ (j : Nat) (x : Entry), xs[j]? = some x → ∃ m : MapEntry, ms[j]? = some m ∧ m.born = x.1 ∧ VRel ρ I x.2.1 m.key ∧ VRel ρ I x.2.2 m.val
  | [], [], _, j, x, hx => by simp at hx
  | x :: xs, m :: ms, h, 0, y, hy => by simp at hy; subst hy; exact ⟨m, rfl, h.1⟩
  | x :: xs, m :: ms, h, j + 1, y, hy => by
    obtain ⟨m', g1, g2⟩ := h.2.get j y (by simpa using hy)
    exact ⟨m', by simpa using g1, g2⟩
  | [], _ :: _, h, _, _, _ => h.elim
  | _ :: _, [], h, _, _, _ => h.elim
theorem ERel.filter (p : Nat → Bool) : ∀ {xs : List Entry} {ms : List MapEntry}, ERel ρ I xs ms → ERel ρ I (xs.filter fun e => p e.1) (ms.filter fun e => p e.born)
  | [], [], _ => trivial
  | x :: xs, m :: ms, h => by
    have ih := ERel.filter p h.2
    simp only [List.filter_cons, h.1.1]
    split
    · exact ⟨h.1, ih⟩
    · exact ih
  | [], _ :: _, h => h.elim
  | _ :: _, [], h => h.elim
theorem ERel.append : ∀ {xs ys : List Entry} {ms ns : List MapEntry}, ERel ρ I xs ms → ERel ρ I ys ns → ERel ρ I (xs ++ ys) (ms ++ ns)
  | [], ys, [], ns, _, h => h
  | x :: xs, ys, m :: ms, ns, h, k => ⟨h.1, h.2.append k⟩
  | [], _, _ :: _, _, h, _ => h.elim
  | _ :: _, _, [], _, h, _ => h.elim
theorem ERel.erase : ∀ {xs : List Entry} {ms : List MapEntry} (i : Nat), ERel ρ I xs ms → ERel ρ I (xs.eraseIdx i) (ms.eraseIdx i)
  | [], [], _, _ => trivial
  | x :: xs, m :: ms, 0, h => h.2
  | x :: xs, m :: ms, i + 1, h => ⟨h.1, ERel.erase i h.2⟩
  | [], _ :: _, _, h => h.elim
  | _ :: _, [], _, h => h.elim
theorem ERel.modify {k v : AVal} {kv vv : Value} (hk : VRel ρ I k kv) (hv : VRel ρ I v vv) : ∀ {xs : List Entry} {ms : List MapEntry} (i : Nat), ERel ρ I xs ms → ERel ρ I (xs.modify i fun e => (e.1, k, v)) (ms.modify i fun e => { e with key := kv, val := vv })
  | [], [], i, _ => by cases i <;> trivial
  | x :: xs, m :: ms, 0, h => ⟨⟨h.1.1, hk, hv⟩, h.2⟩
  | x :: xs, m :: ms, i + 1, h => by
    simp only [List.modify_succ_cons]
    exact ⟨h.1, ERel.modify hk hv i h.2⟩
  | [], _ :: _, _, h => h.elim
  | _ :: _, [], _, h => h.elim
theorem ERel.all (p : Nat → Bool) : ∀ {xs : List Entry} {ms : List MapEntry}, ERel ρ I xs ms → (ms.all fun e => p e.born) = xs.all fun e => p e.1
  | [], [], _ => rfl
  | x :: xs, m :: ms, h => by simp only [List.all_cons, h.1.1, ERel.all p h.2]
  | [], _ :: _, h => h.elim
  | _ :: _, [], h => h.elim
theorem ERel.find (p : Nat → Bool) : ∀ {xs : List Entry} {ms : List MapEntry}, ERel ρ I xs ms → ∀ {e : Entry}, xs.find? (fun e => p e.1) = some e → ∃ m, ms.find? (fun e => p e.born) = some m ∧ VRel ρ I e.2.1 m.key ∧ VRel ρ I e.2.2 m.val
  | [], [], _, e, he => by simp at he
  | x :: xs, m :: ms, h, e, he => by
    simp only [List.find?_cons, h.1.1] at he ⊢
    cases hp : p x.1 with
    | true => rw [hp] at he; simp only [Option.some.injEq] at he; subst he; exact ⟨m, rfl, h.1.2⟩
    | false => rw [hp] at he; exact ERel.find p h.2 he
  | [], _ :: _, h, _, _ => h.elim
  | _ :: _, [], h, _, _ => h.elim

theorem BRel.ents {w : World} {p : Place} {clock : Nat} {ents : List Entry} (h : BRel ρ I w p (.map clock ents)) : ∃ arr, w.heap[p.b]? = some (.map arr clock) ∧ ERel ρ I ents arr.toList := by
  obtain ⟨arr, h1, h2, h3⟩ := h
  exact ⟨arr, h1, ERel.of (by simpa using h2) fun j x hx => by
    obtain ⟨m, g1, g2⟩ := h3 j x hx
    exact ⟨m, by simpa using g1, g2⟩⟩
theorem BRel.mkEnts {w : World} {p : Place} {clock : Nat} {ents : List Entry} {arr : Array MapEntry} (h1 : w.heap[p.b]? = some (.map arr clock)) (h : ERel ρ I ents arr.toList) : BRel ρ I w p (.map clock ents) :=
  ⟨arr, h1, by have := h.len; simpa using this, fun j x hx => by
    obtain ⟨m, g1, g2⟩ := h.get j x hx
    exact ⟨m, by simpa using g1, g2⟩⟩

/-! ### Keys that are alike are one -/

theorem keysEq_true : ∀ {s : List Nat} {xs ys : List AVal}, shapeOk s xs = true → ys.length = xs.length → keysEq xs ys = some true → ys = xs
  | [], [], [], _, _, _ => rfl
  | k :: s, x :: xs, y :: ys, h, hl, he => by
    simp only [shapeOk, Bool.and_eq_true] at h
    simp only [keysEq] at he
    split at he
    · rename_i h1
      have hx : y = x := by
        cases x <;> cases y <;> simp only [keyEq, reduceCtorEq] at h1
        · split at h1
          · rename_i e; subst e; simp at h1; rw [h1]
          · cases h1
        · simp at h1; rw [h1]
        · simp only [Option.some.injEq] at h1; rw [(MapKept.bytes_beq _ _).1 h1]
      rw [hx, keysEq_true h.2 (by simpa using hl) he]
    · cases he
    · cases he
  | [], [], _ :: _, _, hl, _ => by simp at hl
  | [], _ :: _, _, h, _, _ => by cases h
  | _ :: _, [], _, h, _, _ => by cases h
  | _ :: _, _ :: _, [], _, hl, _ => by simp at hl

theorem kShape_cases {c : Nat} {x : AVal} (h : kShape c x = true) : (∃ k n, x = .int k n) ∨ (∃ s, x = .str s) ∨ ∃ b, x = .bool b := by
  unfold kShape at h
  split at h
  · exact .inl ⟨_, _, rfl⟩
  · exact .inr (.inl ⟨_, rfl⟩)
  · exact .inr (.inr ⟨_, rfl⟩)
  · cases h
theorem kShape_det {c : Nat} {x : AVal} {a b : Value} (h : kShape c x = true) (ha : VRel ρ I x a) (hb : VRel ρ I x b) : a = b := by
  rcases kShape_cases h with ⟨k, n, rfl⟩ | ⟨s, rfl⟩ | ⟨q, rfl⟩ <;> simp only [VRel] at ha hb <;> rw [ha, hb]
theorem kShape_same {c : Nat} {x : AVal} {a : Value} (h : kShape c x = true) (ha : VRel ρ I x a) (n : Nat) : Instr.sameBits n a a = true := by
  rcases kShape_cases h with ⟨k, n, rfl⟩ | ⟨s, rfl⟩ | ⟨q, rfl⟩ <;> simp only [VRel] at ha <;> subst ha <;> simp [Instr.sameBits, MapKept.bytes_beq]

theorem shapeOk_get : ∀ {s : List Nat} {xs : List AVal}, shapeOk s xs = true → ∀ (j : Nat) (x : AVal), xs[j]? = some x → ∃ c, kShape c x = true
  | [], [], _, j, x, hx => by simp at hx
  | k :: s, x :: xs, h, 0, y, hy => by
    simp only [shapeOk, Bool.and_eq_true] at h
    simp at hy; subst hy; exact ⟨k, h.1⟩
  | k :: s, x :: xs, h, j + 1, y, hy => by
    simp only [shapeOk, Bool.and_eq_true] at h
    exact shapeOk_get h.2 j y (by simpa using hy)
  | [], _ :: _, h, _, _, _ => by cases h
  | _ :: _, [], h, _, _, _ => by cases h

theorem key_one {k : TypeId} {s : List Nat} {x y : AVal} {kv cv : Value} (hk : keyIs (isStr P k) s x = true) (hx : VRel ρ I x kv) (hy : VRel ρ I y cv) (h : keyEqA x y = some true) (w : World) : cv = kv ∧ (Instr.keyThatStays kv kv).run P w = .ok kv w := by
  have same : Instr.sameBits 10000 kv kv = true → (Instr.keyThatStays kv kv).run P w = .ok kv w := fun h => by simp [Instr.keyThatStays, h]
  cases hst : isStr P k with
  | true =>
    rw [hst] at hk
    cases x <;> simp only [keyIs, Bool.false_eq_true] at hk
    cases y <;> simp only [keyEqA, keyEq, reduceCtorEq] at h
    rename_i xs ys
    split at h
    · rename_i hl
      have := keysEq_true hk hl.symm h
      subst this
      simp only [VRel] at hx hy
      obtain ⟨a1, rfl, g1, _, g2⟩ := hx
      obtain ⟨a2, rfl, g3, _, g4⟩ := hy
      have he : a2 = a1 := by
        apply Array.ext
        · omega
        · intro j h1 h2
          obtain ⟨u1, e1, v1⟩ := g2.get j _ (List.getElem?_eq_getElem (by omega : j < ys.length))
          obtain ⟨u2, e2, v2⟩ := g4.get j _ (List.getElem?_eq_getElem (by omega : j < ys.length))
          obtain ⟨c, hc⟩ := shapeOk_get hk j _ (List.getElem?_eq_getElem (by omega : j < ys.length))
          have := kShape_det hc v1 v2
          rw [Array.getElem?_eq_getElem h2] at e1
          rw [Array.getElem?_eq_getElem h1] at e2
          cases e1; cases e2; exact this.symm
      refine ⟨by rw [he], same ?_⟩
      simp only [Instr.sameBits, BEq.rfl, Bool.true_and, List.all_eq_true]
      rintro ⟨p, q⟩ hpq
      obtain ⟨j, hj⟩ := List.mem_iff_getElem?.1 hpq
      rw [List.getElem?_zip_eq_some] at hj
      have : p = q := by have := hj.1.symm.trans hj.2; cases this; rfl
      subst this
      have hj1 : a1[j]? = some p := by simpa using hj.1
      have hlt := (Array.getElem?_eq_some_iff.1 hj1).1
      obtain ⟨u1, e1, v1⟩ := g2.get j _ (List.getElem?_eq_getElem (by omega : j < ys.length))
      obtain ⟨c, hc⟩ := shapeOk_get hk j _ (List.getElem?_eq_getElem (by omega : j < ys.length))
      have e1 : a1[j]? = some u1 := e1
      rw [hj1] at e1; cases e1
      exact kShape_same hc v1 9999
    · cases h
  | false =>
    rw [hst] at hk
    simp only [keyIs] at hk
    obtain ⟨c, hc⟩ := shapeOk_get hk 0 x rfl
    have hxy : y = x := by
      cases x <;> first | (exfalso; unfold kShape at hc; split at hc <;> simp_all; done) | skip
      all_goals
        cases y <;> simp only [keyEqA, keyEq, reduceCtorEq] at h
        first
          | (split at h; · rename_i e; subst e; simp at h; rw [h]
             · cases h)
          | (simp at h; rw [h]; done)
          | (simp only [Option.some.injEq] at h; rw [(MapKept.bytes_beq _ _).1 h]; done)
    subst hxy
    exact ⟨kShape_det hc hy hx, same (kShape_same hc hx 10000)⟩

theorem findA_some {x : AVal} : ∀ {ents : List Entry} {i : Nat} {v : AVal}, findA x ents = some (some (i, v)) → ∃ st y, ents[i]? = some (st, y, v) ∧ keyEqA x y = some true
  | [], i, v, h => by simp [findA] at h
  | (st, y, u) :: ents, i, v, h => by
    simp only [findA] at h
    split at h
    · rename_i he; cases h; exact ⟨st, y, rfl, he⟩
    · cases hf : findA x ents with
      | none => rw [hf] at h; cases h
      | some r =>
        rw [hf] at h
        cases r with
        | none => cases h
        | some q =>
          obtain ⟨j, u'⟩ := q
          simp only [Option.map_some, Option.some.injEq, Prod.mk.injEq] at h
          obtain ⟨rfl, rfl⟩ := h
          obtain ⟨st', y', g1, g2⟩ := findA_some hf
          exact ⟨st', y', by simpa using g1, g2⟩
    · cases h
end
end Go.Proofs.Ytopagbaokokjdaa.AM

/- The abstract machine: what is done with maps, and structs that are compared: the model does alike. -/
namespace Go.Proofs.Ytopagbaokokjdaa.AM
open Go.RowKit
set_option linter.unusedVariables false
set_option linter.unusedSimpArgs false

/-- A type's zero. -/
def zeroV (P : Program) (t : TypeId) : Option AVal := (P.info? t).bind fun i => i.zero.bind ofVal

section
variable {P : Program} {B : Nat} {w0 : Root} {w : World} {ρ : Rho} {I : Imm} {σ : St}

theorem zeroV_run {t : TypeId} {z : AVal} (h : zeroV P t = some z) (w : World) : ∃ zv, (zeroValue t).run P w = .ok zv w ∧ ∀ ρ I, VRel ρ I z zv := by
  simp only [zeroV, Option.bind_eq_some_iff] at h
  obtain ⟨i, h1, zv, h2, h3⟩ := h
  exact ⟨zv, by simp [zeroValue, typeInfo, h1, h2], fun ρ I => ofVal_rel h3 ρ I⟩

theorem chk_at {k : TypeId} {s : List Nat} (hs : shapeT P 20 k = some s) {x : AVal} {kv : Value} (hk : keyIs (isStr P k) s x = true) (hx : VRel ρ I x kv) (em : Bool) (w : World) : (Instr.checkKey em 10000 k kv).run P w = .ok () w := by
  obtain ⟨t1, t2⟩ := keyIs_TV hx hk
  exact chkT_run 20 k s hs ρ I em 9980 w kv _ t1 t2

theorem find_at {k : TypeId} {s : List Nat} (hs : shapeT P 20 k = some s) {x : AVal} {kv : Value} (hk : keyIs (isStr P k) s x = true) (hx : VRel ρ I x kv) (w : World) {ents : List Entry} {es : List MapEntry} (he : ERel ρ I ents es) {r : Option (Nat × AVal)} (h : findA x ents = some r) :
    (Instr.findKey k kv es).run P w = .ok (foundV es 0 r) w :=
  findKey_run hs hk hx w ents es r he.len.symm (fun i e hi => by
    obtain ⟨m, g1, _, g2, _⟩ := he.get i e hi
    exact ⟨m, g1, g2⟩) h

theorem pair_rel {v : AVal} {u : Value} {b : Bool} (h : VRel ρ I v u) : VRel ρ I (.tup [v, .bool b]) (.tuple #[u, .bool b]) := by
  simp only [VRel]
  exact ⟨_, rfl, rfl, ⟨⟨u, rfl, h⟩, ⟨.bool b, rfl, by simp only [VRel]⟩, trivial⟩⟩

theorem lookup_sound (r : Rel B w0 ρ I σ w) {z x i v : AVal} {cx ci : Value} {s : List Nat} {ok : Bool} {σ' : St} (t k e : TypeId) (ht : P.underlying t = some (.map k e)) (hs : shapeT P 20 k = some s) (hz : zeroV P e = some z)
    (h : evalV σ (.lookup z (isStr P k) s x i ok) = some (v, σ')) (hx : VRel ρ I x cx) (hi : VRel ρ I i ci) : Good B w0 ρ I σ ((Instr.lookup t cx ci ok).run P w) v σ' := by
  obtain ⟨zv, z1, z2⟩ := zeroV_run hz w
  have hu : (underlying t).run P w = .ok (.map k e) w := by simp [underlying, ht]
  simp only [evalV] at h
  split at h
  · rename_i hk
    cases x <;> simp only at h <;> first | (cases h; done) | skip
    · -- a map
      rename_i a
      cases hm : σ.mem.get a with
      | none => rw [hm] at h; cases h
      | some b =>
        rw [hm] at h
        cases b <;> simp only at h <;> first | (cases h; done) | skip
        rename_i clock ents
        simp only [VRel] at hx
        obtain ⟨p, hρ, rfl⟩ := hx
        obtain ⟨arr, h1, h2⟩ := (r.blk a p _ hρ hm).ents
        have hg : (getObj p.b).run P w = .ok (.map arr clock) w := MapKept.run_getObj_map h1
        cases hf : findA i ents with
        | none => rw [hf] at h; cases h
        | some q =>
          rw [hf] at h
          have hfk := find_at hs hk hi w h2 hf
          have hc := chk_at hs hk hi arr.isEmpty w
          cases q with
          | none =>
            simp only [Option.map_some, Option.some.injEq, Prod.mk.injEq] at h
            obtain ⟨rfl, rfl⟩ := h
            refine .quiet r (cv := if ok then .tuple #[zv, .bool false] else zv) ?_ ?_
            · simp [Instr.lookup, hu, hg, hc, hfk, foundV, z1]
            · cases ok
              · exact z2 ρ I
              · exact pair_rel (z2 ρ I)
          | some q =>
            obtain ⟨j, u⟩ := q
            simp only [Option.map_some, Option.some.injEq, Prod.mk.injEq] at h
            obtain ⟨rfl, rfl⟩ := h
            obtain ⟨st, y, g1, g2⟩ := findA_some hf
            obtain ⟨m, g3, _, _, g4⟩ := h2.get j _ g1
            refine .quiet r (cv := if ok then .tuple #[m.val, .bool true] else m.val) ?_ ?_
            · have g3' : arr[j]? = some m := by simpa using g3
              simp [Instr.lookup, hu, hg, hc, hfk, foundV, g3']
            · cases ok
              · exact g4
              · exact pair_rel g4
    · -- a nil one
      cases h
      simp only [VRel] at hx; subst hx
      have hc := chk_at hs hk hi true w
      have hfk := find_at (ents := []) (es := []) hs hk hi w trivial rfl
      refine .quiet r (cv := if ok then .tuple #[zv, .bool false] else zv) ?_ ?_
      · simp [Instr.lookup, hu, hc, hfk, foundV, z1]
      · cases ok
        · exact z2 ρ I
        · exact pair_rel (z2 ρ I)
  · cases h

theorem setObj_world {w : World} {b : Nat} {o o' : Obj} (h : w.heap[b]? = some o) (ho : ∀ c e f, o ≠ .cells c e f := by intro _ _ _ h; cases h) : ∃ w', (setObj b o').run P w = .ok () w' ∧ w'.heap.size = w.heap.size ∧ (∀ k, k ≠ b → w'.heap[k]? = w.heap[k]?) ∧ w'.heap[b]? = some o' ∧ w'.os = w.os ∧ w'.tape = w.tape ∧ w'.output = w.output ∧ w'.drawn = w.drawn := by
  have hlt := (Array.getElem?_eq_some_iff.1 h).1
  refine ⟨{ w with heap := w.heap.setIfInBounds b o' }, by cases o <;> first | (exact absurd rfl (ho _ _ _)) | simp [setObj, Sem.run, h], by simp, fun k hk => by simp [Ne.symm hk], by simp [hlt], rfl, rfl, rfl, rfl⟩

theorem mapSet_sound (r : Rel B w0 ρ I σ w) {m k v z : AVal} {cm ck cv : Value} {s : List Nat} {σ' : St} (t kt e : TypeId) (ht : P.underlying t = some (.map kt e)) (hs : shapeT P 20 kt = some s)
    (h : evalV σ (.mapSet (isStr P kt) s m k v) = some (z, σ')) (hm : VRel ρ I m cm) (hk : VRel ρ I k ck) (hv : VRel ρ I v cv) : GoodU B w0 ρ I σ ((Instr.mapUpdate t cm ck cv).run P w) σ' := by
  have hu : (underlying t).run P w = .ok (.map kt e) w := by simp [underlying, ht]
  simp only [evalV] at h
  split at h
  · rename_i hki
    cases m <;> simp only at h <;> first | (cases h; done) | skip
    rename_i a
    cases hb : σ.mem.get a with
    | none => rw [hb] at h; cases h
    | some b =>
      rw [hb] at h
      cases b <;> simp only at h <;> first | (cases h; done) | skip
      rename_i clock ents
      simp only [VRel] at hm
      obtain ⟨p, hρ, rfl⟩ := hm
      obtain ⟨arr, h1, h2⟩ := (r.blk a p _ hρ hb).ents
      have hg : (getObj p.b).run P w = .ok (.map arr clock) w := MapKept.run_getObj_map h1
      have hc := chk_at hs hki hk false w
      cases hf : findA k ents with
      | none => rw [hf] at h; cases h
      | some q =>
        rw [hf] at h
        have hfk := find_at hs hki hk w h2 hf
        cases q with
        | none =>
          simp only [Option.map_some, Option.some.injEq, Prod.mk.injEq] at h
          obtain ⟨rfl, rfl⟩ := h
          obtain ⟨w', e0, e1, e2, e3, e4, e5, e6, e7⟩ := setObj_world (P := P) (o' := .map (arr.push { key := ck, val := cv, born := clock }) (clock + 1)) h1
          obtain ⟨g1, g2⟩ := r.setBlk (h6 := Nat.le_of_eq e7.symm) (bk := .map (clock + 1) (ents ++ [(clock, k, v)])) hρ hb rfl rfl e1 e2 e4 e5 e6 (BRel.mkEnts e3 (by
            rw [Array.toList_push]
            exact h2.append ⟨⟨rfl, hk, hv⟩, trivial⟩))
          exact ⟨w', ρ, I, by simp [Instr.mapUpdate, hu, hg, hc, hfk, foundV, e0], g1, g2⟩
        | some q =>
          obtain ⟨j, u⟩ := q
          simp only [Option.map_some, Option.some.injEq, Prod.mk.injEq] at h
          obtain ⟨rfl, rfl⟩ := h
          obtain ⟨st, y, f1, f2⟩ := findA_some hf
          obtain ⟨en, f3, _, f4, _⟩ := h2.get j _ f1
          obtain ⟨k1, k2⟩ := key_one hki hk f4 f2 w
          have f3' : arr[j]? = some en := by simpa using f3
          obtain ⟨w', e0, e1, e2, e3, e4, e5, e6, e7⟩ := setObj_world (P := P) (o' := .map (arr.modify j fun e => { e with key := ck, val := cv }) clock) h1
          obtain ⟨g1, g2⟩ := r.setBlk (h6 := Nat.le_of_eq e7.symm) (bk := .map clock (ents.modify j fun e => (e.1, k, v))) hρ hb rfl rfl e1 e2 e4 e5 e6 (BRel.mkEnts e3 (by
            rw [Array.toList_modify]
            exact ERel.modify hk hv j h2))
          exact ⟨w', ρ, I, by simp [Instr.mapUpdate, hu, hg, hc, hfk, foundV, f3', k1, k2, e0], g1, g2⟩
  · cases h

theorem delete_sound (r : Rel B w0 ρ I σ w) {m k v : AVal} {cm ck : Value} {s : List Nat} {σ' : St} (t kt e u ty : TypeId) (ht : P.underlying t = some (.map kt e)) (hs : shapeT P 20 kt = some s)
    (h : evalV σ (.delete (isStr P kt) s m k) = some (v, σ')) (hm : VRel ρ I m cm) (hk : VRel ρ I k ck) : Good B w0 ρ I σ ((Builtin.delete_ #[t, u] ty #[cm, ck]).run P w) v σ' := by
  have hu : (underlying t).run P w = .ok (.map kt e) w := by simp [underlying, ht]
  have unit : VRel ρ I (.tup []) (.tuple #[]) := by simp only [VRel]; exact ⟨#[], rfl, rfl, trivial⟩
  simp only [evalV] at h
  split at h
  · rename_i hki
    cases m <;> simp only at h <;> first | (cases h; done) | skip
    · rename_i a
      cases hb : σ.mem.get a with
      | none => rw [hb] at h; cases h
      | some b =>
        rw [hb] at h
        cases b <;> simp only at h <;> first | (cases h; done) | skip
        rename_i clock ents
        simp only [VRel] at hm
        obtain ⟨p, hρ, rfl⟩ := hm
        obtain ⟨arr, h1, h2⟩ := (r.blk a p _ hρ hb).ents
        have hg : (getObj p.b).run P w = .ok (.map arr clock) w := MapKept.run_getObj_map h1
        have hc := chk_at hs hki hk arr.isEmpty w
        cases hf : findA k ents with
        | none => rw [hf] at h; cases h
        | some q =>
          rw [hf] at h
          have hfk := find_at hs hki hk w h2 hf
          cases q with
          | none =>
            simp only [Option.map_some, Option.some.injEq, Prod.mk.injEq] at h
            obtain ⟨rfl, rfl⟩ := h
            obtain ⟨w', e0, e1, e2, e3, e4, e5, e6, e7⟩ := setObj_world (P := P) (o' := .map arr clock) h1
            obtain ⟨g1, g2⟩ := r.setBlk (h6 := Nat.le_of_eq e7.symm) (bk := .map clock ents) hρ hb rfl rfl e1 e2 e4 e5 e6 (BRel.mkEnts e3 h2)
            exact ⟨_, w', ρ, I, by simp [Builtin.delete_, hu, hg, hc, hfk, foundV, e0], unit, g1, g2⟩
          | some q =>
            obtain ⟨j, x⟩ := q
            simp only [Option.map_some, Option.some.injEq, Prod.mk.injEq] at h
            obtain ⟨rfl, rfl⟩ := h
            obtain ⟨st, y, f1, f2⟩ := findA_some hf
            obtain ⟨en, f3, _, f4, _⟩ := h2.get j _ f1
            have f3' : arr[j]? = some en := by simpa using f3
            have hlt := (Array.getElem?_eq_some_iff.1 f3').1
            obtain ⟨w', e0, e1, e2, e3, e4, e5, e6, e7⟩ := setObj_world (P := P) (o' := .map (arr.eraseIdxIfInBounds j) clock) h1
            obtain ⟨g1, g2⟩ := r.setBlk (h6 := Nat.le_of_eq e7.symm) (bk := .map clock (ents.eraseIdx j)) hρ hb rfl rfl e1 e2 e4 e5 e6 (BRel.mkEnts e3 (by
              have : (arr.eraseIdxIfInBounds j).toList = arr.toList.eraseIdx j := by simp [Array.eraseIdxIfInBounds, hlt]
              rw [this]
              exact ERel.erase j h2))
            exact ⟨_, w', ρ, I, by simp [Builtin.delete_, hu, hg, hc, hfk, foundV, f3', e0], unit, g1, g2⟩
    · cases h
      simp only [VRel] at hm; subst hm
      have hc := chk_at hs hki hk true w
      exact .quiet r (cv := .tuple #[]) (by simp [Builtin.delete_, hu, hc]) unit
  · cases h

theorem eqs_sound (r : Rel B w0 ρ I σ w) {g : Bool} {x y v : AVal} {cx cy : Value} {s : List Nat} {σ' : St} (t : TypeId) (hst : isStr P t = true) (hs : shapeT P 20 t = some s) (hg : P.eqGuardType P.depth t = false)
    (h : evalV σ (.eqs g s x y) = some (v, σ')) (hx : VRel ρ I x cx) (hy : VRel ρ I y cy) (ox oy : Operand) :
    Good B w0 ρ I σ ((do eqGuard (if g then .neq else .eql) t ox oy cx cy; binOp (if g then .neq else .eql) t cx cy : Sem Value).run P w) v σ' := by
  simp only [evalV] at h
  split at h
  · rename_i xs ys
    split at h
    · rename_i hc
      cases hk : keysEq xs ys with
      | none => rw [hk] at h; cases h
      | some b =>
        rw [hk] at h
        simp only [Option.map_some, Option.some.injEq, Prod.mk.injEq] at h
        obtain ⟨rfl, rfl⟩ := h
        simp only [VRel] at hx hy
        obtain ⟨ax, rfl, _, _, g1⟩ := hx
        obtain ⟨ay, rfl, _, _, g2⟩ := hy
        have he : (Op.equalIn 10000 t (.agg ax) (.agg ay)).run P w = .ok b w :=
          eqT_run 20 t s hs ρ I 9980 w _ _ xs ys b (by rw [TV, hst, if_pos rfl]; exact ⟨ax, rfl, g1⟩) (by rw [TV, hst, if_pos rfl]; exact ⟨ay, rfl, g2⟩) hc.1 hc.2.symm hk
        have hgd : ∀ op, (eqGuard op t ox oy (.agg ax) (.agg ay)).run P w = .ok () w := fun op => run_eqGuard_agg w op t ox oy ax ay hg
        cases g
        · exact .quiet r (cv := .bool b) (by simp [hgd, run_eql_struct w t ax ay, he]) (by simp [VRel])
        · exact .quiet r (cv := .bool (!b)) (by simp [hgd, run_neq_struct w t ax ay, he]) (by simp [VRel])
    · cases h
  · cases h
end
end Go.Proofs.Ytopagbaokokjdaa.AM

/- The abstract machine: maps that are gone through. -/
namespace Go.Proofs.Ytopagbaokokjdaa.AM
open Go.RowKit
set_option linter.unusedVariables false
set_option linter.unusedSimpArgs false

section
variable {P : Program} {B : Nat} {w0 : Root} {w : World} {ρ : Rho} {I : Imm} {σ : St}

theorem run_newObj (o : Obj) (w : World) : (newObj o).run P w = .ok w.heap.size (w.alloc o) := rfl

theorem mkmap_at (r : Rel B w0 ρ I σ w) {id : Nat} (hid : ρ id = none) (hm : σ.mem.get id = some (.map 0 [])) (t : TypeId) : GoodAt B w0 ρ I σ id ((Instr.makeMap t none).run P w) (.map id) := by
  refine ⟨.map (some w.heap.size), w.alloc (.map #[] 0), ⟨w.heap.size, 0, 0, 0⟩, by simp [Instr.makeMap, run_newObj], by simp [VRel], ?_⟩
  exact r.alloc_at hid hm _ _ rfl rfl fun ρ' _ => ⟨#[], heap_alloc_new w _, rfl, fun j x hx => by simp at hx⟩

theorem range_sound (r : Rel B w0 ρ I σ w) {x v : AVal} {cx : Value} {σ' : St} (h : evalV σ (.rangeM x) = some (v, σ')) (hx : VRel ρ I x cx) (t k e : TypeId) (ht : P.underlying t = some (.map k e)) : Good B w0 ρ I σ ((Instr.range t cx).run P w) v σ' := by
  have hu : (underlying t).run P w = .ok (.map k e) w := by simp [underlying, ht]
  have new : ∀ (m : Option Nat) (cm : Option Nat) (since last : Nat), (m = none ∧ cm = none ∨ ∃ a pm, m = some a ∧ ρ a = some pm ∧ cm = some pm.b) → (Instr.range t cx).run P w = .ok (.pointer (some ⟨w.heap.size, 0, none⟩)) (w.alloc (.mapIter cm since #[] last)) →
      Good B w0 ρ I σ ((Instr.range t cx).run P w) (.ptr σ.next 0) ⟨σ.mem.set σ.next (.iter m since [] last), σ.next + 1⟩ := by
    intro m cm since last hcm hrun
    have r2 := (r.addAbs (.iter m since [] last)).alloc_at (bk := .iter m since [] last) r.fresh (by simp) (.mapIter cm since #[] last) ⟨w.heap.size, 0, 0, 0⟩ rfl rfl fun ρ' hle => ⟨rfl, cm, heap_alloc_new w _, by
      rcases hcm with h | ⟨a, pm, h1, h2, h3⟩
      · exact .inl h
      · exact .inr ⟨a, pm, h1, hle _ _ h2, h3⟩⟩
    exact ⟨_, _, _, _, hrun, by simp [VRel], r2, ⟨fun a ha => upd_ne _ _ (by omega), ILe.refl _, Nat.le_succ _, fun a ha hn => by dsimp; rw [Mem.get_set_ne _ _ (by omega)]⟩⟩
  simp only [evalV] at h
  cases x <;> simp only at h <;> first | (cases h; done) | skip
  · rename_i a
    cases hb : σ.mem.get a with
    | none => rw [hb] at h; cases h
    | some b =>
      rw [hb] at h
      cases b <;> simp only at h <;> first | (cases h; done) | skip
      rename_i clock ents
      cases h
      simp only [VRel] at hx
      obtain ⟨p, hρ, rfl⟩ := hx
      obtain ⟨arr, h1, h2⟩ := (r.blk a p _ hρ hb).ents
      have hg : (getObj p.b).run P w = .ok (.map arr clock) w := MapKept.run_getObj_map h1
      exact new (some a) (some p.b) clock clock (.inr ⟨a, p, rfl, hρ, rfl⟩) (by simp [Instr.range, hu, hg, run_newObj])
  · cases h
    simp only [VRel] at hx; subst hx
    exact new none none 0 0 (.inl ⟨rfl, rfl⟩) (by simp [Instr.range, hu, run_newObj])

theorem getObj_iter {w : World} {b : Nat} {cm : Option Nat} {since last : Nat} {seen : Array Nat} (h : w.heap[b]? = some (.mapIter cm since seen last)) : (getObj b).run P w = .ok (.mapIter cm since seen last) w := by
  simp [getObj, Sem.run, h]

theorem entry_sound (r : Rel B w0 ρ I σ w) {x v : AVal} {cx : Value} {σ' : St} (h : evalV σ (.entryM x) = some (v, σ')) (hx : VRel ρ I x cx) : Good B w0 ρ I σ ((Instr.entry cx).run P w) v σ' := by
  simp only [evalV] at h
  cases x with
  | ptr a o =>
   cases o with
   | succ o => cases h
   | zero =>
    simp only at h
    cases hb : σ.mem.get a with
    | none => rw [hb] at h; cases h
    | some b =>
      rw [hb] at h
      cases b with
      | cells _ _ => cases h
      | ro _ _ => cases h
      | map _ _ => cases h
      | loop _ => cases h
      | iter m since seen last =>
       cases m with
       | none => cases h
       | some m =>
        simp only at h
        split at h
        · rename_i stamp clock ents hst hm2
          split at h
          · rename_i hcl
            subst hcl
            cases hf : ents.find? (fun e => e.1 == stamp) with
            | none => rw [hf] at h; cases h
            | some e =>
              rw [hf] at h
              simp only [Option.map_some, Option.some.injEq, Prod.mk.injEq] at h
              obtain ⟨rfl, rfl⟩ := h
              simp only [VRel] at hx
              obtain ⟨p, hρ, rfl⟩ := hx
              obtain ⟨h0, cm, h1, h2⟩ := r.blk a p _ hρ hb
              rcases h2 with ⟨h2, _⟩ | ⟨a', pm, h2, h3, rfl⟩
              · cases h2
              · cases h2
                obtain ⟨arr, h4, h5⟩ := (r.blk m pm _ h3 hm2).ents
                have hg := MapKept.run_getObj_map (P := P) h4
                have hi := getObj_iter (P := P) h1
                obtain ⟨en, f1, f2, f3⟩ := h5.find (fun n => n == stamp) hf
                have f1' : arr.find? (fun e => e.born == stamp) = some en := by rw [← Array.find?_toList]; exact f1
                have hbk : seen.toArray.back? = some stamp := by simpa using hst
                refine .quiet r (cv := .tuple #[en.key, en.val]) ?_ ?_
                · simp [Instr.entry, h0, hi, hg, hbk, f1']
                · simp only [VRel]
                  exact ⟨_, rfl, rfl, ⟨⟨_, rfl, f2⟩, ⟨_, rfl, f3⟩, trivial⟩⟩
          · cases h
        · cases h
  | _ => cases h

theorem choose_map (n : Nat) (hn : 0 < n) (w : World) : ∃ i w1, (choose (.mapNext n)).run P w = .ok i w1 ∧ i < n ∧ (w1 = w ∨ w1 = w.drew) := by
  by_cases h : n ≤ 1
  · exact ⟨0, w, by rw [run_choose_drew]; simp [Question.forced, h], hn, .inl rfl⟩
  · refine ⟨(Question.mapNext n).cut (w.tape w.drawn (.mapNext n)), w.drew, by rw [run_choose_drew]; simp [Question.forced, h], ?_, .inr rfl⟩
    simp only [Question.cut]; exact Nat.mod_lt _ hn

theorem next_sound (r : Rel B w0 ρ I σ w) {x : AVal} {cx : Value} {l : List (AVal × St)} (h : nextC σ x = some l) (hx : VRel ρ I x cx) (ty : TypeId) : ∃ p ∈ l, Good B w0 ρ I σ ((Instr.next cx false ty).run P w) p.1 p.2 := by
  have over : VRel ρ I (.tup [.bool false]) (.tuple #[.bool false]) := by
    simp only [VRel]; exact ⟨_, rfl, rfl, ⟨⟨.bool false, rfl, by simp only [VRel]⟩, trivial⟩⟩
  unfold nextC at h
  split at h
  · rename_i a
    split at h
    · rename_i since seen last hb
      cases h
      simp only [VRel] at hx
      obtain ⟨p, hρ, rfl⟩ := hx
      obtain ⟨h0, cm, h1, h2⟩ := r.blk a p _ hρ hb
      rcases h2 with ⟨_, rfl⟩ | ⟨a', pm, h2, _⟩
      · have hi := getObj_iter (P := P) h1
        exact ⟨(.tup [.bool false], σ), List.mem_singleton.2 rfl, .quiet r (cv := .tuple #[.bool false]) (by simp [Instr.next, h0, hi]) over⟩
      · cases h2
    · rename_i m since seen last hb
      split at h
      · rename_i clock ents hm2
        split at h
        · cases h
        · rename_i hbad
          simp only [VRel] at hx
          obtain ⟨p, hρ, rfl⟩ := hx
          obtain ⟨h0, cm, h1, h2⟩ := r.blk a p _ hρ hb
          rcases h2 with ⟨h2, _⟩ | ⟨a', pm, h2, h3, rfl⟩
          · cases h2
          · cases h2
            obtain ⟨arr, h4, h5⟩ := (r.blk m pm _ h3 hm2).ents
            have hg := MapKept.run_getObj_map (P := P) h4
            have hi := getObj_iter (P := P) h1
            have hl := h5.filter (fun n => !seen.contains n)
            have ho := hl.filter (fun n => decide (n < since))
            have hn := hl.filter (fun n => decide (since ≤ n))
            have hall := h5.all (fun n => decide (last ≤ n))
            have hlen := h5.len
            injection h with h
            obtain ⟨oldC, hoC⟩ : ∃ x, (arr.toList.filter fun e => !seen.contains e.born).filter (fun e => decide (e.born < since)) = x := ⟨_, rfl⟩
            obtain ⟨newC, hnC⟩ : ∃ x, (arr.toList.filter fun e => !seen.contains e.born).filter (fun e => decide (since ≤ e.born)) = x := ⟨_, rfl⟩
            rw [hoC] at ho
            rw [hnC] at hn
            generalize (ents.filter fun e => !seen.contains e.1).filter (fun e => decide (e.1 < since)) = oldE at ho h
            generalize (ents.filter fun e => !seen.contains e.1).filter (fun e => decide (since ≤ e.1)) = newE at hn h
            have hon := ho.append hn
            have hol := ho.len
            have hnl := hn.len
            have hbadC : (!seen.toArray.isEmpty && !arr.isEmpty && arr.all (fun e => decide (e.born ≥ last))) = false := by
              have e1 : seen.toArray.isEmpty = seen.isEmpty := by simp [Array.isEmpty, List.isEmpty_iff]; cases seen <;> simp
              have e2 : arr.isEmpty = ents.isEmpty := by
                have : arr.size = ents.length := by simpa using hlen
                cases ents <;> simp [Array.isEmpty, this]
              have e3 : arr.all (fun e => decide (e.born ≥ last)) = ents.all fun e => decide (last ≤ e.1) := by
                rw [← hall, ← Array.all_toList]
              rw [e1, e2, e3]; simpa using hbad
            obtain ⟨C, hC⟩ : ∃ C, (if oldC.isEmpty then [none] else []) ++ (oldC ++ newC).map some = C := ⟨_, rfl⟩
            have hcand : (if (((arr.filter fun e => !seen.toArray.contains e.born).filter fun e => decide (e.born < since)).isEmpty) = true then #[none] else #[]) ++
                (((arr.filter fun e => !seen.toArray.contains e.born).filter fun e => decide (e.born < since)) ++ ((arr.filter fun e => !seen.toArray.contains e.born).filter fun e => decide (e.born ≥ since))).map some = C.toArray := by
              have g1 : (arr.filter fun e => !seen.toArray.contains e.born).filter (fun e => decide (e.born < since)) = oldC.toArray := by
                apply Array.ext'
                rw [← hoC]; simp
              have g2 : (arr.filter fun e => !seen.toArray.contains e.born).filter (fun e => decide (e.born ≥ since)) = newC.toArray := by
                apply Array.ext'
                rw [← hnC]; simp
              rw [g1, g2, ← hC]
              cases oldC <;> simp
            obtain ⟨i, w1, c1, c2, c3⟩ := choose_map (P := P) C.length (by
              rw [← hC]; cases oldC <;> simp) w
            have r1 : Rel B w0 ρ I σ w1 := by
              rcases c3 with rfl | rfl
              · exact r
              · exact r.drew
            have h1' : w1.heap[p.b]? = some (.mapIter (some pm.b) since seen.toArray last) := by
              rcases c3 with rfl | rfl <;> exact h1
            have hrun : (Instr.next (.pointer (some ⟨p.b, p.base + 0, none⟩)) false ty).run P w = (match C[i]? with
                | some (some e) => (do setObj p.b (.mapIter (some pm.b) since (seen.toArray.push e.born) clock); pure (.tuple #[.bool true, e.key, e.val]) : Sem Value).run P w1
                | some none => .ok (.tuple #[.bool false]) w1
                | none => (stuck "Next: no such candidate" : Sem Value).run P w1) := by
              rw [h0]
              unfold Instr.next
              simp only [Sem.run_bind, hi, hg, Result.andThen_ok, hbadC, hcand, List.size_toArray, List.getElem?_toArray]
              rw [if_neg (by simp)]
              simp only [Sem.run_bind, c1, Result.andThen_ok]
              cases C[i]? with
              | none => rfl
              | some o => cases o <;> simp
            have hlC : C.length = l.length := by rw [← hC, ← h]; simp [hol, hnl]; cases oldC <;> cases oldE <;> simp at hol ⊢
            rw [hrun]
            by_cases hemp : oldC = [] ∧ i = 0
            · obtain ⟨e1, rfl⟩ := hemp
              subst e1
              have e2 : oldE = [] := List.eq_nil_of_length_eq_zero hol.symm
              subst e2
              have : C[0]? = some none := by rw [← hC]; rfl
              rw [this]
              refine ⟨(.tup [.bool false], σ), by rw [← h]; simp, ?_⟩
              exact ⟨_, w1, ρ, I, rfl, over, r1, Ext.refl _ _ _⟩
            · obtain ⟨j, en, x, hj, hen, hx2, hmem⟩ : ∃ (j : Nat) (en : MapEntry) (x : Entry), C[i]? = some (some en) ∧ (oldC ++ newC)[j]? = some en ∧ (oldE ++ newE)[j]? = some x ∧
                  (.tup [.bool true, x.2.1, x.2.2], ⟨σ.mem.set a (.iter (some m) since (seen ++ [x.1]) clock), σ.next⟩) ∈ l := by
                have hk : ∃ j, C[i]? = ((oldC ++ newC).map some)[j]? ∧ j < (oldC ++ newC).length := by
                  rw [← hC] at c2
                  rw [← hC]
                  cases oldC with
                  | nil =>
                    have hi0 : i ≠ 0 := fun h => hemp ⟨rfl, h⟩
                    refine ⟨i - 1, ?_, ?_⟩
                    · obtain ⟨i', rfl⟩ : ∃ i', i = i' + 1 := ⟨i - 1, by omega⟩
                      simp
                    · simp at c2 ⊢; omega
                  | cons o os => exact ⟨i, by simp, by simpa using c2⟩
                obtain ⟨j, hj1, hj2⟩ := hk
                obtain ⟨en, hen⟩ : ∃ en, (oldC ++ newC)[j]? = some en := ⟨_, List.getElem?_eq_getElem hj2⟩
                obtain ⟨x, hx⟩ : ∃ x, (oldE ++ newE)[j]? = some x := ⟨_, List.getElem?_eq_getElem (by have := hon.len; omega)⟩
                refine ⟨j, en, x, by rw [hj1, List.getElem?_map, hen]; rfl, hen, hx, ?_⟩
                rw [← h]
                exact List.mem_append.2 (.inr (List.mem_map.2 ⟨x, List.mem_of_getElem? hx, rfl⟩))
              rw [hj]
              obtain ⟨en', f1, f2, f3, f4⟩ := hon.get j x hx2
              rw [hen] at f1; cases f1
              obtain ⟨w2, e0, e1, e2, e3, e4, e5, e6, e7⟩ := setObj_world (P := P) (o' := .mapIter (some pm.b) since (seen.toArray.push en.born) clock) h1'
              obtain ⟨g1, g2⟩ := r1.setBlk (h6 := Nat.le_of_eq e7.symm) (bk := .iter (some m) since (seen ++ [x.1]) clock) hρ hb rfl rfl e1 e2 e4 e5 e6 ⟨h0, some pm.b, by rw [e3, f2]; simp, .inr ⟨m, pm, rfl, h3, rfl⟩⟩
              refine ⟨_, hmem, .tuple #[.bool true, en.key, en.val], w2, ρ, I, by simp only [Sem.run_bind, e0, Result.andThen_ok, Sem.run_pure], ?_, g1, g2⟩
              simp only [VRel]
              exact ⟨_, rfl, rfl, ⟨⟨.bool true, rfl, by simp only [VRel]⟩, ⟨_, rfl, f3⟩, ⟨_, rfl, f4⟩, trivial⟩⟩
      · cases h
    · cases h
  · cases h
end
end Go.Proofs.Ytopagbaokokjdaa.AM

/- The abstract machine: arrays in variables, clear. -/
namespace Go.Proofs.Ytopagbaokokjdaa.AM
open Go.RowKit
set_option linter.unusedVariables false
set_option linter.unusedSimpArgs false

section
variable {P : Program} {B : Nat} {w0 : Root} {w : World} {ρ : Rho} {I : Imm} {σ : St}

theorem allocA_at (r : Rel B w0 ρ I σ w) {id : Nat} (hid : ρ id = none) {es : Nat} {z : List AVal} {zv : Value} (hm : σ.mem.get id = some (.cells es z)) (t : TypeId) (i : TypeInfo) (hi : P.info? t = some i) (hz : i.zero = some zv) (h1 : z.all AVal.one = true) (h2 : KCRel z zv.cells) :
    GoodAt B w0 ρ I σ id ((Instr.alloc t true (.tuple #[])).run P w) (.ptr id 0) := by
  have r2 := r.newCells_at hid hm zv.cells t h1 (by rw [h2.1]; exact Nat.le_refl _) (h2.2 ρ I)
  have hzv : (zeroValue t).run P w = .ok zv w := by simp [zeroValue, typeInfo, hi, hz]
  refine ⟨.pointer (some ⟨w.heap.size, 0, none⟩), _, _, ?_, ?_, r2⟩
  · simp [Instr.alloc, hzv, newVar, newRow]
  · simp [VRel]

theorem idxArr_sound (r : Rel B w0 ρ I σ w) {x i v : AVal} {cx ci : Value} {n es : Nat} {σ' : St} (h : evalV σ (.idxArr n es x i) = some (v, σ')) (hx : VRel ρ I x cx) (hi : VRel ρ I i ci) (t e : TypeId) (inf : TypeInfo)
    (ht : P.underlying t = some (.array n e)) (hinf : P.info? e = some inf) (hs : inf.size = es) :
    Good B w0 ρ I σ ((Instr.indexAt t cx ci).run P w) v σ' := by
  subst hs
  have hu : (underlying t).run P w = .ok (.array n e) w := by simp [underlying, ht]
  have hsz : (sizeOf e).run P w = .ok inf.size w := by simp [sizeOf, typeInfo, hinf]
  simp only [evalV] at h
  split at h
  · rename_i a o k m
    split at h
    · rename_i hc
      cases h
      simp only [VRel] at hx hi
      obtain ⟨p, h1, rfl⟩ := hx
      subst hi
      refine .quiet r (cv := .pointer (some ⟨p.b, p.base + (o + m.toNat * inf.size), none⟩)) ?_ ?_
      · simp [Instr.indexAt, run_asIntOf, hu, hsz, hc.1, hc.2, addr_add, Nat.add_assoc, Instr.sureAddr]
      · simp only [VRel]; exact ⟨p, h1, rfl⟩
    · cases h
  · rename_i cs k m
    split at h
    · rename_i hc
      cases h
      simp only [VRel] at hx hi
      obtain ⟨ad, rfl, h6, h7⟩ := hx
      subst hi
      refine .quiet r (cv := .pointer (some (ad.add (m.toNat * inf.size)))) ?_ ?_
      · simp [Instr.indexAt, run_asIntOf, hu, hsz, hc.1, hc.2, Instr.sureAddr]
      · simp only [VRel]
        exact ⟨_, rfl, all_take (all_drop h6 _) _, ((h7.drop _).take _).congr fun j _ => by rw [add_add]⟩
    · cases h
  · cases h

theorem sliceArr_sound (r : Rel B w0 ρ I σ w) {x v : AVal} {cx : Value} {n es : Nat} {lo hi mx : Option AVal} {clo chi cmx : Option Value} {σ' : St} (h : evalV σ (.sliceArr n es x lo hi mx) = some (v, σ')) (hx : VRel ρ I x cx) (t e : TypeId) (inf : TypeInfo)
    (ht : P.underlying t = some (.array n e)) (hinf : P.info? e = some inf) (hs : inf.size = es)
    (hlo : ∀ x, lo = some x → ∃ y, clo = some y ∧ VRel ρ I x y) (hlo' : lo = none → clo = none)
    (hhi : ∀ x, hi = some x → ∃ y, chi = some y ∧ VRel ρ I x y) (hhi' : hi = none → chi = none)
    (hmx : ∀ x, mx = some x → ∃ y, cmx = some y ∧ VRel ρ I x y) (hmx' : mx = none → cmx = none) :
    Good B w0 ρ I σ ((Instr.sliceAt t cx clo chi cmx).run P w) v σ' := by
  have hu : (underlying t).run P w = .ok (.array n e) w := by simp [underlying, ht]
  have hsz : (sizeOf e).run P w = .ok es w := by simp [sizeOf, typeInfo, hinf, hs]
  simp only [evalV] at h
  split at h
  · rename_i a o
    cases hm : σ.mem.get a with
    | none => rw [hm] at h; cases h
    | some b =>
      rw [hm] at h
      cases b <;> simp only at h <;> (try (cases h; done))
      rename_i es' vals
      split at h
      · rename_i hc
        obtain ⟨rfl, hc2, hc3⟩ := hc
        cases hb : asliceSl lo hi mx n n with
        | none => rw [hb] at h; cases h
        | some q =>
          obtain ⟨l, h', m⟩ := q
          rw [hb] at h; cases h
          simp only [VRel] at hx
          obtain ⟨p, hρ, rfl⟩ := hx
          obtain ⟨q1, q2, q3, _⟩ := r.blk a p _ hρ hm
          obtain ⟨b1, b2, b3, b4, b5⟩ := bounds_sound (P := P) (w := w) hb (Nat.le_refl n) false hlo hlo' hhi hhi' hmx hmx'
          have hmm : (if mx.isSome then m else n) = m := by
            cases mx with
            | none => simp [b4 rfl]
            | some _ => rfl
          rw [hmm] at b5
          refine .quiet r (cv := .slice (some (if m = l then ⟨p.b, p.base + o, none⟩ else (⟨p.b, p.base + o, none⟩ : Addr).add (l * es'))) (h' - l) (m - l)) ?_ ?_
          · simp [Instr.sliceAt, hu, Instr.sureAddr, b5, hsz]
          · simp only [VRel]
            refine ⟨p, _, m - l, hρ, rfl, by omega, Nat.le_refl _, by unfold maxLen; omega, fun _ => rfl, ?_, ?_⟩
            · by_cases he : m = l
              · left; omega
              · right; rw [if_neg he, addr_add, Nat.add_assoc]
            · rw [q1]
              have : (m - l) * es' + l * es' ≤ n * es' := by rw [← Nat.add_mul]; exact Nat.mul_le_mul_right _ (by omega)
              omega
      · cases h
  · cases h

theorem clear_sound (r : Rel B w0 ρ I σ w) {x v : AVal} {cx : Value} {es : Nat} {z : List AVal} {σ' : St} (h : evalV σ (.clear es z x) = some (v, σ')) (hx : VRel ρ I x cx) (t e ty : TypeId) (i : TypeInfo) (zv : Value)
    (ht : P.underlying t = some (.slice e)) (hinf : P.info? e = some i) (hz : i.zero = some zv) (hs : i.size = es) (h1 : z.all AVal.one = true) (h2 : KCRel z zv.cells) :
    Good B w0 ρ I σ ((Builtin.clear_ #[t] ty #[cx]).run P w) v σ' := by
  have hu : (underlying t).run P w = .ok (.slice e) w := by simp [underlying, ht]
  have hzv : (zeroValue e).run P w = .ok zv w := by simp [zeroValue, typeInfo, hinf, hz]
  have unit : ∀ {ρ I}, VRel ρ I (.tup []) (.tuple #[]) := by intro ρ I; simp only [VRel]; exact ⟨_, rfl, rfl, trivial⟩
  simp only [evalV] at h
  split at h
  · cases h
    simp only [VRel] at hx; subst hx
    exact .quiet r (cv := .tuple #[]) (by simp [Builtin.clear_, hu]) unit
  · cases h
    simp only [VRel] at hx
    obtain ⟨ad, cap', rfl, _⟩ := hx
    exact .quiet r (cv := .tuple #[]) (by simp [Builtin.clear_, hu]) unit
  · rename_i a o len cap tg
    simp only [VRel] at hx
    obtain ⟨p, ad, cap', hρ, rfl, g1, g2, g3, g4, g5, g6⟩ := hx
    split at h
    · rename_i h0
      cases h
      subst h0
      exact .quiet r (cv := .tuple #[]) (by simp [Builtin.clear_, hu]) unit
    · rename_i h0
      cases hm : σ.mem.get a with
      | none => rw [hm] at h; cases h
      | some b =>
        rw [hm] at h
        cases b <;> simp only at h <;> (try (cases h; done))
        rename_i es' vals
        split at h
        · rename_i hc
          cases h
          obtain ⟨c1, c2, c3⟩ := hc
          have had := g5.resolve_left (by omega)
          subst had
          have hzl : zv.cells.size = z.length := h2.1.symm
          have hcl : CRel ρ I (repL len z) (fun j => (Builtin.zeroCells zv.cells len).toList[j]?) := by
            by_cases hz0 : 0 < z.length
            · have := repl_crel (ρ := ρ) (I := I) h2 hz0 len (len * z.length) rfl
              rw [hzl] at this
              simp only [Builtin.zeroCells, hzl, Array.getElem?_toList]
              exact this
            · have : z = [] := List.length_eq_zero_iff.1 (by omega)
              subst this
              refine CRel.mk fun j y hy => ?_
              have := (List.getElem?_eq_some_iff.1 hy).1
              rw [repL_length] at this
              simp at this
          obtain ⟨w', k1, k2, k3⟩ := storeCells_sound (P := P) (o := o) hρ (repL len z) (Builtin.zeroCells zv.cells len).toList σ w vals 0 r hm (by simp [repL_length, Builtin.zeroCells, hzl]) hcl (repL_one h1) (by rw [repL_length, c3]; omega)
          obtain ⟨n, hn⟩ : ∃ n, len = n + 1 := ⟨len - 1, by omega⟩
          refine ⟨.tuple #[], w', ρ, I, ?_, unit, k2, k3⟩
          subst hn
          simp [Builtin.clear_, hu, hzv, k1]
        · cases h
  · cases h
end
end Go.Proofs.Ytopagbaokokjdaa.AM

/- The abstract machine: all operations told. -/
namespace Go.Proofs.Ytopagbaokokjdaa.AM
open Go.RowKit
set_option linter.unusedVariables false
set_option linter.unusedSimpArgs false

def compNew (P : Program) : Op → Option (AOp Opd)
  | .makeMap _ none => some .mkmap
  | .alloc t => match P.underlying t with
    | some (.array _ e) => (P.info? e).bind fun i => (zeroC P t).map fun z => .allocA i.size z.1
    | _ => none
  | .indexAddr t x i => (compOpd x).bind fun x => (compOpd i).bind fun i => match P.underlying t with
    | some (.array n e) => (P.info? e).map fun inf => .idxArr n inf.size x i
    | _ => none
  | .slice t x lo hi mx => (compOpd x).bind fun x => (optM compOpd lo).bind fun lo => (optM compOpd hi).bind fun hi => (optM compOpd mx).bind fun mx => match P.underlying t with
    | some (.array n e) => (P.info? e).map fun i => .sliceArr n i.size x lo hi mx
    | _ => none
  | .call { callee := .builtin .clear, args, argTypes } => match args.toList, argTypes.toList with
    | [x], [t] => (compOpd x).bind fun x => match P.underlying t with
      | some (.slice e) => (zeroC P e).map fun z => .clear z.2.1 z.1 x
      | _ => none
    | _, _ => none
  | .lookup t x i ok => (compOpd x).bind fun x => (compOpd i).bind fun i => match P.underlying t with
    | some (.map k e) => (shapeT P 20 k).bind fun s => (zeroV P e).map fun z => .lookup z (isStr P k) s x i ok
    | _ => none
  | .mapUpdate t m k v => (compOpd m).bind fun m => (compOpd k).bind fun k => (compOpd v).bind fun v => match P.underlying t with
    | some (.map kt e) => (shapeT P 20 kt).map fun s => .mapSet (isStr P kt) s m k v
    | _ => none
  | .range t x => (compOpd x).bind fun x => match P.underlying t with
    | some (.map _ _) => some (.rangeM x)
    | _ => none
  | .entry x => (compOpd x).map .entryM
  | .binOp op t x y _ => if isStr P t && !(P.eqGuardType P.depth t) then (compOpd x).bind fun x => (compOpd y).bind fun y => (shapeT P 20 t).bind fun s => match op with
      | .eql => some (.eqs false s x y)
      | .neq => some (.eqs true s x y)
      | _ => none
    else none
  | .call { callee := .builtin .delete, args, argTypes } => match args.toList, argTypes.toList with
    | [m, k], [t, _] => (compOpd m).bind fun m => (compOpd k).bind fun k => match P.underlying t with
      | some (.map kt _) => (shapeT P 20 kt).map fun s => .delete (isStr P kt) s m k
      | _ => none
    | _, _ => none
  | _ => none

/-- An operation told; what isn't known gets stuck. -/
def compOp2 (P : Program) (op : Op) : Option (AOp Opd) :=
  match compOp P op with
  | some a => some a
  | none => some ((compNew P op).getD .stuck)

section
variable {P : Program} {B : Nat} {w0 : Root} {w : World} {ρ : Rho} {I : Imm} {σ : St}

theorem new_sound {o : Oper} {ao : AOp Opd} {av : AOp AVal} {regs : Regs} {a : Act} {v : AVal} {σ' : St} (hc : compNew P o.op = some ao) (hA : ao.isA = false) (hm : ao.mapM (evalOpd regs) = some av) (he : evalV σ av = some (v, σ'))
    (hr : RegsRel ρ I regs a.tmps) (r : Rel B w0 ρ I σ w) : GoodN B w0 ρ I σ ((execOp a.eval o).run P w) ao.isSt v σ' := by
  obtain ⟨dst, op, type, pos, after, guard⟩ := o
  simp only at hc
  unfold compNew at hc
  split at hc
  · cases hc; cases hA
  · -- alloc
    split at hc
    · simp only [Option.bind_eq_some_iff, Option.map_eq_some_iff] at hc
      obtain ⟨_, _, _, _, rfl⟩ := hc
      cases hA
    · cases hc
  · -- indexAddr
    rename_i t x i
    simp only [Option.bind_eq_some_iff] at hc
    obtain ⟨x', h1, i', h2, hc⟩ := hc
    split at hc
    · rename_i n e ht
      simp only [Option.map_eq_some_iff] at hc
      obtain ⟨inf, hi, rfl⟩ := hc
      simp only [AOp.mapM, Option.bind_eq_some_iff, Option.map_eq_some_iff] at hm
      obtain ⟨xv, h3, iv, h4, rfl⟩ := hm
      exact (idxArr_sound (P := P) r he (opd_sound r.gok hr h1 h3) (opd_sound r.gok hr h2 h4) t e inf ht hi rfl).next
    · cases hc
  · -- slice
    rename_i t x lo hi mx
    simp only [Option.bind_eq_some_iff] at hc
    obtain ⟨x', h1, lo', h2, hi', h3, mx', h4, hc⟩ := hc
    split at hc
    · rename_i n e ht
      simp only [Option.map_eq_some_iff] at hc
      obtain ⟨inf, hi0, rfl⟩ := hc
      simp only [AOp.mapM, Option.bind_eq_some_iff, Option.map_eq_some_iff] at hm
      obtain ⟨xv, k1, lv, k2, hv, k3, mv, k4, rfl⟩ := hm
      obtain ⟨a1, a2⟩ := optM_rel r.gok hr h2 k2
      obtain ⟨b1, b2⟩ := optM_rel r.gok hr h3 k3
      obtain ⟨c1, c2⟩ := optM_rel r.gok hr h4 k4
      exact (sliceArr_sound (P := P) r he (opd_sound r.gok hr h1 k1) t e inf ht hi0 rfl a1 a2 b1 b2 c1 c2).next
    · cases hc
  · -- clear
    rename_i args ts
    obtain ⟨args⟩ := args
    obtain ⟨ts⟩ := ts
    simp only at hc
    split at hc
    · rename_i x t
      simp only [Option.bind_eq_some_iff] at hc
      obtain ⟨x', h1, hc⟩ := hc
      split at hc
      · rename_i e ht
        simp only [Option.map_eq_some_iff] at hc
        obtain ⟨⟨z, n, b⟩, hz, rfl⟩ := hc
        obtain ⟨i, zv, z1, z2, z3, z4, z5, z6, z7⟩ := zeroC_rel hz
        simp only [AOp.mapM, Option.map_eq_some_iff] at hm
        obtain ⟨xv, h3, rfl⟩ := hm
        have hd := (clear_sound (P := P) r he (opd_sound r.gok hr h1 h3) t e type i zv ht z1 z2 z3 z6 z7).next (st := false)
        simp only [execOp, resolve, Sem.run_bind, Sem.run_pure, Result.andThen_ok, invoke, builtin, List.map_toArray, List.map_cons, List.map_nil] at hd ⊢
        exact hd
      · cases hc
    · cases hc
  · -- lookup
    rename_i t x i ok
    simp only [Option.bind_eq_some_iff] at hc
    obtain ⟨x', h1, i', h2, hc⟩ := hc
    split at hc
    · rename_i k e ht
      simp only [Option.bind_eq_some_iff, Option.map_eq_some_iff] at hc
      obtain ⟨s, hs, z, hz, rfl⟩ := hc
      simp only [AOp.mapM, Option.bind_eq_some_iff, Option.map_eq_some_iff] at hm
      obtain ⟨xv, h3, iv, h4, rfl⟩ := hm
      exact (lookup_sound (P := P) r t k e ht hs hz he (opd_sound r.gok hr h1 h3) (opd_sound r.gok hr h2 h4)).next
    · cases hc
  · -- mapUpdate
    rename_i t m k v
    simp only [Option.bind_eq_some_iff] at hc
    obtain ⟨m', h1, k', h2, v', h3, hc⟩ := hc
    split at hc
    · rename_i kt e ht
      simp only [Option.map_eq_some_iff] at hc
      obtain ⟨s, hs, rfl⟩ := hc
      simp only [AOp.mapM, Option.bind_eq_some_iff, Option.map_eq_some_iff] at hm
      obtain ⟨mv, h4, kv, h5, vv, h6, rfl⟩ := hm
      exact (mapSet_sound (P := P) r t kt e ht hs he (opd_sound r.gok hr h1 h4) (opd_sound r.gok hr h2 h5) (opd_sound r.gok hr h3 h6)).next
    · cases hc
  · -- range
    rename_i t x
    simp only [Option.bind_eq_some_iff] at hc
    obtain ⟨x', h1, hc⟩ := hc
    split at hc
    · rename_i k e ht
      cases hc
      simp only [AOp.mapM, Option.map_eq_some_iff] at hm
      obtain ⟨xv, h3, rfl⟩ := hm
      exact (range_sound (P := P) r he (opd_sound r.gok hr h1 h3) t k e ht).next
    · cases hc
  · -- entry
    simp only [Option.map_eq_some_iff] at hc
    obtain ⟨x', h1, rfl⟩ := hc
    simp only [AOp.mapM, Option.map_eq_some_iff] at hm
    obtain ⟨xv, h3, rfl⟩ := hm
    exact (entry_sound (P := P) r he (opd_sound r.gok hr h1 h3)).next
  · -- structs
    rename_i op t x y yT
    split at hc
    · rename_i hst
      simp only [Bool.and_eq_true, Bool.not_eq_true'] at hst
      simp only [Option.bind_eq_some_iff] at hc
      obtain ⟨x', h1, y', h2, s, hs, hc⟩ := hc
      have key : ∀ g, op = (if g then .neq else .eql) → ao = .eqs g s x' y' → GoodN B w0 ρ I σ ((execOp a.eval ⟨dst, .binOp op t x y yT, type, pos, after, guard⟩).run P w) ao.isSt v σ' := by
        intro g hop hao
        subst hop; subst hao
        simp only [AOp.mapM, Option.bind_eq_some_iff, Option.map_eq_some_iff] at hm
        obtain ⟨xv, h3, yv, h4, rfl⟩ := hm
        exact (eqs_sound (P := P) r t hst.1 hs hst.2 he (opd_sound r.gok hr h1 h3) (opd_sound r.gok hr h2 h4) x y).next
      split at hc
      · cases hc; exact key false rfl rfl
      · cases hc; exact key true rfl rfl
      · cases hc
    · cases hc
  · -- delete
    rename_i args ts
    obtain ⟨args⟩ := args
    obtain ⟨ts⟩ := ts
    simp only at hc
    split at hc
    · rename_i m k t u
      simp only [Option.bind_eq_some_iff] at hc
      obtain ⟨m', h1, k', h2, hc⟩ := hc
      split at hc
      · rename_i kt e ht
        simp only [Option.map_eq_some_iff] at hc
        obtain ⟨s, hs, rfl⟩ := hc
        simp only [AOp.mapM, Option.bind_eq_some_iff, Option.map_eq_some_iff] at hm
        obtain ⟨mv, h4, kv, h5, rfl⟩ := hm
        have hd := (delete_sound (P := P) r t kt e u type ht hs he (opd_sound r.gok hr h1 h4) (opd_sound r.gok hr h2 h5)).next (st := false)
        simp only [execOp, resolve, Sem.run_bind, Sem.run_pure, Result.andThen_ok, invoke, builtin, List.map_toArray, List.map_cons, List.map_nil] at hd ⊢
        exact hd
      · cases hc
    · cases hc
  · cases hc

theorem op_sound2 {o : Oper} {ao : AOp Opd} {av : AOp AVal} {regs : Regs} {a : Act} {v : AVal} {σ' : St} (hc : compOp2 P o.op = some ao) (hm : ao.mapM (evalOpd regs) = some av) (he : evalV σ av = some (v, σ'))
    (hr : RegsRel ρ I regs a.tmps) (r : Rel B w0 ρ I σ w) : GoodN B w0 ρ I σ ((execOp a.eval o).run P w) ao.isSt v σ' := by
  unfold compOp2 at hc
  split at hc
  · rename_i a' h; cases hc
    exact op_sound h hm he hr r
  · cases hn : compNew P o.op with
    | none =>
      rw [hn] at hc; cases hc
      simp only [Option.getD_none, AOp.mapM, Option.some.injEq] at hm; subst hm
      simp only [evalV] at he; cases he
    | some a' =>
      rw [hn] at hc; cases hc
      cases hA : a'.isA with
      | false => exact new_sound hn hA hm he hr r
      | true =>
        obtain ⟨dst, op, type, pos, after, guard⟩ := o
        simp only at hn
        unfold compNew at hn
        split at hn
        · rename_i t _
          cases hn
          simp only [Option.getD_some, AOp.mapM, Option.some.injEq] at hm; subst hm
          simp only [evalV, made, allocV, Option.map_some, Option.some.injEq, Prod.mk.injEq] at he
          obtain ⟨rfl, rfl⟩ := he
          obtain ⟨cv, w', p, g1, g2, g3⟩ := mkmap_at (P := P) (σ := ⟨σ.mem.set σ.next (.map 0 []), σ.next + 1⟩) (r.addAbs (.map 0 [])) r.fresh (by simp) t
          refine ⟨w', _, _, g3, ⟨fun a ha => upd_ne _ _ (by omega), ILe.refl _, Nat.le_succ _, fun a ha hn => by dsimp; rw [Mem.get_set_ne _ _ (by omega)]⟩, .inl ⟨cv, ?_, g2⟩⟩
          simp only [execOp, Option.map_none, Sem.run_bind, g1, Result.andThen_ok, Sem.run_pure]
        · rename_i t _
          split at hn
          · rename_i n e ht
            simp only [Option.bind_eq_some_iff, Option.map_eq_some_iff] at hn
            obtain ⟨inf, hi, ⟨z, m, b⟩, hz, rfl⟩ := hn
            obtain ⟨i, zv, z1, z2, z3, z4, z5, z6, z7⟩ := zeroC_rel hz
            simp only [Option.getD_some, AOp.mapM, Option.some.injEq] at hm; subst hm
            simp only [evalV, made, allocV, Option.map_some, Option.some.injEq, Prod.mk.injEq] at he
            obtain ⟨rfl, rfl⟩ := he
            obtain ⟨cv, w', p, g1, g2, g3⟩ := allocA_at (P := P) (es := inf.size) (z := z) (σ := ⟨σ.mem.set σ.next (.cells inf.size z), σ.next + 1⟩) (r.addAbs (.cells inf.size z)) r.fresh (by simp) t i z1 z2 z6 z7
            refine ⟨w', _, _, g3, ⟨fun a ha => upd_ne _ _ (by omega), ILe.refl _, Nat.le_succ _, fun a ha hn => by dsimp; rw [Mem.get_set_ne _ _ (by omega)]⟩, .inl ⟨cv, ?_, g2⟩⟩
            simp only [execOp, Sem.run_bind, g1, Result.andThen_ok, Sem.run_pure]
          · cases hn
        all_goals
          exfalso
          repeat' first
            | (cases hn; done)
            | (cases hA; done)
            | (injection hn with hn; subst hn; cases hA; done)
            | (subst hn; cases hA; done)
            | (obtain ⟨_, _, hn⟩ := hn)
            | (split at hn)
            | (simp only [Option.bind_eq_some_iff, Option.map_eq_some_iff] at hn)

theorem alloc_op_sound2 {o : Oper} {ao : AOp Opd} {av : AOp AVal} {regs : Regs} {a : Act} {v : AVal} {bk : Blk} {id : Nat} (hc : compOp2 P o.op = some ao) (hA : ao.isA = true) (hm : ao.mapM (evalOpd regs) = some av) (he : allocV id av = some (v, bk))
    (hr : RegsRel ρ I regs a.tmps) (hid : ρ id = none) (hmem : σ.mem.get id = some bk) (r : Rel B w0 ρ I σ w) :
    ∃ cv w' p, (execOp a.eval o).run P w = .ok (.value cv) w' ∧ VRel (upd ρ id p) I v cv ∧ Rel B w0 (upd ρ id p) I σ w' := by
  unfold compOp2 at hc
  split at hc
  · rename_i a' h; cases hc
    exact alloc_op_sound h hA hm he hr hid hmem r
  · cases hn : compNew P o.op with
    | none => rw [hn] at hc; cases hc; cases hA
    | some a' =>
      rw [hn] at hc; cases hc
      obtain ⟨dst, op, type, pos, after, guard⟩ := o
      simp only at hn
      unfold compNew at hn
      split at hn
      · rename_i t _
        cases hn
        simp only [Option.getD_some, AOp.mapM, Option.some.injEq] at hm; subst hm
        simp only [allocV, Option.some.injEq, Prod.mk.injEq] at he
        obtain ⟨rfl, rfl⟩ := he
        obtain ⟨cv, w', p, g1, g2, g3⟩ := mkmap_at (P := P) r hid hmem t
        refine ⟨cv, w', p, ?_, g2, g3⟩
        simp only [execOp, Option.map_none, Sem.run_bind, g1, Result.andThen_ok, Sem.run_pure]
      · rename_i t _
        split at hn
        · rename_i n e ht
          simp only [Option.bind_eq_some_iff, Option.map_eq_some_iff] at hn
          obtain ⟨inf, hi, ⟨z, m, b⟩, hz, rfl⟩ := hn
          obtain ⟨i, zv, z1, z2, z3, z4, z5, z6, z7⟩ := zeroC_rel hz
          simp only [Option.getD_some, AOp.mapM, Option.some.injEq] at hm; subst hm
          simp only [allocV, Option.some.injEq, Prod.mk.injEq] at he
          obtain ⟨rfl, rfl⟩ := he
          obtain ⟨cv, w', p, g1, g2, g3⟩ := allocA_at (P := P) r hid hmem t i z1 z2 z6 z7
          refine ⟨cv, w', p, ?_, g2, g3⟩
          simp only [execOp, Sem.run_bind, g1, Result.andThen_ok, Sem.run_pure]
        · cases hn
      all_goals
        exfalso
        repeat' first
          | (cases hn; done)
          | (cases hA; done)
          | (injection hn with hn; subst hn; cases hA; done)
          | (subst hn; cases hA; done)
          | (obtain ⟨_, _, hn⟩ := hn)
          | (split at hn)
          | (simp only [Option.bind_eq_some_iff, Option.map_eq_some_iff] at hn)
end
end Go.Proofs.Ytopagbaokokjdaa.AM

/- The abstract machine: code, what it comes to, and how the model's code is told as such. -/
namespace Go.Proofs.Ytopagbaokokjdaa.AM
open Go.RowKit
set_option linter.unusedVariables false
set_option linter.unusedSimpArgs false

inductive AIns where
  | op (o : AOp Opd)
  | pick (c a b : Opd)
  | call (f : Opd) (args : List Opd)
  | next (x : Opd)
  | panic (x : Opd)

structure AOper where
  dst : Option Nat
  ins : AIns
  guard : Option (Nat × Bool)

inductive ACode where
  | skip
  | reg (keep : List Nat) (ops : List AOper)
  | dreg (keep : List Nat) (ops : List (AOper × List Nat))
  | seq (a b : ACode)
  | cond (c : Opd) (a b : ACode)
  | block (id : Nat) (a : ACode)
  | loop (keep : List Nat) (a : ACode)
  | exit (id : Nat)
  | ret
  | rangef (f : Opd) (ps : List Nat) (a b : ACode)

inductive AExit where
  | normal
  | exit (id : Nat)
  | ret

def setR (r : Regs) (d : Option Nat) (v : AVal) : Regs :=
  match d with
  | some d => (d, v) :: r
  | none => r

def delR (r : Regs) (d : Option Nat) : Regs :=
  match d with
  | some d => r.filter fun x => x.1 ≠ d
  | none => r

def norm (keep : List Nat) (r : Regs) : Regs := keep.filterMap fun t => (r.lookup t).map fun v => (t, v)

/-- What isn't done leaves nothing. -/
def delU (r : Regs) (d : Option Nat) : Regs :=
  match d with
  | some d => (d, .tup []) :: r
  | none => r

/-- A function is entered where it is called. -/
def Enterable (P : Program) (f : FuncId) : Prop := ∀ args w, (callFunc f args).run P w = .ok (.enter f args) w

/-- A program, what values it may throw, and what handing a round over does. -/
structure Env where
  prog : Program
  thr : AVal → St → Prop
  yld : Nat → List AVal → St → (AVal → St → Prop) → Prop
/-- A program that throws nothing. -/
@[coe] abbrev Env.of (P : Program) : Env := ⟨P, fun _ _ => False, fun _ _ _ _ => False⟩
instance : Coe Program Env := ⟨Env.of⟩
/-- A program that throws what T lets it. -/
abbrev Env.th (P : Program) (T : AVal → St → Prop) : Env := ⟨P, T, fun _ _ _ _ => False⟩
/-- The same, and no round is handed over. -/
def Env.mute (P : Env) : Env := ⟨P.prog, P.thr, fun _ _ _ _ => False⟩
@[simp] theorem Env.mute_of (P : Program) : (Env.of P).mute = Env.of P := Eq.trans rfl rfl
@[simp] theorem Env.mute_th (P : Program) (T : AVal → St → Prop) : (Env.th P T).mute = Env.th P T := Eq.trans rfl rfl
@[simp] theorem Env.mute_mk (P : Program) (T : AVal → St → Prop) (Y : Nat → List AVal → St → (AVal → St → Prop) → Prop) : (Env.mk P T Y).mute = Env.th P T := Eq.trans rfl rfl

/-- What is thrown. -/
def LiftT (B : Nat) (w0 : Root) (ρ : Rho) (I : Imm) (σ : St) (T : AVal → St → Prop) (chain : List PanicEntry) (w : World) : Prop :=
  ∃ v σ' ρ' I' cv, chain = [{ v := cv, recovered := false }] ∧ VRel ρ' I' v cv ∧ Rel B w0 ρ' I' σ' w ∧ Ext ρ I σ ρ' I' σ' ∧ T v σ'
theorem LiftT.ext {B : Nat} {w0 : Root} {ρ ρ1 : Rho} {I I1 : Imm} {σ σ1 : St} {T : AVal → St → Prop} {chain : List PanicEntry} {w : World} (e : Ext ρ I σ ρ1 I1 σ1) (h : LiftT B w0 ρ1 I1 σ1 T chain w) : LiftT B w0 ρ I σ T chain w := by
  obtain ⟨v, σ', ρ', I', cv, h1, h2, h3, h4, h5⟩ := h
  exact ⟨v, σ', ρ', I', cv, h1, h2, h3, e.trans h4, h5⟩
theorem LiftT.no {B : Nat} {w0 : Root} {ρ : Rho} {I : Imm} {σ : St} {P : Program} {chain : List PanicEntry} {w : World} (h : LiftT B w0 ρ I σ (Env.of P).thr chain w) : False := by
  obtain ⟨_, _, _, _, _, _, _, _, _, h⟩ := h
  exact h

/-- A later root. -/
structure Root.le (w0 w1 : Root) : Prop where
  w : w1.w = w0.w
  adm : w1.adm = w0.adm
  mkd : ∀ b, w0.mkd b → w1.mkd b
theorem Root.le.refl (w0 : Root) : w0.le w0 := ⟨rfl, rfl, fun _ h => h⟩
theorem Root.le.trans {a b c : Root} (h : a.le b) (k : b.le c) : a.le c := ⟨k.w.trans h.w, k.adm.trans h.adm, fun x hx => k.mkd x (h.mkd x hx)⟩
theorem Root.le.ds (w0 : Root) (l : List Deferred) : w0.le { w0 with ds := l } := ⟨rfl, rfl, fun _ h => h⟩
theorem Root.le.ofDs {w0 w1 : Root} {l : List Deferred} (h : Root.le { w0 with ds := l } w1) : w0.le w1 := ⟨h.w, h.adm, h.mkd⟩

/-- What a call gives back. -/
def RetOf (B : Nat) (w0 : Root) (ρ : Rho) (I : Imm) (σ : St) (Q : AVal → St → Prop) (e : Ending) (w : World) : Prop :=
  ∃ v σ' ρ' I' cv, e = .returned cv ∧ VRel ρ' I' v cv ∧ Rel B w0 ρ' I' σ' w ∧ Ext ρ I σ ρ' I' σ' ∧ Q v σ'

/-- Handing a round over does what it is said to do. -/
def YOk (P : Env) (B : Nat) (w0 : Root) (ρ : Rho) (I : Imm) : Prop :=
  ∀ (w1 : Root) (ρ1 : Rho) (I1 : Imm) (σ : St) (w : World) (a : Nat) (vs : List AVal) (cvs : Array Value) (p : Place) (K : AVal → St → Prop), w0.le w1 → RLe ρ ρ1 → ILe I I1 → Rel B w1 ρ1 I1 σ w → ρ1 a = some p → cvs.size = vs.length → CRel ρ1 I1 vs (fun j => cvs[j]?) → P.yld a vs σ K →
    ∃ fn tmps assign body, (Instr.yield p.b cvs).run P.prog w = .ok (.round p.b fn tmps assign body) w ∧ RoundIn Fence.wide 0 P.prog p.b fn tmps assign body w (RetOf B w1 ρ1 I1 σ K)
theorem YOk.no {P : Env} {B : Nat} {w0 : Root} {ρ : Rho} {I : Imm} (h : ∀ a vs σ K, ¬ P.yld a vs σ K) : YOk P B w0 ρ I := fun _ _ _ _ _ _ _ _ _ _ _ _ _ _ _ _ _ hy => (h _ _ _ _ hy).elim
theorem YOk.of (P : Program) (B : Nat) (w0 : Root) (ρ : Rho) (I : Imm) : YOk (Env.of P) B w0 ρ I := .no fun _ _ _ _ h => h
theorem YOk.th (P : Program) (T : AVal → St → Prop) (B : Nat) (w0 : Root) (ρ : Rho) (I : Imm) : YOk (Env.th P T) B w0 ρ I := .no fun _ _ _ _ h => h
theorem YOk.mono {P : Env} {B : Nat} {w0 w1 : Root} {ρ ρ' : Rho} {I I' : Imm} (h : YOk P B w0 ρ I) (hw : w0.le w1) (h1 : RLe ρ ρ') (h2 : ILe I I') : YOk P B w1 ρ' I' :=
  fun w2 ρ1 I1 σ w a vs cvs p K k0 k1 k2 => h w2 ρ1 I1 σ w a vs cvs p K (hw.trans k0) (h1.trans k1) (h2.trans k2)
theorem YOk.ext {P : Env} {B : Nat} {w0 w1 : Root} {ρ ρ' : Rho} {I I' : Imm} {σ σ' : St} {w : World} (h : YOk P B w0 ρ I) (e : Ext ρ I σ ρ' I' σ') (r : Rel B w1 ρ I σ w) : YOk P B w0 ρ' I' := h.mono (.refl _) (e.rle r) e.imm

def ACall (P : Env) (f : FuncId) (args : List AVal) (σ : St) (Q : AVal → St → Prop) : Prop :=
  Enterable P.prog f ∧ ∀ B w0 ρ I w cargs, Rel B w0 ρ I σ w → YOk P B w0 ρ I → cargs.size = args.length → CRel ρ I args (fun j => cargs[j]?) →
    Calls P.prog f cargs w fun e w' => RetOf B w0 ρ I σ Q e w' ∨ ∃ chain, e = .panicked chain ∧ LiftT B w0 ρ I σ P.thr chain w'

theorem ACall.mono {P : Env} {f : FuncId} {args : List AVal} {σ : St} {Q Q' : AVal → St → Prop} (h : ACall P f args σ Q) (hq : ∀ v σ', Q v σ' → Q' v σ') : ACall P f args σ Q' :=
  ⟨h.1, fun B w0 ρ I w cargs r hY h1 h2 => (h.2 B w0 ρ I w cargs r hY h1 h2).mono fun e w' hh => by
    rcases hh with ⟨v, σ', ρ', I', cv, a, b, c, d, q⟩ | hh
    · exact .inl ⟨v, σ', ρ', I', cv, a, b, c, d, hq _ _ q⟩
    · exact .inr hh⟩
/-- What throws nothing may be called where something may be thrown. -/
theorem ACall.into {P : Env} {f : FuncId} {args : List AVal} {σ : St} {Q : AVal → St → Prop} (h : ACall (Env.of P.prog) f args σ Q) : ACall P f args σ Q :=
  ⟨h.1, fun B w0 ρ I w cargs r _ h1 h2 => (h.2 B w0 ρ I w cargs r (YOk.of _ _ _ _ _) h1 h2).mono fun e w' hh => by
    rcases hh with hh | ⟨chain, _, hh⟩
    · exact .inl hh
    · exact hh.no.elim⟩
theorem ACall.up {P : Program} {T : AVal → St → Prop} {f : FuncId} {args : List AVal} {σ : St} {Q : AVal → St → Prop} (h : ACall (Env.of P) f args σ Q) : ACall (Env.th P T) f args σ Q := ACall.into (P := Env.th P T) h
/-- What hands no round over may be called where rounds may be handed over. -/
theorem ACall.ofMute {P : Env} {f : FuncId} {args : List AVal} {σ : St} {Q : AVal → St → Prop} (h : ACall P.mute f args σ Q) : ACall P f args σ Q :=
  ⟨h.1, fun B w0 ρ I w cargs r _ h1 h2 => h.2 B w0 ρ I w cargs r (YOk.no fun _ _ _ _ h => h) h1 h2⟩
/-- Of a program that throws nothing it returns. -/
theorem ACall.calls {P : Program} {f : FuncId} {args : List AVal} {σ : St} {Q : AVal → St → Prop} (h : ACall (Env.of P) f args σ Q) : ∀ B w0 ρ I w cargs, Rel B w0 ρ I σ w → cargs.size = args.length → CRel ρ I args (fun j => cargs[j]?) →
    Calls P f cargs w fun e w' => ∃ v σ' ρ' I' cv, e = .returned cv ∧ VRel ρ' I' v cv ∧ Rel B w0 ρ' I' σ' w' ∧ Ext ρ I σ ρ' I' σ' ∧ Q v σ' :=
  fun B w0 ρ I w cargs r h1 h2 => (h.2 B w0 ρ I w cargs r (YOk.of _ _ _ _ _) h1 h2).mono fun e w' hh => by
    rcases hh with hh | ⟨chain, _, hh⟩
    · exact hh
    · exact hh.no.elim
theorem ACall.ofCalls {P : Program} {f : FuncId} {args : List AVal} {σ : St} {Q : AVal → St → Prop} (he : Enterable P f) (h : ∀ B w0 ρ I w cargs, Rel B w0 ρ I σ w → cargs.size = args.length → CRel ρ I args (fun j => cargs[j]?) →
    Calls P f cargs w fun e w' => ∃ v σ' ρ' I' cv, e = .returned cv ∧ VRel ρ' I' v cv ∧ Rel B w0 ρ' I' σ' w' ∧ Ext ρ I σ ρ' I' σ' ∧ Q v σ') : ACall (Env.of P) f args σ Q :=
  ⟨he, fun B w0 ρ I w cargs r _ h1 h2 => (h B w0 ρ I w cargs r h1 h2).mono fun e w' hh => .inl hh⟩

def AIns.wp (P : Env) (i : AIns) (r : Regs) (σ : St) (Q : AVal → St → Prop) : Prop :=
  match i with
  | .op o => match (o.mapM (evalOpd r)).bind (evalV σ) with
    | some (v, σ') => Q v σ'
    | none => False
  | .pick c a b => match evalOpd r c with
    | some (.bool t) => match (if t then evalOpd r a else evalOpd r b) with
      | some v => Q v σ
      | none => False
    | _ => False
  | .call f args => match evalOpd r f with
    | some (.fn f first caps) => match listM (evalOpd r) args with
      | some vs => ACall P f (first ++ vs ++ caps) σ Q
      | none => False
    | some (.yld a) => match listM (evalOpd r) args with
      | some vs => ∃ K, P.yld a vs σ K ∧ ∀ v σ, K v σ → Q v σ
      | none => False
    | _ => False
  | .next x => match (evalOpd r x).bind (nextC σ) with
    | some l => ∀ p ∈ l, Q p.1 p.2
    | none => False
  | .panic x => match evalOpd r x with
    | some (.iface t v) => P.thr (.iface t v) σ
    | _ => False

def rwp (P : Env) : List AOper → Regs → St → (Regs → St → Prop) → Prop
  | [], r, σ, Q => Q r σ
  | o :: rest, r, σ, Q => match o.guard with
    | none => o.ins.wp P r σ fun v σ' => rwp P rest (setR r o.dst v) σ' Q
    | some (t, want) => match r.lookup t with
      | some (.bool b) => if b = want then o.ins.wp P r σ fun v σ' => rwp P rest (setR r o.dst v) σ' Q else rwp P rest (delU r o.dst) σ Q
      | some (.tup []) => rwp P rest (delU r o.dst) σ Q
      | _ => False

/-- What was read, if it is read again. -/
abbrev Hist := List (St → Prop)

def again (h : Hist) (σ : St) : List Nat → Prop
  | [] => True
  | i :: is => (match h[i]? with
    | some p => p σ
    | none => False) ∧ again h σ is

def histOf (i : AIns) (r : Regs) (σ : St) (σ' : St) : Prop :=
  match i with
  | .op o => match o.mapM (evalOpd r) with
    | some av => (evalV σ' av).map (·.1) = (evalV σ av).map (·.1)
    | none => True
  | _ => True

def dwp (P : Env) : List (AOper × List Nat) → Regs → St → Hist → (Regs → St → Prop) → Prop
  | [], r, σ, _, Q => Q r σ
  | p :: rest, r, σ, h, Q => match p.1.guard with
    | none => p.1.ins.wp P r σ fun v σ' => again h σ' p.2 ∧ dwp P rest (setR r p.1.dst v) σ' (h ++ [histOf p.1.ins r σ]) Q
    | some (t, want) => match r.lookup t with
      | some (.bool b) => if b = want then p.1.ins.wp P r σ fun v σ' => again h σ' p.2 ∧ dwp P rest (setR r p.1.dst v) σ' (h ++ [histOf p.1.ins r σ]) Q
        else dwp P rest (delU r p.1.dst) σ (h ++ [fun _ : St => True]) Q
      | some (.tup []) => dwp P rest (delU r p.1.dst) σ (h ++ [fun _ : St => True]) Q
      | _ => False

abbrev Post := AExit → Regs → St → Prop

/-- What a round takes over. -/
def bindP : List Nat → List AVal → Regs → Regs
  | p :: ps, v :: vs, r => bindP ps vs ((p, v) :: r)
  | _, _, r => r

/-- What must hold at a round's end. -/
def roundQ (a0 : Nat) (rec : Loop) (K : AVal → St → Prop) : Post := fun e _ σ => σ.mem.get a0 = some (.loop { rec with state := .busy }) ∧ match e with
  | .normal => K (.bool true) ⟨σ.mem.set a0 (.loop rec), σ.next⟩
  | .exit id => K (.bool false) ⟨σ.mem.set a0 (.loop { rec with state := .done, pending := some (.exit id) }), σ.next⟩
  | .ret => K (.bool false) ⟨σ.mem.set a0 (.loop { rec with state := .done, pending := some .ret }), σ.next⟩

/-- What handing a round over does. -/
def roundY (A C : Post → Regs → St → Prop) (a0 : Nat) (rec : Loop) (ps : List Nat) (r0 : Regs) : Nat → List AVal → St → (AVal → St → Prop) → Prop := fun a vs σ K =>
  a = a0 ∧ vs.length = ps.length ∧ σ.mem.get a0 = some (.loop rec) ∧
  A (fun e r σ => e = .normal ∧ σ.mem.get a0 = some (.loop rec) ∧ C (roundQ a0 rec K) r ⟨σ.mem.set a0 (.loop { rec with state := .busy }), σ.next⟩) (bindP ps vs r0) σ

/-- What is done when the rounds are over. -/
def afterQ (Q : Post) (r : Regs) (σ : St) : Option Code → Prop
  | none => Q .normal r σ
  | some (.exit id) => Q (.exit id) r σ
  | some .ret => Q .ret r σ
  | _ => False

def ACode.wp : Env → ACode → Post → Regs → St → Prop
  | P, .skip, Q, r, σ => Q .normal r σ
  | P, .reg keep ops, Q, r, σ => rwp P ops r σ fun r σ => Q .normal (norm keep r) σ
  | P, .dreg keep ops, Q, r, σ => dwp P.mute ops r σ [] fun r σ => Q .normal (norm keep r) σ
  | P, .seq a b, Q, r, σ => a.wp P (fun e r σ => match e with
    | .normal => b.wp P Q r σ
    | e => Q e r σ) r σ
  | P, .cond c a b, Q, r, σ => match evalOpd r c with
    | some (.bool t) => if t then a.wp P Q r σ else b.wp P Q r σ
    | _ => False
  | P, .block id a, Q, r, σ => a.wp P (fun e r σ => match e with
    | .exit j => if j = id then Q .normal r σ else Q (.exit j) r σ
    | e => Q e r σ) r σ
  | P, .loop keep a, Q, r, σ => ∃ (J : Nat → Regs → St → Prop) (n : Nat), J n (norm keep r) σ ∧ ∀ m r σ, J m r σ → a.wp P (fun e r σ => match e with
    | .normal => ∃ m', m' < m ∧ J m' (norm keep r) σ
    | e => Q e r σ) r σ
  | P, .exit id, Q, r, σ => Q (.exit id) r σ
  | P, .ret, Q, r, σ => Q .ret r σ
  | P, .rangef f ps a b, Q, r, σ => match evalOpd r f with
    | some (.fn g first caps) => ∀ rec : Loop, rec.state = .ready → rec.pending = none →
        ACall ⟨P.prog, fun _ _ => False, roundY (a.wp (Env.of P.prog)) (b.wp (Env.of P.prog)) σ.next rec ps r⟩ g (first ++ [.yld σ.next] ++ caps) ⟨σ.mem.set σ.next (.loop rec), σ.next + 1⟩
          (fun _ σ' => ∃ rec', σ'.mem.get σ.next = some (.loop rec') ∧ rec'.state ≠ .busy ∧ afterQ Q r ⟨σ'.mem.del σ.next, σ'.next⟩ rec'.pending)
    | _ => False

/-! ### The model's code told as the machine's -/

structure Hints where
  keep : List (Nat × List Nat)
  lkeep : List (Nat × List Nat)
  perm : List (Nat × List (Nat × List Nat))

def compIns (P : Program) (o : Oper) : Option AIns :=
  match o.op with
  | .pick c a b => (compOpd c).bind fun c => (compOpd a).bind fun a => (compOpd b).map fun b => .pick c a b
  | .call { callee := .value f, args, .. } => (compOpd f).bind fun f => (listM compOpd args.toList).map fun vls => .call f vls
  | .next x false => (compOpd x).map .next
  | .panic x => (compOpd x).map .panic
  | op => (compOp2 P op).bind fun ao => if ao.isSt && o.dst.isSome then none else some (.op ao)

def compOper (P : Program) (nt : Nat) (ops : List Oper) (o : Oper) : Option AOper :=
  (compIns P o).bind fun i =>
    if (match o.dst with
      | some d => decide (d < nt)
      | none => true) then
      match o.guard with
      | none => some ⟨o.dst, i, none⟩
      | some (j, w) => ((ops[j]?).bind (·.dst)).map fun t => ⟨o.dst, i, some (t, w)⟩
    else none

def firstReg : Code → Option Nat
  | .region id _ _ => some id
  | .seq a b => match firstReg a with
    | some i => some i
    | none => firstReg b
  | .block _ b => firstReg b
  | .loop b => firstReg b
  | .cond _ a _ => firstReg a
  | _ => none

/-! ### That they do alike -/

section
variable {P : Env} {B : Nat} {w0 : Root} {w : World} {ρ : Rho} {I : Imm} {σ : St}

theorem RegsRel.ext {ρ' : Rho} {I' : Imm} {σ' : St} {r : Regs} {tmps : Array Value} (h : RegsRel ρ I r tmps) (e : Ext ρ I σ ρ' I' σ') (rl : Rel B w0 ρ I σ w) : RegsRel ρ' I' r tmps :=
  fun t v hv => let ⟨cv, h1, h2⟩ := h t v hv; ⟨cv, h1, h2.ext e rl⟩

theorem RegsRel.set {r : Regs} {a : Act} {d : Option Nat} {v : AVal} {cv : Value} (h : RegsRel ρ I r a.tmps) (hv : VRel ρ I v cv) (hd : ∀ x, d = some x → x < a.tmps.size) : RegsRel ρ I (setR r d v) (a.put d cv).tmps := by
  cases d with
  | none => exact h
  | some x =>
    intro t u hu
    simp only [setR, List.lookup] at hu
    simp only [Act.put]
    by_cases ht : t = x
    · subst ht
      simp at hu; subst hu
      exact ⟨cv, by rw [Array.getElem?_setIfInBounds_self]; simp [hd t rfl], hv⟩
    · have : (t == x) = false := by simpa using ht
      rw [this] at hu
      obtain ⟨cu, h1, h2⟩ := h t u hu
      exact ⟨cu, by rw [Array.getElem?_setIfInBounds_ne (fun e => ht e.symm)]; exact h1, h2⟩

theorem lookup_filter_ne (r : Regs) (d t : Nat) : (r.filter fun x => x.1 ≠ d).lookup t = if t = d then none else r.lookup t := by
  induction r with
  | nil => simp
  | cons x r ih =>
    obtain ⟨k, y⟩ := x
    by_cases hk : k = d
    · subst hk
      simp only [List.filter_cons, ne_eq, not_true_eq_false, decide_false, Bool.false_eq_true, if_false]
      simp only [ne_eq] at ih
      rw [ih]
      by_cases h : t = k
      · simp [h]
      · have : (t == k) = false := by simpa using h
        simp [h, List.lookup, this]
    · simp only [List.filter_cons, ne_eq, hk, not_false_eq_true, decide_true, if_true, List.lookup]
      simp only [ne_eq] at ih
      by_cases h : t = k
      · subst h; simp [hk]
      · have : (t == k) = false := by simpa using h
        simp only [this]; exact ih

theorem RegsRel.del {r : Regs} {a : Act} {d : Option Nat} {cv : Value} (h : RegsRel ρ I r a.tmps) : RegsRel ρ I (delR r d) (a.put d cv).tmps := by
  cases d with
  | none => exact h
  | some x =>
    intro t u hu
    simp only [delR] at hu
    rw [lookup_filter_ne] at hu
    split at hu
    · cases hu
    · rename_i ht
      obtain ⟨cu, h1, h2⟩ := h t u hu
      exact ⟨cu, by simp only [Act.put]; rw [Array.getElem?_setIfInBounds_ne (fun e => ht e.symm)]; exact h1, h2⟩

theorem lookup_norm (r : Regs) (t : Nat) (v : AVal) : ∀ keep : List Nat, (norm keep r).lookup t = some v → r.lookup t = some v := by
  intro keep
  induction keep with
  | nil => intro h; simp [norm] at h
  | cons k ks ih =>
    intro h
    simp only [norm, List.filterMap_cons] at h ih
    cases hk : r.lookup k with
    | none => rw [hk] at h; exact ih h
    | some u =>
      rw [hk] at h
      simp only [Option.map_some, List.lookup] at h
      by_cases e : t = k
      · subst e; simp at h; subst h; exact hk
      · have : (t == k) = false := by simpa using e
        rw [this] at h; exact ih h

theorem RegsRel.norm {r : Regs} {tmps : Array Value} (h : RegsRel ρ I r tmps) (keep : List Nat) : RegsRel ρ I (norm keep r) tmps :=
  fun t v hv => h t v (lookup_norm r t v keep hv)

theorem size_put (a : Act) (d : Option Tmp) (v : Value) : (a.put d v).tmps.size = a.tmps.size := by
  cases d <;> simp [Act.put]
theorem defers_put (a : Act) (d : Option Tmp) (v : Value) : (a.put d v).defers = a.defers := by
  cases d <;> rfl

/-- What becomes of a frame and of the world. -/
def Lift (nt : Nat) (B : Nat) (w0 : Root) (ρ : Rho) (I : Imm) (σ : St) (Q : Regs → St → Prop) (a : Act) (w : World) : Prop :=
  ∃ r σ' ρ' I', a.defers = w0.ds ∧ a.tmps.size = nt ∧ Rel B w0 ρ' I' σ' w ∧ RegsRel ρ' I' r a.tmps ∧ Ext ρ I σ ρ' I' σ' ∧ Q r σ'

theorem Lift.ext {nt : Nat} {ρ1 : Rho} {I1 : Imm} {σ1 : St} {Q : Regs → St → Prop} {a : Act} {w : World} (e : Ext ρ I σ ρ1 I1 σ1) (h : Lift nt B w0 ρ1 I1 σ1 Q a w) : Lift nt B w0 ρ I σ Q a w := by
  obtain ⟨r, σ', ρ', I', h1, h2, h3, h4, h5, h6⟩ := h
  exact ⟨r, σ', ρ', I', h1, h2, h3, h4, e.trans h5, h6⟩

/-- One instruction. -/
theorem ins_sound (hmu : ∀ a vs σ K, ¬ P.yld a vs σ K) {o : Oper} {ins : AIns} (hc : compIns P.prog o = some ins) {r : Regs} {a : Act} {Q : AVal → St → Prop} {E : Exit → Act → World → Prop} (hwp : ins.wp P r σ Q) (hr : RegsRel ρ I r a.tmps) (rl : Rel B w0 ρ I σ w)
    {next : Act → World → Prop} (hn : ∀ v σ' ρ' I' cv w', Q v σ' → VRel ρ' I' v cv → Rel B w0 ρ' I' σ' w' → Ext ρ I σ ρ' I' σ' → next (a.put o.dst cv) w')
    (hn0 : ∀ v σ' ρ' I' w', o.dst = none → Q v σ' → Rel B w0 ρ' I' σ' w' → Ext ρ I σ ρ' I' σ' → next a w') (hT : ∀ chain w', LiftT B w0 ρ I σ P.thr chain w' → E (.panic chain) a w') : o.wp P.prog a w next E := by
  unfold compIns at hc
  split at hc
  · -- pick
    rename_i c x y hop
    simp only [Option.bind_eq_some_iff, Option.map_eq_some_iff] at hc
    obtain ⟨c', h1, x', h2, y', h3, rfl⟩ := hc
    simp only [AIns.wp] at hwp
    split at hwp
    · rename_i t hb
      have e1 := opd_sound rl.gok hr h1 hb
      simp only [VRel] at e1
      split at hwp
      · rename_i v hv
        unfold Oper.wp execOp
        simp only [hop, Sem.run_bind, e1, asBool, Sem.run_pure, Result.andThen_ok, Oper.upon]
        cases t
        · exact hn v σ ρ I _ w hwp (opd_sound rl.gok hr h3 (by simpa using hv)) rl (Ext.refl _ _ _)
        · exact hn v σ ρ I _ w hwp (opd_sound rl.gok hr h2 (by simpa using hv)) rl (Ext.refl _ _ _)
      · exact hwp.elim
    · exact hwp.elim
  · -- a call
    rename_i f args ts hop
    simp only [Option.bind_eq_some_iff, Option.map_eq_some_iff] at hc
    obtain ⟨f', h1, vls, h2, rfl⟩ := hc
    simp only [AIns.wp] at hwp
    split at hwp
    · rename_i g first caps hf
      split at hwp
      · rename_i vs hvs
        have e1 := opd_sound rl.gok hr h1 hf
        simp only [VRel] at e1
        obtain ⟨xs', ys', e2, e3, e4, e5, e6⟩ := e1
        obtain ⟨e7', e8⟩ := listM_rel rl.gok hr h2 hvs
        have e7 : vs.length = args.size := by simpa using e7'
        obtain ⟨hent, hcall⟩ := hwp
        have hargs : CRel ρ I (first ++ vs ++ caps) (fun j => (xs' ++ args.map a.eval ++ ys')[j]?) := CRel.mk fun j v hv => by
          by_cases hj : j < (first ++ vs).length
          · rw [List.getElem?_append_left hj] at hv
            rw [Array.getElem?_append_left (by simp at hj ⊢; omega)]
            by_cases hj2 : j < first.length
            · rw [List.getElem?_append_left hj2] at hv
              rw [Array.getElem?_append_left (by omega)]
              exact e5.get j v hv
            · rw [List.getElem?_append_right (by omega)] at hv
              rw [Array.getElem?_append_right (by omega)]
              have := e8.get _ v hv
              rw [e3]; simpa using this
          · rw [List.getElem?_append_right (by omega)] at hv
            simp only [List.length_append] at hj hv
            rw [Array.getElem?_append_right (by simp; omega)]
            have := e6.get _ v hv
            have he : j - (xs' ++ args.map a.eval).size = j - (first.length + vs.length) := by
              simp only [Array.size_append, Array.size_map, e3, e7]
            rw [he]; exact this
        have := hcall B w0 ρ I w (xs' ++ args.map a.eval ++ ys') rl (.no hmu) (by simp only [Array.size_append, Array.size_map, List.length_append, e3, e4, e7]) hargs
        unfold Oper.wp execOp
        simp only [hop, resolve, Sem.run_bind, e2, Deferred.ofValue, Sem.run_pure, Result.andThen_ok, invoke]
        rw [hent (xs' ++ args.map a.eval ++ ys') w]
        simp only [Oper.upon]
        refine this.mono ?_
        rintro e w' (⟨v, σ', ρ', I', cv, rfl, b1, b2, b3, b4⟩ | ⟨chain, rfl, hh⟩)
        · exact hn v σ' ρ' I' cv w' b4 b1 b2 b3
        · exact hT chain w' hh
      · exact hwp.elim
    · split at hwp
      · exact (hmu _ _ _ _ hwp.choose_spec.1).elim
      · exact hwp.elim
    · exact hwp.elim
  · -- a step of an iterator
    rename_i x hop
    simp only [Option.map_eq_some_iff] at hc
    obtain ⟨x', h1, rfl⟩ := hc
    simp only [AIns.wp] at hwp
    split at hwp
    · rename_i l hev
      simp only [Option.bind_eq_some_iff] at hev
      obtain ⟨xv, h2, h3⟩ := hev
      obtain ⟨p, hp, cv, w', ρ', I', g1, g2, g3, g4⟩ := next_sound (P := P.prog) rl h3 (opd_sound rl.gok hr h1 h2) o.type
      unfold Oper.wp execOp
      simp only [hop, Sem.run_bind, g1, Result.andThen_ok, Sem.run_pure, Oper.upon]
      exact hn _ _ ρ' I' cv w' (hwp p hp) g2 g3 g4
    · exact hwp.elim
  · -- something is thrown
    rename_i x hop
    simp only [Option.map_eq_some_iff] at hc
    obtain ⟨x', h1, rfl⟩ := hc
    simp only [AIns.wp] at hwp
    split at hwp
    · rename_i t v hev
      have e1 := opd_sound rl.gok hr h1 hev
      have e2 := e1
      simp only [VRel] at e1
      obtain ⟨x2, e3, _⟩ := e1
      unfold Oper.wp execOp
      simp only [hop, Sem.run_bind, e3, Instr.panic]
      rw [show Sem.run P.prog (goPanic (Value.iface t x2) : Sem Value) w = .halt (.panic (Value.iface t x2)) w from rfl]
      exact hT _ w ⟨.iface t v, σ, ρ, I, Value.iface t x2, rfl, by rw [← e3]; exact e2, rl, Ext.refl _ _ _, hwp⟩
    · exact hwp.elim
  · -- an operation
    simp only [Option.bind_eq_some_iff] at hc
    obtain ⟨ao, h1, h2⟩ := hc
    split at h2
    · cases h2
    · rename_i hst
      injection h2 with h2; subst h2
      simp only [AIns.wp] at hwp
      split at hwp
      · rename_i v σ' hev
        simp only [Option.bind_eq_some_iff] at hev
        obtain ⟨av, h3, h4⟩ := hev
        obtain ⟨w', ρ', I', g1, g2, g3⟩ := op_sound2 (P := P.prog) h1 h3 h4 hr rl
        unfold Oper.wp
        rcases g3 with ⟨cv, g3, g4⟩ | ⟨g3, g4⟩
        · rw [g3]; simp only [Oper.upon]
          exact hn v σ' ρ' I' cv w' hwp g4 g1 g2
        · rw [g4]; simp only [Oper.upon]
          have hd : o.dst = none := by
            cases hdd : o.dst with
            | none => rfl
            | some x => simp [g3, hdd] at hst
          rw [hd]
          exact hn0 v σ' ρ' I' w' hd hwp g1 g2
      · exact hwp.elim

/-- All functions, and any depth. -/
abbrev wideR (ro : Option Nat) : Fence := { Fence.wide with round := ro }
theorem stepsIn_wideR {ro : Option Nat} {P : Program} {m m' : Machine} : StepsIn (Machine.fenced P (wideR ro)) P m m' ↔ Steps P m m' := stepsIn_wide
theorem comesIn_wideR {ro : Option Nat} {P : Program} {m m' : Machine} {e : Ending} : ComesIn (Machine.fenced P (wideR ro)) P m m' e ↔ Comes P m m' e := comesIn_wide
theorem room_wideR {ro : Option Nat} (n : Nat) : (wideR ro).room n := room_wide n
theorem callsIn_wideR {ro : Option Nat} {n : Nat} {P : Program} {f : FuncId} {args : Array Value} {w : World} {R : Ending → World → Prop} : CallsIn (wideR ro) n P f args w R ↔ Calls P f args w R :=
  ⟨fun h cs => let ⟨e, w', fr, r, s, x⟩ := h.2 cs (room_wideR _); ⟨e, w', fr, r, comesIn_wideR.1 s, x⟩,
   fun h => ⟨trivial, fun cs _ => let ⟨e, w', fr, r, s, x⟩ := h cs; ⟨e, w', fr, r, comesIn_wideR.2 s, x⟩⟩⟩
theorem roundIn_wideR {ro : Option Nat} {n m : Nat} {P : Program} {l : Nat} {f : FuncId} {tmps : Array Value} {x y : Code} {w : World} {R : Ending → World → Prop} : RoundIn (wideR ro) n P l f tmps x y w R ↔ RoundIn Fence.wide m P l f tmps x y w R :=
  ⟨fun h => ⟨trivial, fun c cs _ => h.2 c cs (room_wideR _)⟩, fun h => ⟨trivial, fun c cs _ => h.2 c cs (room_wide _)⟩⟩

/-- One instruction, where rounds may be handed over. -/
theorem ins_soundIn {ro : Option Nat} {nn : Nat} (hY : YOk P B w0 ρ I) {o : Oper} {ins : AIns} (hc : compIns P.prog o = some ins) {r : Regs} {a : Act} {Q : AVal → St → Prop} {E : Exit → Act → World → Prop} (hwp : ins.wp P r σ Q) (hr : RegsRel ρ I r a.tmps) (rl : Rel B w0 ρ I σ w)
    {next : Act → World → Prop} (hn : ∀ v σ' ρ' I' cv w', Q v σ' → VRel ρ' I' v cv → Rel B w0 ρ' I' σ' w' → Ext ρ I σ ρ' I' σ' → next (a.put o.dst cv) w')
    (hn0 : ∀ v σ' ρ' I' w', o.dst = none → Q v σ' → Rel B w0 ρ' I' σ' w' → Ext ρ I σ ρ' I' σ' → next a w') (hT : ∀ chain w', LiftT B w0 ρ I σ P.thr chain w' → E (.panic chain) a w') : o.wpIn (wideR ro) nn P.prog a w next E := by
  refine ⟨fun _ _ => trivial, ?_⟩
  have hnd : ∀ c, o.op ≠ .defer c := by
    intro c hop
    unfold compIns at hc
    rw [hop] at hc
    have h1 : compOp2 P.prog (.defer c) = some .stuck := rfl
    simp only [h1, Option.bind_some] at hc
    split at hc
    · cases hc
    · injection hc with hc; subst hc
      simp [AIns.wp, AOp.mapM, evalV] at hwp
  show o.uponIn (wideR ro) nn P.prog a next E ((o.semAt ro a.eval).run P.prog w)
  rw [Oper.semAt_eq ro a.eval o hnd]
  unfold compIns at hc
  split at hc
  · -- pick
    rename_i c x y hop
    simp only [Option.bind_eq_some_iff, Option.map_eq_some_iff] at hc
    obtain ⟨c', h1, x', h2, y', h3, rfl⟩ := hc
    simp only [AIns.wp] at hwp
    split at hwp
    · rename_i t hb
      have e1 := opd_sound rl.gok hr h1 hb
      simp only [VRel] at e1
      split at hwp
      · rename_i v hv
        unfold execOp
        simp only [hop, Sem.run_bind, e1, asBool, Sem.run_pure, Result.andThen_ok, Oper.uponIn]
        cases t
        · exact hn v σ ρ I _ w hwp (opd_sound rl.gok hr h3 (by simpa using hv)) rl (Ext.refl _ _ _)
        · exact hn v σ ρ I _ w hwp (opd_sound rl.gok hr h2 (by simpa using hv)) rl (Ext.refl _ _ _)
      · exact hwp.elim
    · exact hwp.elim
  · -- a call
    rename_i f args ts hop
    simp only [Option.bind_eq_some_iff, Option.map_eq_some_iff] at hc
    obtain ⟨f', h1, vls, h2, rfl⟩ := hc
    simp only [AIns.wp] at hwp
    split at hwp
    · rename_i g first caps hf
      split at hwp
      · rename_i vs hvs
        have e1 := opd_sound rl.gok hr h1 hf
        simp only [VRel] at e1
        obtain ⟨xs', ys', e2, e3, e4, e5, e6⟩ := e1
        obtain ⟨e7', e8⟩ := listM_rel rl.gok hr h2 hvs
        have e7 : vs.length = args.size := by simpa using e7'
        obtain ⟨hent, hcall⟩ := hwp
        have hargs : CRel ρ I (first ++ vs ++ caps) (fun j => (xs' ++ args.map a.eval ++ ys')[j]?) := CRel.mk fun j v hv => by
          by_cases hj : j < (first ++ vs).length
          · rw [List.getElem?_append_left hj] at hv
            rw [Array.getElem?_append_left (by simp at hj ⊢; omega)]
            by_cases hj2 : j < first.length
            · rw [List.getElem?_append_left hj2] at hv
              rw [Array.getElem?_append_left (by omega)]
              exact e5.get j v hv
            · rw [List.getElem?_append_right (by omega)] at hv
              rw [Array.getElem?_append_right (by omega)]
              have := e8.get _ v hv
              rw [e3]; simpa using this
          · rw [List.getElem?_append_right (by omega)] at hv
            simp only [List.length_append] at hj hv
            rw [Array.getElem?_append_right (by simp; omega)]
            have := e6.get _ v hv
            have he : j - (xs' ++ args.map a.eval).size = j - (first.length + vs.length) := by
              simp only [Array.size_append, Array.size_map, e3, e7]
            rw [he]; exact this
        have := hcall B w0 ρ I w (xs' ++ args.map a.eval ++ ys') rl hY (by simp only [Array.size_append, Array.size_map, List.length_append, e3, e4, e7]) hargs
        unfold execOp
        simp only [hop, resolve, Sem.run_bind, e2, Deferred.ofValue, Sem.run_pure, Result.andThen_ok, invoke]
        rw [hent (xs' ++ args.map a.eval ++ ys') w]
        simp only [Oper.uponIn]
        refine ⟨fun h => (by cases h), callsIn_wideR.2 (this.mono ?_)⟩
        rintro e w' (⟨v, σ', ρ', I', cv, rfl, b1, b2, b3, b4⟩ | ⟨chain, rfl, hh⟩)
        · exact hn v σ' ρ' I' cv w' b4 b1 b2 b3
        · exact hT chain w' hh
      · exact hwp.elim
    · rename_i l hf
      split at hwp
      · rename_i vs hvs
        obtain ⟨K, hwp, hKQ⟩ := hwp
        have e1 := opd_sound rl.gok hr h1 hf
        simp only [VRel] at e1
        obtain ⟨p, e2, e3⟩ := e1
        obtain ⟨e7', e8⟩ := listM_rel rl.gok hr h2 hvs
        have e7 : args.size = vs.length := by simpa using e7'.symm
        obtain ⟨fn, tmps, as2, body, y1, y2⟩ := hY w0 ρ I σ w l vs (args.map a.eval) p K (.refl _) (.refl _) (.refl _) rl e2 (by simpa using e7) (by simpa using e8) hwp
        unfold execOp
        simp only [hop, resolve, Sem.run_bind, e3, Deferred.ofValue, Sem.run_pure, Result.andThen_ok, invoke]
        simp only [Array.empty_append, Array.append_empty, y1, Oper.uponIn]
        refine ⟨fun h => (by cases h), roundIn_wideR.2 (y2.mono ?_)⟩
        rintro e w' ⟨v, σ', ρ', I', cv, rfl, b1, b2, b3, b4⟩
        exact hn v σ' ρ' I' cv w' (hKQ _ _ b4) b1 b2 b3
      · exact hwp.elim
    · exact hwp.elim
  · -- a step of an iterator
    rename_i x hop
    simp only [Option.map_eq_some_iff] at hc
    obtain ⟨x', h1, rfl⟩ := hc
    simp only [AIns.wp] at hwp
    split at hwp
    · rename_i l hev
      simp only [Option.bind_eq_some_iff] at hev
      obtain ⟨xv, h2, h3⟩ := hev
      obtain ⟨p, hp, cv, w', ρ', I', g1, g2, g3, g4⟩ := next_sound (P := P.prog) rl h3 (opd_sound rl.gok hr h1 h2) o.type
      unfold execOp
      simp only [hop, Sem.run_bind, g1, Result.andThen_ok, Sem.run_pure, Oper.uponIn]
      exact hn _ _ ρ' I' cv w' (hwp p hp) g2 g3 g4
    · exact hwp.elim
  · -- something is thrown
    rename_i x hop
    simp only [Option.map_eq_some_iff] at hc
    obtain ⟨x', h1, rfl⟩ := hc
    simp only [AIns.wp] at hwp
    split at hwp
    · rename_i t v hev
      have e1 := opd_sound rl.gok hr h1 hev
      have e2 := e1
      simp only [VRel] at e1
      obtain ⟨x2, e3, _⟩ := e1
      unfold execOp
      simp only [hop, Sem.run_bind, e3, Instr.panic]
      rw [show Sem.run P.prog (goPanic (Value.iface t x2) : Sem Value) w = .halt (.panic (Value.iface t x2)) w from rfl]
      exact hT _ w ⟨.iface t v, σ, ρ, I, Value.iface t x2, rfl, by rw [← e3]; exact e2, rl, Ext.refl _ _ _, hwp⟩
    · exact hwp.elim
  · -- an operation
    simp only [Option.bind_eq_some_iff] at hc
    obtain ⟨ao, h1, h2⟩ := hc
    split at h2
    · cases h2
    · rename_i hst
      injection h2 with h2; subst h2
      simp only [AIns.wp] at hwp
      split at hwp
      · rename_i v σ' hev
        simp only [Option.bind_eq_some_iff] at hev
        obtain ⟨av, h3, h4⟩ := hev
        obtain ⟨w', ρ', I', g1, g2, g3⟩ := op_sound2 (P := P.prog) h1 h3 h4 hr rl
        rcases g3 with ⟨cv, g3, g4⟩ | ⟨g3, g4⟩
        · rw [g3]; simp only [Oper.uponIn]
          exact hn v σ' ρ' I' cv w' hwp g4 g1 g2
        · rw [g4]; simp only [Oper.uponIn]
          have hd : o.dst = none := by
            cases hdd : o.dst with
            | none => rfl
            | some x => simp [g3, hdd] at hst
          rw [hd]
          exact hn0 v σ' ρ' I' w' hd hwp g1 g2
      · exact hwp.elim

theorem yielded_eq {ops : Array Oper} {r : Regs} {a : Act} {j t : Nat} {b : Bool} (ht : (ops.toList[j]?).bind (·.dst) = some t) (hl : r.lookup t = some (.bool b)) (hr : RegsRel ρ I r a.tmps) : yielded ops a.tmps j = some b := by
  obtain ⟨cv, h1, h2⟩ := hr t _ hl
  simp only [VRel] at h2; subst h2
  unfold yielded
  rw [Array.getElem?_toList] at ht
  rw [ht]; simp [h1]

theorem yielded_undef {ops : Array Oper} {r : Regs} {a : Act} {j t : Nat} (ht : (ops.toList[j]?).bind (·.dst) = some t) (hl : r.lookup t = some (.tup [])) (hr : RegsRel ρ I r a.tmps) : yielded ops a.tmps j = none := by
  obtain ⟨cv, h1, h2⟩ := hr t _ hl
  simp only [VRel] at h2
  obtain ⟨vs, rfl, _⟩ := h2
  unfold yielded
  rw [Array.getElem?_toList] at ht
  rw [ht]; simp [h1]

theorem vrel_undef : VRel ρ I (.tup []) undef := by
  simp only [VRel]
  exact ⟨#[], rfl, rfl, by simp [CRel]⟩

theorem RegsRel.delU {r : Regs} {a : Act} {d : Option Nat} (h : RegsRel ρ I r a.tmps) (hd : ∀ x, d = some x → x < a.tmps.size) : RegsRel ρ I (delU r d) (a.put d undef).tmps := by
  have := h.set (d := d) (v := .tup []) (cv := undef) vrel_undef hd
  cases d with
  | none => exact h
  | some x => exact this

theorem rwp_sound (hmu : ∀ a vs σ K, ¬ P.yld a vs σ K) {nt : Nat} {ops : Array Oper} {E : Exit → Act → World → Prop} : ∀ (l : List Oper) (l' : List AOper) (r : Regs) (σ : St) (ρ : Rho) (I : Imm) (a : Act) (w : World) (Q : Regs → St → Prop), listM (compOper P.prog nt ops.toList) l = some l' →
    rwp P l' r σ Q → RegsRel ρ I r a.tmps → Rel B w0 ρ I σ w → a.defers = w0.ds → a.tmps.size = nt → (∀ a w, Lift nt B w0 ρ I σ Q a w → E .normal a w) → (∀ chain a w, a.defers = w0.ds → LiftT B w0 ρ I σ P.thr chain w → E (.panic chain) a w) → wpList P.prog ops E l a w := by
  intro l
  induction l with
  | nil =>
    intro l' r σ ρ I a w Q hc hwp hr rl hd hs hE hT
    simp only [listM, Option.some.injEq] at hc; subst hc
    exact hE a w ⟨r, σ, ρ, I, hd, hs, rl, hr, Ext.refl _ _ _, hwp⟩
  | cons o l ih =>
    intro l' r σ ρ I a w Q hc hwp hr rl hd hs hE hT
    simp only [listM, Option.bind_eq_some_iff, Option.map_eq_some_iff] at hc
    obtain ⟨o', h1, l1, h2, rfl⟩ := hc
    simp only [compOper, Option.bind_eq_some_iff, Option.ite_none_right_eq_some] at h1
    obtain ⟨ins, h3, hdlt, h4⟩ := h1
    · have hdst : ∀ x, o.dst = some x → x < a.tmps.size := by
        intro x hx; rw [hx] at hdlt; simp at hdlt; exact Nat.lt_of_lt_of_eq hdlt hs.symm
      have step : ∀ (g : Option (Nat × Bool)), o' = ⟨o.dst, ins, g⟩ → (ins.wp P r σ fun v σ' => rwp P l1 (setR r o.dst v) σ' Q) → o.wp P.prog a w (wpList P.prog ops E l) E := by
        intro g hg hw
        refine ins_sound hmu h3 hw hr rl ?_ ?_ (fun chain w' hl => hT chain a w' hd hl)
        · intro v σ' ρ' I' cv w' hq hv rl' ex
          exact ih l1 _ σ' ρ' I' _ w' Q h2 hq ((hr.ext ex rl).set hv hdst) rl' (by rw [defers_put]; exact hd) (by rw [size_put]; exact hs) (fun a w hl => hE a w (hl.ext ex)) (fun c a w hd hl => hT c a w hd (hl.ext ex))
        · intro v σ' ρ' I' w' hdn hq rl' ex
          rw [hdn] at hq
          exact ih l1 _ σ' ρ' I' _ w' Q h2 hq (hr.ext ex rl) rl' hd hs (fun a w hl => hE a w (hl.ext ex)) (fun c a w hd hl => hT c a w hd (hl.ext ex))
      split at h4
      · rename_i hg
        injection h4 with h4
        subst h4
        simp only [rwp] at hwp
        unfold wpList
        rw [if_pos (by simp [Region.wanted, hg])]
        exact .inl (step none rfl hwp)
      · rename_i j wt hg
        simp only [Option.map_eq_some_iff] at h4
        obtain ⟨t, ht, h4⟩ := h4
        subst h4
        simp only [rwp] at hwp
        split at hwp
        · rename_i b hb
          have hy := yielded_eq (ops := ops) ht hb hr
          unfold wpList
          by_cases hbw : b = wt
          · rw [if_pos hbw] at hwp
            rw [if_pos (by simp [Region.wanted, hg, hy, hbw])]
            exact .inl (step _ rfl hwp)
          · rw [if_neg hbw] at hwp
            rw [if_neg (by simp [Region.wanted, hg, hy, hbw])]
            exact ih l1 _ σ ρ I _ w Q h2 hwp (hr.delU hdst) rl (by rw [defers_put]; exact hd) (by rw [size_put]; exact hs) hE hT
        · rename_i hb
          have hy := yielded_undef (ops := ops) ht hb hr
          unfold wpList
          rw [if_neg (by simp [Region.wanted, hg, hy])]
          exact ih l1 _ σ ρ I _ w Q h2 hwp (hr.delU hdst) rl (by rw [defers_put]; exact hd) (by rw [size_put]; exact hs) hE hT
        · exact hwp.elim

theorem rwp_soundIn {ro : Option Nat} {nn : Nat} {nt : Nat} {ops : Array Oper} {E : Exit → Act → World → Prop} : ∀ (l : List Oper) (l' : List AOper) (r : Regs) (σ : St) (ρ : Rho) (I : Imm) (a : Act) (w : World) (Q : Regs → St → Prop), listM (compOper P.prog nt ops.toList) l = some l' →
    rwp P l' r σ Q → RegsRel ρ I r a.tmps → Rel B w0 ρ I σ w → YOk P B w0 ρ I → a.defers = w0.ds → a.tmps.size = nt → (∀ a w, Lift nt B w0 ρ I σ Q a w → E .normal a w) → (∀ chain a w, a.defers = w0.ds → LiftT B w0 ρ I σ P.thr chain w → E (.panic chain) a w) → wpListIn (wideR ro) nn P.prog ops E l a w := by
  intro l
  induction l with
  | nil =>
    intro l' r σ ρ I a w Q hc hwp hr rl hY hd hs hE hT
    simp only [listM, Option.some.injEq] at hc; subst hc
    exact hE a w ⟨r, σ, ρ, I, hd, hs, rl, hr, Ext.refl _ _ _, hwp⟩
  | cons o l ih =>
    intro l' r σ ρ I a w Q hc hwp hr rl hY hd hs hE hT
    simp only [listM, Option.bind_eq_some_iff, Option.map_eq_some_iff] at hc
    obtain ⟨o', h1, l1, h2, rfl⟩ := hc
    simp only [compOper, Option.bind_eq_some_iff, Option.ite_none_right_eq_some] at h1
    obtain ⟨ins, h3, hdlt, h4⟩ := h1
    · have hdst : ∀ x, o.dst = some x → x < a.tmps.size := by
        intro x hx; rw [hx] at hdlt; simp at hdlt; exact Nat.lt_of_lt_of_eq hdlt hs.symm
      have step : ∀ (g : Option (Nat × Bool)), o' = ⟨o.dst, ins, g⟩ → (ins.wp P r σ fun v σ' => rwp P l1 (setR r o.dst v) σ' Q) → o.wpIn (wideR ro) nn P.prog a w (wpListIn (wideR ro) nn P.prog ops E l) E := by
        intro g hg hw
        refine ins_soundIn hY h3 hw hr rl ?_ ?_ (fun chain w' hl => hT chain a w' hd hl)
        · intro v σ' ρ' I' cv w' hq hv rl' ex
          exact ih l1 _ σ' ρ' I' _ w' Q h2 hq ((hr.ext ex rl).set hv hdst) rl' (hY.ext ex rl) (by rw [defers_put]; exact hd) (by rw [size_put]; exact hs) (fun a w hl => hE a w (hl.ext ex)) (fun c a w hd hl => hT c a w hd (hl.ext ex))
        · intro v σ' ρ' I' w' hdn hq rl' ex
          rw [hdn] at hq
          exact ih l1 _ σ' ρ' I' _ w' Q h2 hq (hr.ext ex rl) rl' (hY.ext ex rl) hd hs (fun a w hl => hE a w (hl.ext ex)) (fun c a w hd hl => hT c a w hd (hl.ext ex))
      split at h4
      · rename_i hg
        injection h4 with h4
        subst h4
        simp only [rwp] at hwp
        unfold wpListIn
        rw [if_pos (by simp [Region.wanted, hg])]
        exact (step none rfl hwp)
      · rename_i j wt hg
        simp only [Option.map_eq_some_iff] at h4
        obtain ⟨t, ht, h4⟩ := h4
        subst h4
        simp only [rwp] at hwp
        split at hwp
        · rename_i b hb
          have hy := yielded_eq (ops := ops) ht hb hr
          unfold wpListIn
          by_cases hbw : b = wt
          · rw [if_pos hbw] at hwp
            rw [if_pos (by simp [Region.wanted, hg, hy, hbw])]
            exact (step _ rfl hwp)
          · rw [if_neg hbw] at hwp
            rw [if_neg (by simp [Region.wanted, hg, hy, hbw])]
            exact ⟨fun _ _ => trivial, ih l1 _ σ ρ I _ w Q h2 hwp (hr.delU hdst) rl hY (by rw [defers_put]; exact hd) (by rw [size_put]; exact hs) hE hT⟩
        · rename_i hb
          have hy := yielded_undef (ops := ops) ht hb hr
          unfold wpListIn
          rw [if_neg (by simp [Region.wanted, hg, hy])]
          exact ⟨fun _ _ => trivial, ih l1 _ σ ρ I _ w Q h2 hwp (hr.delU hdst) rl hY (by rw [defers_put]; exact hd) (by rw [size_put]; exact hs) hE hT⟩
        · exact hwp.elim

end
end Go.Proofs.Ytopagbaokokjdaa.AM

/- The abstract machine: regions whose order is open. -/
namespace Go.Proofs.Ytopagbaokokjdaa.AM
open Go.RowKit
set_option linter.unusedVariables false
set_option linter.unusedSimpArgs false

/-- The operands. -/
def AOp.opsL {α : Type} : AOp α → List α
  | .mv x | .box x | .ld1 x | .ldn _ x | .nilCheck x | .un _ x | .toInt _ x | .strBytes x | .bytesStr x | .idStr x | .mark x | .mkIface _ x | .fieldAddr _ x | .field1 _ x | .fieldn _ _ x | .extract x _ | .len _ x | .cap x | .rangeM x | .entryM x | .clear _ _ x => [x]
  | .alloc _ | .allocA .. | .mkmap | .stuck => []
  | .build _ ps => ps.map (·.2.2)
  | .buildSl _ _ _ ps => ps.map (·.2)
  | .st _ x y | .bin _ x y | .eqb _ x y | .eqn _ _ x y | .eqs _ _ x y | .mkslice _ _ _ x y | .idxAddr _ x y | .idxStr x y | .idxArr _ _ x y | .lookup _ _ _ x y _ | .minmax _ x y | .append _ _ x y | .appendMk _ _ _ x y | .copy _ x y | .delete _ _ x y => [x, y]
  | .mkfn _ xs ys => xs ++ ys
  | .slice _ x lo hi mx => [x] ++ lo.toList ++ hi.toList ++ mx.toList
  | .sliceArr _ _ x lo hi mx => [x] ++ lo.toList ++ hi.toList ++ mx.toList
  | .mapSet _ _ m k v => [m, k, v]

theorem listM_congr {α β : Type} {f g : α → Option β} : ∀ {l : List α}, (∀ x ∈ l, f x = g x) → listM f l = listM g l
  | [], _ => rfl
  | x :: xs, h => by simp only [listM, h x (by simp), listM_congr (l := xs) fun y hy => h y (by simp [hy])]

theorem optM_congr {α β : Type} {f g : α → Option β} {o : Option α} (h : ∀ x ∈ o.toList, f x = g x) : optM f o = optM g o := by
  cases o with
  | none => rfl
  | some x => simp only [optM, h x (by simp)]

theorem AOp.mapM_congr {α β : Type} {f g : α → Option β} {o : AOp α} (h : ∀ x ∈ o.opsL, f x = g x) : o.mapM f = o.mapM g := by
  cases o
  case build z ps =>
    simp only [AOp.mapM]
    rw [listM_congr fun p hp => by rw [h p.2.2 (by simp only [AOp.opsL, List.mem_map]; exact ⟨p, hp, rfl⟩)]]
  case buildSl es z n ps =>
    simp only [AOp.mapM]
    rw [listM_congr fun p hp => by rw [h p.2 (by simp only [AOp.opsL, List.mem_map]; exact ⟨p, hp, rfl⟩)]]
  case mkfn q xs ys =>
    simp only [AOp.mapM]
    rw [listM_congr (l := xs) fun x hx => h x (by simp [AOp.opsL, hx]), listM_congr (l := ys) fun x hx => h x (by simp [AOp.opsL, hx])]
  case slice es x lo hi mx =>
    simp only [AOp.mapM]
    rw [h x (by simp [AOp.opsL]), optM_congr (o := lo) fun y hy => h y (by simp only [AOp.opsL, List.mem_append]; exact .inl (.inl (.inr hy))), optM_congr (o := hi) fun y hy => h y (by simp only [AOp.opsL, List.mem_append]; exact .inl (.inr hy)),
      optM_congr (o := mx) fun y hy => h y (by simp only [AOp.opsL, List.mem_append]; exact .inr hy)]
  case sliceArr n es x lo hi mx =>
    simp only [AOp.mapM]
    rw [h x (by simp [AOp.opsL]), optM_congr (o := lo) fun y hy => h y (by simp only [AOp.opsL, List.mem_append]; exact .inl (.inl (.inr hy))), optM_congr (o := hi) fun y hy => h y (by simp only [AOp.opsL, List.mem_append]; exact .inl (.inr hy)),
      optM_congr (o := mx) fun y hy => h y (by simp only [AOp.opsL, List.mem_append]; exact .inr hy)]
  all_goals
    simp only [AOp.mapM]
    first
      | done
      | (rw [h _ (by simp [AOp.opsL])]; done)
      | (rename_i x y; rw [h x (by simp [AOp.opsL]), h y (by simp [AOp.opsL])]; done)
      | (rename_i x y z; rw [h x (by simp [AOp.opsL]), h y (by simp [AOp.opsL]), h z (by simp [AOp.opsL])]; done)
      | (rename_i x y z; rw [h x (by simp [AOp.opsL]), h y (by simp [AOp.opsL])]; done)

def tmpsOf (l : List Opd) : List Nat := l.filterMap fun
  | .t n => some n
  | .c _ => none

def AIns.opsL : AIns → List Opd
  | .op o => o.opsL
  | .pick c a b => [c, a, b]
  | .call f args => f :: args
  | .next x => [x]
  | .panic x => [x]

/-- What an operation reads of the frame. -/
def AOper.names (a : AOper) : List Nat := tmpsOf a.ins.opsL ++ (match a.guard with
  | some (t, _) => [t]
  | none => [])

theorem mem_tmpsOf {l : List Opd} {n : Nat} (h : Opd.t n ∈ l) : n ∈ tmpsOf l := by
  simp only [tmpsOf, List.mem_filterMap]; exact ⟨_, h, rfl⟩

theorem evalOpd_congr {r r' : Regs} {l : List Opd} (h : ∀ t ∈ tmpsOf l, r.lookup t = r'.lookup t) : ∀ x ∈ l, evalOpd r x = evalOpd r' x := by
  intro x hx
  cases x with
  | t n => exact h n (mem_tmpsOf hx)
  | c v => rfl

theorem AIns.wp_congr {P : Env} {i : AIns} {r r' : Regs} {σ : St} {Q : AVal → St → Prop} (h : ∀ t ∈ tmpsOf i.opsL, r.lookup t = r'.lookup t) (hw : i.wp P r σ Q) : i.wp P r' σ Q := by
  have hc := evalOpd_congr h
  cases i with
  | op o =>
    simp only [AIns.wp] at hw ⊢
    rw [← AOp.mapM_congr (f := evalOpd r) (g := evalOpd r') hc]; exact hw
  | pick c a b =>
    simp only [AIns.wp] at hw ⊢
    rw [← hc c (by simp [AIns.opsL]), ← hc a (by simp [AIns.opsL]), ← hc b (by simp [AIns.opsL])]; exact hw
  | call f args =>
    simp only [AIns.wp] at hw ⊢
    rw [← hc f (by simp [AIns.opsL]), ← listM_congr (f := evalOpd r) (g := evalOpd r') fun x hx => hc x (by simp [AIns.opsL, hx])]; exact hw
  | next x =>
    simp only [AIns.wp] at hw ⊢
    rw [← hc x (by simp [AIns.opsL])]; exact hw
  | panic x =>
    simp only [AIns.wp] at hw ⊢
    rw [← hc x (by simp [AIns.opsL])]; exact hw

theorem norm_lookup {keep : List Nat} {r : Regs} {t : Nat} (h : t ∈ keep) : (norm keep r).lookup t = r.lookup t := by
  induction keep with
  | nil => cases h
  | cons k ks ih =>
    simp only [norm, List.filterMap_cons]
    cases hk : r.lookup k with
    | none =>
      simp only [Option.map_none]
      rcases List.mem_cons.1 h with rfl | h
      · rw [hk]
        cases hl : (norm ks r).lookup t with
        | none => exact hl
        | some v => rw [lookup_norm r t v ks hl] at hk; cases hk
      · exact ih h
    | some u =>
      simp only [Option.map_some, List.lookup]
      by_cases e : t = k
      · subst e; simp [hk]
      · have : (t == k) = false := by simpa using e
        rw [this]
        rcases List.mem_cons.1 h with rfl | h
        · exact absurd rfl e
        · exact ih h

/-! ### Kinds of operations -/

def AOp.isE {α : Type} : AOp α → Bool
  | .st .. | .mapSet .. | .append .. | .appendMk .. | .copy .. | .delete .. | .rangeM .. | .clear .. => true
  | _ => false

/-- Does what it gives hang on memory? -/
def AOp.reads {α : Type} : AOp α → Bool
  | .ld1 _ | .ldn .. | .slice .. | .len .. | .bytesStr _ | .mark _ | .lookup .. | .entryM _ | .sliceArr .. => true
  | _ => false

def AIns.isE : AIns → Bool
  | .op o => o.isE
  | .pick .. => false
  | .call .. => true
  | .next .. => true
  | .panic .. => true

def AIns.reads : AIns → Bool
  | .op o => o.reads
  | _ => false

theorem mapM_isE {f : Opd → Option AVal} {o : AOp Opd} {av : AOp AVal} (h : o.mapM f = some av) : av.isE = o.isE ∧ av.isA = o.isA ∧ av.reads = o.reads := by
  cases o <;> simp only [AOp.mapM, Option.bind_eq_some_iff, Option.map_eq_some_iff, Option.some.injEq] at h
  all_goals
    first
      | (subst h; exact ⟨rfl, rfl, rfl⟩)
      | (obtain ⟨_, _, rfl⟩ := h; exact ⟨rfl, rfl, rfl⟩)
      | (obtain ⟨_, _, _, _, rfl⟩ := h; exact ⟨rfl, rfl, rfl⟩)
      | (obtain ⟨_, _, _, _, _, _, rfl⟩ := h; exact ⟨rfl, rfl, rfl⟩)
      | (obtain ⟨_, _, _, _, _, _, _, _, rfl⟩ := h; exact ⟨rfl, rfl, rfl⟩)

theorem evalV_A {σ : St} {av : AOp AVal} (h : av.isA = true) : evalV σ av = made σ (allocV σ.next av) := by
  cases av <;> first | (cases h; done) | rfl

/-- Memory that has all that was there. -/
def MLe (m m' : Mem) : Prop := ∀ a b, m.get a = some b → m'.get a = some b

theorem srcL_mono {σ σ' : St} (h : MLe σ.mem σ'.mem) {es : Nat} {x : AVal} {q : List AVal × Nat} (hs : srcL σ es x = some q) : srcL σ' es x = some q := by
  cases x <;> simp only [srcL] at hs ⊢ <;> first | exact hs | skip
  split at hs
  · rename_i hm; rw [h _ _ hm]; exact hs
  · rename_i hm; rw [h _ _ hm]; exact hs
  · cases hs

theorem quiet_free {av : AOp AVal} (hE : av.isE = false) (hA : av.isA = false) (hr : av.reads = false) : ∃ f : Option AVal, ∀ σ, evalV σ av = f.map fun v => (v, σ) := by
  refine ⟨(evalV ⟨⟨[]⟩, 0⟩ av).map (·.1), fun σ => ?_⟩
  cases av <;> first | (cases hE; done) | (cases hA; done) | (cases hr; done) | skip
  all_goals simp only [evalV]
  case mv x => rfl
  case build z ps => cases fillL z ps <;> rfl
  case nilCheck x => cases x <;> rfl
  case bin op x y => cases abin op x y <;> rfl
  case eqb g x y => cases x <;> first | rfl | (cases y <;> rfl)
  case eqn k g x y => cases aeqn k x y <;> rfl
  case eqs g ks x y => cases x <;> first | rfl | (cases y <;> first | rfl | (rename_i a b; dsimp only; split <;> first | rfl | (cases keysEq a b <;> rfl)))
  case stuck => rfl
  case un op x => cases op <;> cases x <;> first | rfl | (rename_i k n; dsimp only; cases abits .xor k (if k.signed then -1 else k.max) n <;> rfl)
  case toInt k x => cases x <;> rfl
  case idStr x => cases x <;> rfl
  case mkIface t x => rfl
  case mkfn f xs ys => rfl
  case fieldAddr o x => cases x <;> rfl
  case field1 o x => cases x <;> first | rfl | (rename_i cs; dsimp only; cases cs[o]? <;> rfl)
  case fieldn o n x => cases x <;> first | rfl | (rename_i cs; dsimp only; split <;> rfl)
  case idxAddr es x i => cases x <;> first | rfl | (cases i <;> first | rfl | (dsimp only; split <;> rfl))
  case idxArr n es x i => cases x <;> first | rfl | (cases i <;> first | rfl | (dsimp only; split <;> rfl))
  case idxStr x i => cases x <;> first | rfl | (cases i <;> first | rfl | (rename_i s k i; dsimp only; split <;> first | rfl | (cases s.data.toList[i.toNat]? <;> rfl)))
  case extract x i => cases x <;> first | rfl | (rename_i cs; dsimp only; cases cs[i]? <;> rfl)
  case cap x => cases x <;> first | rfl | (rename_i e; cases e <;> rfl)
  case minmax b x y => cases x <;> first | rfl | (cases y <;> rfl)

theorem load1_mono {σ σ' : St} (h : MLe σ.mem σ'.mem) {x v : AVal} (hs : load1 σ x = some v) : load1 σ' x = some v := by
  cases x <;> simp only [load1] at hs ⊢ <;> first | exact hs | skip
  split at hs
  · rename_i hm; rw [h _ _ hm]; exact hs
  · rename_i hm; rw [h _ _ hm]; exact hs
  · cases hs

theorem loadL_mono {σ σ' : St} (h : MLe σ.mem σ'.mem) {n : Nat} {x : AVal} {v : List AVal} (hs : loadL σ n x = some v) : loadL σ' n x = some v := by
  cases x <;> simp only [loadL] at hs ⊢ <;> first | exact hs | skip
  split at hs
  · rename_i hm; rw [h _ _ hm]; exact hs
  · rename_i hm; rw [h _ _ hm]; exact hs
  · cases hs

theorem quiet_reads {σ : St} {av : AOp AVal} {v : AVal} {σ1 : St} (hr : av.reads = true) (h : evalV σ av = some (v, σ1)) : σ1 = σ ∧ ∀ σ', MLe σ.mem σ'.mem → evalV σ' av = some (v, σ') := by
  cases av <;> first | (cases hr; done) | skip
  all_goals simp only [evalV] at h ⊢
  case ld1 x =>
    simp only [Option.map_eq_some_iff] at h ⊢
    obtain ⟨a, h1, h2⟩ := h; cases h2
    exact ⟨rfl, fun σ' hm => ⟨_, load1_mono hm h1, rfl⟩⟩
  case ldn n x =>
    simp only [Option.map_eq_some_iff] at h ⊢
    obtain ⟨a, h1, h2⟩ := h; cases h2
    exact ⟨rfl, fun σ' hm => ⟨_, loadL_mono hm h1, rfl⟩⟩
  case bytesStr x =>
    have key : ∀ y : AVal, ((srcL σ 1 y).bind fun r => (listM byteOfA r.1).map fun l => (AVal.str ⟨l.toArray⟩, σ)) = some (v, σ1) → σ1 = σ ∧ ∀ σ' : St, MLe σ.mem σ'.mem → ((srcL σ' 1 y).bind fun r => (listM byteOfA r.1).map fun l => (AVal.str ⟨l.toArray⟩, σ')) = some (v, σ') := by
      intro y h
      simp only [Option.bind_eq_some_iff, Option.map_eq_some_iff] at h
      obtain ⟨q, h1, l, h2, h3⟩ := h; cases h3
      exact ⟨rfl, fun σ' hm => by rw [srcL_mono hm h1]; simp [h2]⟩
    cases x <;> first | (cases h; done) | exact key _ h
  case sliceArr n es x lo hi mx =>
    cases x <;> simp only at h ⊢ <;> first | (cases h; done) | skip
    rename_i a o
    cases hb : σ.mem.get a with
    | none => rw [hb] at h; cases h
    | some b =>
      rw [hb] at h
      cases b <;> simp only at h <;> first | (cases h; done) | skip
      rename_i es' vals
      split at h
      · rename_i hc
        simp only [Option.map_eq_some_iff] at h
        obtain ⟨q, h1, h2⟩ := h
        cases h2
        exact ⟨rfl, fun σ' hm => by rw [hm _ _ hb]; simp [hc, h1]⟩
      · cases h
  case mark x =>
    cases x <;> simp only at h ⊢ <;> first | (cases h; done) | skip
    rename_i a o len cap t
    cases hb : σ.mem.get a with
    | none => rw [hb] at h; cases h
    | some b =>
      rw [hb] at h
      cases b <;> simp only at h <;> first | (cases h; done) | skip
      split at h
      · rename_i hl
        cases h
        exact ⟨rfl, fun σ' hm => by simp only [hm _ _ hb, hl, if_true]⟩
      · cases h
  case slice es x lo hi mx =>
    split at h
    · rename_i he
      simp only [if_pos he]
      split at h
      · split at h
        · cases h
        · rename_i hm
          simp only [Option.map_eq_some_iff] at h
          obtain ⟨a, h1, h2⟩ := h; cases h2
          exact ⟨rfl, fun σ' _ => by rw [if_neg hm, h1]; rfl⟩
      · cases h
    · rename_i he
      simp only [if_neg he]
      cases x <;> simp only at h ⊢ <;> first | (cases h; done) | skip
      case nilsl =>
        simp only [Option.map_eq_some_iff] at h ⊢
        obtain ⟨a, h1, h2⟩ := h; cases h2
        exact ⟨rfl, fun σ' _ => ⟨a, h1, rfl⟩⟩
      case isl =>
        simp only [Option.map_eq_some_iff] at h ⊢
        obtain ⟨a, h1, h2⟩ := h; cases h2
        exact ⟨rfl, fun σ' _ => ⟨a, h1, rfl⟩⟩
      case sl a o len cap t =>
        cases hb : σ.mem.get a with
        | none => rw [hb] at h; cases h
        | some b =>
          rw [hb] at h
          cases b <;> simp only at h <;> first | (cases h; done) | skip
          all_goals
            split at h
            · rename_i he'
              simp only [Option.map_eq_some_iff] at h
              obtain ⟨q, h1, h2⟩ := h; cases h2
              refine ⟨rfl, fun σ' hm => ?_⟩
              simp only [hm _ _ hb, he', if_true, Option.map_eq_some_iff]
              exact ⟨q, h1, rfl⟩
            · cases h
  case len k x =>
    cases x <;> simp only at h ⊢ <;> first | (cases h; done) | skip
    case map a =>
      split at h
      · rename_i hk
        cases hb : σ.mem.get a with
        | none => rw [hb] at h; cases h
        | some b =>
          rw [hb] at h
          cases b <;> simp only at h <;> first | (cases h; done) | skip
          cases h
          exact ⟨rfl, fun σ' hm => by simp only [hk, if_true, hm _ _ hb]⟩
      · cases h
    all_goals
      split at h
      · rename_i hk
        cases h
        exact ⟨rfl, fun σ' hm => by simp only [hk, if_true]⟩
      · cases h
  case lookup z sg ks x k ok =>
    split at h
    · rename_i hk
      simp only [hk, if_true]
      cases x <;> simp only at h ⊢ <;> first | (cases h; done) | skip
      case map a =>
        cases hb : σ.mem.get a with
        | none => rw [hb] at h; cases h
        | some b =>
          rw [hb] at h
          cases b <;> simp only at h <;> first | (cases h; done) | skip
          rename_i clock ents
          simp only [Option.map_eq_some_iff] at h
          obtain ⟨q, h1, h2⟩ := h
          have : σ1 = σ := by cases q <;> (cases h2; rfl)
          subst this
          refine ⟨rfl, fun σ' hm => ?_⟩
          simp only [hm _ _ hb, Option.map_eq_some_iff]
          refine ⟨q, h1, ?_⟩
          cases q <;> (cases h2; rfl)
      case nilmap =>
        cases h; exact ⟨rfl, fun _ _ => rfl⟩
    · cases h
  case entryM x =>
    cases x with
    | ptr a o =>
      cases o with
      | succ o => cases h
      | zero =>
        simp only at h ⊢
        cases hb : σ.mem.get a with
        | none => rw [hb] at h; cases h
        | some b =>
          rw [hb] at h
          cases b with
          | cells _ _ => cases h
          | ro _ _ => cases h
          | map _ _ => cases h
          | loop _ => cases h
          | iter m since seen last =>
            cases m with
            | none => cases h
            | some m =>
              simp only at h
              cases hb2 : σ.mem.get m with
              | none => rw [hb2] at h; split at h <;> first | (cases h; done) | (rename_i e; cases e)
              | some b2 =>
                rw [hb2] at h
                split at h
                · rename_i stamp clock ents hst e
                  cases e
                  split at h
                  · rename_i hcl
                    simp only [Option.map_eq_some_iff] at h
                    obtain ⟨q, h1, h2⟩ := h
                    cases h2
                    refine ⟨rfl, fun σ' hm => ?_⟩
                    simp only [hm _ _ hb, hm _ _ hb2, hst, hcl, if_true, h1, Option.map_some]
                  · cases h
                · cases h
    | _ => cases h

theorem quiet_eval {σ : St} {av : AOp AVal} {v : AVal} {σ1 : St} (hE : av.isE = false) (hA : av.isA = false) (h : evalV σ av = some (v, σ1)) :
    σ1 = σ ∧ (∀ σ', MLe σ.mem σ'.mem → evalV σ' av = some (v, σ')) ∧ (av.reads = false → ∀ σ', evalV σ' av = some (v, σ')) ∧ (∀ σ' v' σ2, evalV σ' av = some (v', σ2) → σ2 = σ') := by
  cases hr : av.reads with
  | true => exact ⟨(quiet_reads hr h).1, (quiet_reads hr h).2, (fun h => by cases h), fun σ' v' σ2 h2 => (quiet_reads hr h2).1⟩
  | false =>
    obtain ⟨f, hf⟩ := quiet_free hE hA hr
    have hs : ∀ σ' v' σ2, evalV σ' av = some (v', σ2) → σ2 = σ' ∧ f = some v' := by
      intro σ' v' σ2 h2
      rw [hf] at h2
      cases f with
      | none => cases h2
      | some x => cases h2; exact ⟨rfl, rfl⟩
    obtain ⟨h1, h2⟩ := hs _ _ _ h
    subst h2
    exact ⟨h1, fun σ' _ => hf σ', fun _ σ' => hf σ', fun σ' v' σ2 h3 => (hs _ _ _ h3).1⟩

end Go.Proofs.Ytopagbaokokjdaa.AM

/- The abstract machine: regions whose order is open: any order does alike. -/
namespace Go.Proofs.Ytopagbaokokjdaa.AM
open Go.RowKit
set_option linter.unusedVariables false
set_option linter.unusedSimpArgs false

def edgesOf (o : Oper) : List Nat := (o.after.toList.filter (Region.binds .any)).map (·.on)

def orAll (anc : List Nat) : List Nat → Nat
  | [] => 0
  | e :: es => (2 ^ e ||| anc.getD e 0) ||| orAll anc es

def ancL (ops : List Oper) : List Nat := ops.foldl (fun acc o => acc ++ [orAll acc (edgesOf o)]) []

/-- An operation as it is told: its place in the region, what it is, what is to be read again behind it. -/
structure Ent where
  idx : Nat
  a : AOper
  rc : List Nat

def pairOk (anc : List Nat) (x y : Nat × Ent) : Bool :=
  let bit := (anc.getD y.2.idx 0).testBit x.2.idx
  (x.2.idx != y.2.idx) && (!x.2.a.ins.isE || bit) &&
  (!((match x.2.a.dst with
    | some d => y.2.a.names.contains d
    | none => false) || (match y.2.a.dst with
    | some d => x.2.a.names.contains d
    | none => false)) || bit) &&
  (match x.2.a.dst, y.2.a.dst with
    | some d, some e => d != e
    | _, _ => true) &&
  (!(y.2.a.ins.isE && !x.2.a.ins.isE && x.2.a.ins.reads) || bit || y.2.rc.contains x.1)

def allPairs {α : Type} (R : α → α → Bool) : List α → Bool
  | [] => true
  | x :: xs => xs.all (R x) && allPairs R xs

def okEnts (ops : List Oper) (es : List Ent) : Bool :=
  let anc := ancL ops
  (ops.length == es.length) && ((List.range ops.length).all fun i => es.any fun e => e.idx == i) &&
  (ops.zipIdx.all fun (o, j) => (edgesOf o).all (· < j)) &&
  (ops.zipIdx.all fun (o, j) => anc.getD j 0 == orAll anc (edgesOf o)) &&
  allPairs (pairOk anc) (es.zipIdx.map fun (e, p) => (p, e))

theorem allPairs_get {α : Type} {R : α → α → Bool} : ∀ {l : List α}, allPairs R l = true → ∀ (p q : Nat) (x y : α), p < q → l[p]? = some x → l[q]? = some y → R x y = true
  | [], _, p, q, x, y, _, hx, _ => by simp at hx
  | a :: l, h, p, q, x, y, hpq, hx, hy => by
    simp only [allPairs, Bool.and_eq_true, List.all_eq_true] at h
    cases q with
    | zero => omega
    | succ q =>
      cases p with
      | zero =>
        simp at hx hy; subst hx
        exact h.1 y (List.mem_of_getElem? hy)
      | succ p => exact allPairs_get h.2 p q x y (by omega) (by simpa using hx) (by simpa using hy)

theorem orAll_bit {anc : List Nat} {i : Nat} : ∀ {es : List Nat}, (orAll anc es).testBit i = true → ∃ e ∈ es, e = i ∨ (anc.getD e 0).testBit i = true
  | [], h => by simp [orAll] at h
  | e :: es, h => by
    simp only [orAll, Nat.testBit_or, Bool.or_eq_true] at h
    rcases h with (h | h) | h
    · refine ⟨e, by simp, .inl ?_⟩
      rw [Nat.testBit_two_pow] at h
      simpa using h
    · exact ⟨e, by simp, .inr h⟩
    · obtain ⟨x, hx, h⟩ := orAll_bit h
      exact ⟨x, by simp [hx], h⟩

/-- What is done is done with all that stands ahead of it. -/
def DC (ops : List Oper) (D : Array Bool) : Prop := ∀ j o, ops[j]? = some o → D.getD j false = true → ∀ e ∈ edgesOf o, D.getD e false = true

theorem DC.anc {ops : List Oper} {D : Array Bool} (h : DC ops D) (h1 : ∀ j o, ops[j]? = some o → ∀ e ∈ edgesOf o, e < j) (h2 : ∀ j o, ops[j]? = some o → (ancL ops).getD j 0 = orAll (ancL ops) (edgesOf o)) :
    ∀ j o, ops[j]? = some o → (∀ e ∈ edgesOf o, D.getD e false = true) → ∀ i, ((ancL ops).getD j 0).testBit i = true → D.getD i false = true := by
  intro j
  induction j using Nat.strongRecOn with
  | _ j ih =>
    intro o ho hd i hi
    rw [h2 j o ho] at hi
    obtain ⟨e, he, hh⟩ := orAll_bit hi
    rcases hh with rfl | hh
    · exact hd _ he
    · have hlt := h1 j o ho e he
      have hel : e < ops.length := by
        have := (List.getElem?_eq_some_iff.1 ho).1; omega
      exact ih e hlt ops[e] (List.getElem?_eq_getElem hel) (fun e' he' => h e _ (List.getElem?_eq_getElem hel) (hd e he) e' he') i hh


structure OkE (ops : List Oper) (es : List Ent) : Prop where
  len : ops.length = es.length
  surj : ∀ i, i < ops.length → ∃ (p : Nat) (e : Ent), es[p]? = some e ∧ e.idx = i
  edge : ∀ j o, ops[j]? = some o → ∀ e ∈ edgesOf o, e < j
  anc : ∀ j o, ops[j]? = some o → (ancL ops).getD j 0 = orAll (ancL ops) (edgesOf o)
  ne : ∀ (p q : Nat) (x y : Ent), p < q → es[p]? = some x → es[q]? = some y → x.idx ≠ y.idx
  eff : ∀ (p q : Nat) (x y : Ent), p < q → es[p]? = some x → es[q]? = some y → x.a.ins.isE = true → ((ancL ops).getD y.idx 0).testBit x.idx = true
  conf : ∀ (p q : Nat) (x y : Ent) (d : Nat), p < q → es[p]? = some x → es[q]? = some y → (x.a.dst = some d ∧ d ∈ y.a.names ∨ y.a.dst = some d ∧ d ∈ x.a.names) → ((ancL ops).getD y.idx 0).testBit x.idx = true
  dst : ∀ (p q : Nat) (x y : Ent) (d : Nat), p < q → es[p]? = some x → es[q]? = some y → x.a.dst = some d → y.a.dst ≠ some d
  rc : ∀ (p q : Nat) (x y : Ent), p < q → es[p]? = some x → es[q]? = some y → y.a.ins.isE = true → x.a.ins.isE = false → x.a.ins.reads = true → ((ancL ops).getD y.idx 0).testBit x.idx = true ∨ p ∈ y.rc

theorem OkE.of {ops : List Oper} {es : List Ent} (h : okEnts ops es = true) : OkE ops es := by
  simp only [okEnts, Bool.and_eq_true, beq_iff_eq] at h
  obtain ⟨⟨⟨⟨h1, h2⟩, h3⟩, h4⟩, h5⟩ := h
  have pr : ∀ (p q : Nat) (x y : Ent), p < q → es[p]? = some x → es[q]? = some y → pairOk (ancL ops) (p, x) (q, y) = true := by
    intro p q x y hpq hx hy
    refine allPairs_get h5 p q _ _ hpq ?_ ?_
    · rw [List.getElem?_map, List.getElem?_zipIdx, hx]; simp
    · rw [List.getElem?_map, List.getElem?_zipIdx, hy]; simp
  refine ⟨h1, ?_, ?_, ?_, ?_, ?_, ?_, ?_, ?_⟩
  · intro i hi
    have := List.all_eq_true.1 h2 i (List.mem_range.2 hi)
    obtain ⟨e, he, hh⟩ := List.any_eq_true.1 this
    obtain ⟨p, hp, rfl⟩ := List.getElem_of_mem he
    exact ⟨p, _, List.getElem?_eq_getElem hp, by simpa using hh⟩
  · intro j o ho e he
    have := List.all_eq_true.1 h3 (o, j) (List.mem_of_getElem? (by rw [List.getElem?_zipIdx, ho]; simp : ops.zipIdx[j]? = some (o, j)))
    simpa using List.all_eq_true.1 this e he
  · intro j o ho
    have := List.all_eq_true.1 h4 (o, j) (List.mem_of_getElem? (by rw [List.getElem?_zipIdx, ho]; simp : ops.zipIdx[j]? = some (o, j)))
    simpa using this
  · intro p q x y hpq hx hy
    have := pr p q x y hpq hx hy
    simp only [pairOk, Bool.and_eq_true, bne_iff_ne] at this
    exact this.1.1.1.1
  · intro p q x y hpq hx hy he
    have := pr p q x y hpq hx hy
    simp only [pairOk, Bool.and_eq_true, Bool.or_eq_true, he] at this
    rcases this.1.1.1.2 with h | h
    · cases h
    · exact h
  · intro p q x y d hpq hx hy hc
    have := pr p q x y hpq hx hy
    simp only [pairOk, Bool.and_eq_true, Bool.or_eq_true] at this
    rcases this.1.1.2 with h | h
    · simp only [Bool.not_eq_true', Bool.or_eq_false_iff] at h
      rcases hc with ⟨c1, c2⟩ | ⟨c1, c2⟩
      · rw [c1] at h; simp at h; exact absurd c2 h.1
      · rw [c1] at h; simp at h; exact absurd c2 h.2
    · exact h
  · intro p q x y d hpq hx hy hd hd'
    have := pr p q x y hpq hx hy
    simp only [pairOk, Bool.and_eq_true, hd, hd'] at this
    simp at this
  · intro p q x y hpq hx hy h1 h2 h3
    have := pr p q x y hpq hx hy
    simp only [pairOk, Bool.and_eq_true, Bool.or_eq_true, h1, h2, h3] at this
    rcases this.2 with (h | h) | h
    · simp at h
    · exact .inl h
    · exact .inr (by simpa using h)

/-- What a guard holds where its operation is skipped. -/
def Skips (want : Bool) (v : AVal) : Prop := (∃ b, v = .bool b ∧ b ≠ want) ∨ v = .tup []

/-- What an operation gives that is told already, and is not done yet. -/
inductive Val (i : AIns) (rp : Regs) (σ : St) (ρ : Rho) (id : Option Nat) (f : Option (St → Prop)) (v : AVal) : Prop where
  | alloc (ao : AOp Opd) (av : AOp AVal) (bk : Blk) (k : Nat) (h0 : id = some k) (h1 : i = .op ao) (h2 : ao.isA = true) (h3 : ao.mapM (evalOpd rp) = some av) (h4 : allocV k av = some (v, bk)) (h5 : ρ k = none) (h6 : σ.mem.get k = some bk)
  | quiet (ao : AOp Opd) (av : AOp AVal) (h1 : i = .op ao) (h2 : ao.isE = false) (h3 : ao.isA = false) (h4 : ao.mapM (evalOpd rp) = some av) (h5 : evalV σ av = some (v, σ)) (h6 : ao.reads = true → ∃ g, f = some g ∧ ∀ σ', g σ' → evalV σ' av = some (v, σ'))
  | pick (c x y : Opd) (b : Bool) (h1 : i = .pick c x y) (h2 : evalOpd rp c = some (.bool b)) (h3 : (if b then evalOpd rp x else evalOpd rp y) = some v)

structure Pend (es : List Ent) (D : Array Bool) (p : Nat) (e : Ent) (c : Nat) (r : Regs) (σ : St) (ρ : Rho) (I : Imm) (id : Option Nat) (h : Hist) (a : Act) : Prop where
  mk ::
  out : ∃ rp : Regs, (∀ t ∈ e.a.names, ∀ v, rp.lookup t = some v → (∀ q x, q < p → es[q]? = some x → x.a.dst = some t → D.getD x.idx false = true) → ∃ cv, a.tmps[t]? = some cv ∧ VRel ρ I v cv) ∧
    (∀ t ∈ e.a.names, (∀ s x, p ≤ s → s < c → es[s]? = some x → x.a.dst ≠ some t) → rp.lookup t = r.lookup t) ∧
    ((∃ t want b, e.a.guard = some (t, want) ∧ rp.lookup t = some b ∧ Skips want b ∧ ∀ d, e.a.dst = some d → r.lookup d = some (.tup [])) ∨
     ((e.a.guard = none ∨ ∃ t want, e.a.guard = some (t, want) ∧ rp.lookup t = some (.bool want)) ∧ ∃ v, (∀ d, e.a.dst = some d → r.lookup d = some v) ∧ Val e.a.ins rp σ ρ id h[p]? v))

structure DInv (nt : Nat) (B : Nat) (w0 : Root) (ρ0 : Rho) (I0 : Imm) (σ0 : St) (ops : List Oper) (es : List Ent) (c : Nat) (D : Array Bool) (r : Regs) (σ : St) (h : Hist) (ρ : Rho) (I : Imm) (ids : Nat → Option Nat) (a : Act) (w : World) : Prop where
  dc : DC ops D
  eff1 : ∀ p e, p < c → es[p]? = some e → e.a.ins.isE = true → D.getD e.idx false = true
  eff2 : ∀ p e, c ≤ p → es[p]? = some e → D.getD e.idx false = false
  dsz : D.size = ops.length
  rel : Rel B w0 ρ I σ w
  ext : Ext ρ0 I0 σ0 ρ I σ
  regs : ∀ t v, r.lookup t = some v → (∀ q x, q < c → es[q]? = some x → x.a.dst = some t → D.getD x.idx false = true) → ∃ cv, a.tmps[t]? = some cv ∧ VRel ρ I v cv
  pend : ∀ p e, p < c → es[p]? = some e → D.getD e.idx false = false → Pend es D p e c r σ ρ I (ids p) h a
  ids1 : ∀ p k, p < c → ids p = some k → k < σ.next ∧ σ0.next ≤ k
  ids2 : ∀ p q k, p < q → q < c → ids p = some k → ids q ≠ some k
  defers : a.defers = w0.ds
  size : a.tmps.size = nt
  hlen : h.length = c
  cle : c ≤ es.length

end Go.Proofs.Ytopagbaokokjdaa.AM

/- The abstract machine: regions whose order is open: the steps. -/
namespace Go.Proofs.Ytopagbaokokjdaa.AM
open Go.RowKit
set_option linter.unusedVariables false
set_option linter.unusedSimpArgs false

section
variable {P : Env} {nt : Nat} {B : Nat} {w0 : Root} {ρ0 : Rho} {I0 : Imm} {σ0 : St} {ops : List Oper} {es : List Ent}

theorem lookup_setR_ne {r : Regs} {d : Option Nat} {v : AVal} {t : Nat} (h : d ≠ some t) : (setR r d v).lookup t = r.lookup t := by
  cases d with
  | none => rfl
  | some x =>
    simp only [setR, List.lookup]
    have : (t == x) = false := by simp; intro e; exact h (by rw [e])
    rw [this]

theorem lookup_setR_self {r : Regs} {d : Nat} {v : AVal} : (setR r (some d) v).lookup d = some v := by simp [setR]

theorem lookup_delR_ne {r : Regs} {d : Option Nat} {t : Nat} (h : d ≠ some t) : (delR r d).lookup t = r.lookup t := by
  cases d with
  | none => rfl
  | some x => simp only [delR]; rw [lookup_filter_ne, if_neg (fun e => h (by rw [e]))]

theorem lookup_delR_self {r : Regs} {d : Nat} : (delR r (some d)).lookup d = none := by simp only [delR]; rw [lookup_filter_ne, if_pos rfl]

theorem lookup_delU_ne {r : Regs} {d : Option Nat} {t : Nat} (h : d ≠ some t) : (delU r d).lookup t = r.lookup t := by
  cases d with
  | none => rfl
  | some x =>
    simp only [delU, List.lookup]
    have : (t == x) = false := by simp; intro e; exact h (by rw [e])
    rw [this]

theorem lookup_delU_self {r : Regs} {d : Nat} : (delU r (some d)).lookup d = some (.tup []) := by simp [delU]

theorem MLe.refl (m : Mem) : MLe m m := fun _ _ h => h

theorem Val.mem {i : AIns} {rp : Regs} {σ σ' : St} {ρ : Rho} {id : Option Nat} {f : Option (St → Prop)} {v : AVal} (h : Val i rp σ ρ id f v) (hm : MLe σ.mem σ'.mem) : Val i rp σ' ρ id f v := by
  cases h with
  | alloc ao av bk k h0 h1 h2 h3 h4 h5 h6 => exact .alloc ao av bk k h0 h1 h2 h3 h4 h5 (hm _ _ h6)
  | quiet ao av h1 h2 h3 h4 h5 h6 =>
    obtain ⟨e1, e2, e3⟩ := mapM_isE h4
    exact .quiet ao av h1 h2 h3 h4 ((quiet_eval (by rw [e1, h2]) (by rw [e2, h3]) h5).2.1 σ' hm) h6
  | pick c x y b h1 h2 h3 => exact .pick c x y b h1 h2 h3

theorem hist_append {h : Hist} {f : St → Prop} {p : Nat} (hp : p < h.length) : (h ++ [f])[p]? = h[p]? := List.getElem?_append_left hp

/-- An operation that does no more than read, or make a block, is told ahead of its time. -/
theorem DInv.sat {c : Nat} {D : Array Bool} {r : Regs} {σ : St} {h : Hist} {ρ : Rho} {I : Imm} {ids : Nat → Option Nat} {a : Act} {w : World} {Q : Regs → St → Prop} (ok : OkE ops es) (iv : DInv nt B w0 ρ0 I0 σ0 ops es c D r σ h ρ I ids a w) {e : Ent} (he : es[c]? = some e) (hE : e.a.ins.isE = false)
    (hw : dwp P ((es.drop c).map fun e => (e.a, e.rc)) r σ h Q) :
    ∃ r' σ' h' ids', DInv nt B w0 ρ0 I0 σ0 ops es (c + 1) D r' σ' h' ρ I ids' a w ∧ dwp P ((es.drop (c + 1)).map fun e => (e.a, e.rc)) r' σ' h' Q := by
  have hc : c < es.length := (List.getElem?_eq_some_iff.1 he).1
  have hdrop : es.drop c = e :: es.drop (c + 1) := by
    rw [List.drop_eq_getElem_cons hc]; congr 1; exact (List.getElem?_eq_some_iff.1 he).2
  rw [hdrop] at hw
  simp only [List.map_cons, dwp] at hw
  have hnD : D.getD e.idx false = false := iv.eff2 c e (Nat.le_refl _) he
  -- what is common
  have common : ∀ (r' : Regs) (σ' : St) (ids' : Nat → Option Nat) (f : St → Prop), (∀ t, e.a.dst ≠ some t → r'.lookup t = r.lookup t) → Rel B w0 ρ I σ' w → Ext ρ0 I0 σ0 ρ I σ' → MLe σ.mem σ'.mem →
      (∀ p, p < c → ids' p = ids p) → (∀ p k, p < c + 1 → ids' p = some k → k < σ'.next ∧ σ0.next ≤ k) → (∀ p q k, p < q → q < c + 1 → ids' p = some k → ids' q ≠ some k) →
      (((∃ t want b, e.a.guard = some (t, want) ∧ r.lookup t = some b ∧ Skips want b ∧ ∀ d, e.a.dst = some d → r'.lookup d = some (.tup [])) ∨
        ((e.a.guard = none ∨ ∃ t want, e.a.guard = some (t, want) ∧ r.lookup t = some (.bool want)) ∧ ∃ v, (∀ d, e.a.dst = some d → r'.lookup d = some v) ∧ Val e.a.ins r σ' ρ (ids' c) (some f) v))) →
      DInv nt B w0 ρ0 I0 σ0 ops es (c + 1) D r' σ' (h ++ [f]) ρ I ids' a w := by
    intro r' σ' ids' f hr hrel hext hm hi1 hi2 hi3 hout
    refine ⟨iv.dc, ?_, ?_, iv.dsz, hrel, hext, ?_, ?_, hi2, hi3, iv.defers, iv.size, by simp [iv.hlen], hc⟩
    · intro p x hp hx hxE
      rcases Nat.lt_succ_iff_lt_or_eq.1 hp with hp | rfl
      · exact iv.eff1 p x hp hx hxE
      · rw [he] at hx; cases hx; rw [hE] at hxE; cases hxE
    · intro p x hp hx; exact iv.eff2 p x (by omega) hx
    · intro t v hv hall
      have ht : e.a.dst ≠ some t := fun hd => by
        have := hall c e (Nat.lt_succ_self _) he hd
        rw [hnD] at this; cases this
      rw [hr t ht] at hv
      exact iv.regs t v hv fun q x hq hx hd => hall q x (by omega) hx hd
    · intro p x hp hx hD
      rcases Nat.lt_succ_iff_lt_or_eq.1 hp with hp | rfl
      · obtain ⟨rp, g1, g2, g3⟩ := (iv.pend p x hp hx hD).out
        have hdne : ∀ d, x.a.dst = some d → e.a.dst ≠ some d := fun d hd => ok.dst p c x e d hp hx he hd
        refine ⟨rp, g1, fun t ht hs => ?_, ?_⟩
        · have h1 := g2 t ht fun s y hs1 hs2 hy => hs s y hs1 (by omega) hy
          rw [h1, hr t (hs c e (by omega) (Nat.lt_succ_self _) he)]
        · rcases g3 with ⟨t, want, b, k1, k2, k3, k4⟩ | ⟨k1, v, k2, k3⟩
          · exact .inl ⟨t, want, b, k1, k2, k3, fun d hd => by rw [hr d (hdne d hd)]; exact k4 d hd⟩
          · refine .inr ⟨k1, v, fun d hd => by rw [hr d (hdne d hd)]; exact k2 d hd, ?_⟩
            rw [hist_append (by rw [iv.hlen]; exact hp), hi1 p hp]
            exact k3.mem hm
      · rw [he] at hx; cases hx
        refine ⟨r, fun t ht v hv hall => ?_, fun t ht hs => ?_, ?_⟩
        · exact iv.regs t v hv fun q y hq hy hd => hall q y hq hy hd
        · rw [hr t (hs p e (Nat.le_refl _) (Nat.lt_succ_self _) he)]
        · have hl : (h ++ [f])[p]? = some f := by rw [List.getElem?_append_right (by rw [iv.hlen]; exact Nat.le_refl _), iv.hlen]; simp
          rw [hl]; exact hout
  let idn : Nat → Option Nat := fun p => if p = c then none else ids p
  have idnn : ∀ p, p < c → idn p = ids p := fun p hp => if_neg (by omega)
  have idn1 : ∀ p k, p < c + 1 → idn p = some k → k < σ.next ∧ σ0.next ≤ k := fun p k hp hk => by
    by_cases hpc : p = c
    · simp [idn, hpc] at hk
    · exact iv.ids1 p k (by omega) (by rw [← idnn p (by omega)]; exact hk)
  have idn2 : ∀ p q k, p < q → q < c + 1 → idn p = some k → idn q ≠ some k := fun p q k hpq hq hk => by
    by_cases hqc : q = c
    · simp [idn, hqc]
    · rw [idnn q (by omega)]; exact iv.ids2 p q k hpq (by omega) (by rw [← idnn p (by omega)]; exact hk)
  -- carried out
  have exec : (e.a.guard = none ∨ ∃ t want, e.a.guard = some (t, want) ∧ r.lookup t = some (.bool want)) →
      (e.a.ins.wp P r σ fun v σ' => again h σ' e.rc ∧ dwp P ((es.drop (c + 1)).map fun e => (e.a, e.rc)) (setR r e.a.dst v) σ' (h ++ [histOf e.a.ins r σ]) Q) →
      ∃ r' σ' h' ids', DInv nt B w0 ρ0 I0 σ0 ops es (c + 1) D r' σ' h' ρ I ids' a w ∧ dwp P ((es.drop (c + 1)).map fun e => (e.a, e.rc)) r' σ' h' Q := by
    intro hg hw
    cases hi : e.a.ins with
    | call f args => rw [hi] at hE; cases hE
    | next x => rw [hi] at hE; cases hE
    | panic x => rw [hi] at hE; cases hE
    | pick cc x y =>
      rw [hi] at hw
      simp only [AIns.wp] at hw
      split at hw
      · rename_i b hb
        split at hw
        · rename_i v hv
          refine ⟨_, _, _, idn, common (setR r e.a.dst v) σ idn (histOf (.pick cc x y) r σ) (fun t ht => lookup_setR_ne ht) iv.rel iv.ext (MLe.refl _) idnn idn1 idn2 (.inr ⟨hg, v, fun d hd => by rw [hd]; exact lookup_setR_self, ?_⟩), hw.2⟩
          rw [hi]; exact .pick cc x y b rfl hb hv
        · exact hw.elim
      · exact hw.elim
    | op ao =>
      have hE' : ao.isE = false := by rw [hi] at hE; exact hE
      rw [hi] at hw
      simp only [AIns.wp] at hw
      split at hw
      · rename_i v σ1 hev
        simp only [Option.bind_eq_some_iff] at hev
        obtain ⟨av, hm, hv⟩ := hev
        obtain ⟨e1, e2, e3⟩ := mapM_isE hm
        cases hA : ao.isA with
        | true =>
          rw [evalV_A (by rw [e2, hA])] at hv
          simp only [made, Option.map_eq_some_iff] at hv
          obtain ⟨⟨v', bk⟩, ha, hv⟩ := hv
          cases hv
          have hmle : MLe σ.mem (σ.mem.set σ.next bk) := fun x b hb => by
            rw [Mem.get_set_ne _ _ (fun e => by rw [e, iv.rel.memfresh] at hb; cases hb)]; exact hb
          refine ⟨_, _, _, fun p => if p = c then some σ.next else ids p, common (setR r e.a.dst v') ⟨σ.mem.set σ.next bk, σ.next + 1⟩ (fun p => if p = c then some σ.next else ids p) (histOf (.op ao) r σ) (fun t ht => lookup_setR_ne ht) (iv.rel.addAbs bk) (iv.ext.trans (Ext.addAbs bk)) hmle
            (fun p hp => if_neg (by omega)) ?_ ?_ (.inr ⟨hg, v', fun d hd => by rw [hd]; exact lookup_setR_self, ?_⟩), hw.2⟩
          · intro p k hp hk
            by_cases hpc : p = c
            · rw [if_pos hpc] at hk; cases hk; exact ⟨Nat.lt_succ_self _, iv.ext.next⟩
            · rw [if_neg hpc] at hk
              have := iv.ids1 p k (by omega) hk
              exact ⟨Nat.lt_succ_of_lt this.1, this.2⟩
          · intro p q k hpq hq hk
            rw [if_neg (by omega)] at hk
            by_cases hqc : q = c
            · rw [if_pos hqc]
              have := iv.ids1 p k (by omega) hk
              intro hh; cases hh; omega
            · rw [if_neg hqc]
              exact iv.ids2 p q k hpq (by omega) hk
          · rw [hi]; simp only [if_true]
            exact .alloc ao av bk _ rfl rfl hA hm ha iv.rel.fresh (by simp)
        | false =>
          obtain ⟨q1, q2, q3, q4⟩ := quiet_eval (by rw [e1, hE']) (by rw [e2, hA]) hv
          subst q1
          refine ⟨_, _, _, idn, common (setR r e.a.dst v) σ1 idn (histOf (.op ao) r σ1) (fun t ht => lookup_setR_ne ht) iv.rel iv.ext (MLe.refl _) idnn idn1 idn2 (.inr ⟨hg, v, fun d hd => by rw [hd]; exact lookup_setR_self, ?_⟩), hw.2⟩
          · rw [hi]
            refine .quiet ao av rfl hE' hA hm hv fun _ => ⟨_, rfl, fun σ' hg' => ?_⟩
            simp only [histOf, hm, hv, Option.map_some, Option.map_eq_some_iff] at hg'
            obtain ⟨⟨v2, σ2⟩, k1, k2⟩ := hg'
            dsimp only at k2; subst k2
            have := q4 σ' _ σ2 k1
            rw [k1, this]
      · exact hw.elim
  cases hgd : e.a.guard with
  | none =>
    rw [hgd] at hw
    exact exec (.inl hgd) hw
  | some g =>
    obtain ⟨t, want⟩ := g
    rw [hgd] at hw
    simp only at hw
    split at hw
    · rename_i b hb
      by_cases hbw : b = want
      · rw [if_pos hbw] at hw
        exact exec (.inr ⟨t, want, hgd, by rw [hb, hbw]⟩) hw
      · rw [if_neg hbw] at hw
        exact ⟨_, _, _, idn, common (delU r e.a.dst) σ idn (fun _ => True) (fun t ht => lookup_delU_ne ht) iv.rel iv.ext (MLe.refl _) idnn idn1 idn2 (.inl ⟨t, want, _, hgd, hb, .inl ⟨b, rfl, hbw⟩, fun d hd => by rw [hd]; exact lookup_delU_self⟩), hw⟩
    · rename_i hb
      exact ⟨_, _, _, idn, common (delU r e.a.dst) σ idn (fun _ => True) (fun t ht => lookup_delU_ne ht) iv.rel iv.ext (MLe.refl _) idnn idn1 idn2 (.inl ⟨t, want, _, hgd, hb, .inr rfl, fun d hd => by rw [hd]; exact lookup_delU_self⟩), hw⟩
    · exact hw.elim

end
end Go.Proofs.Ytopagbaokokjdaa.AM

/- The abstract machine: regions whose order is open: an effect; what is told already. -/
namespace Go.Proofs.Ytopagbaokokjdaa.AM
open Go.RowKit
set_option linter.unusedVariables false
set_option linter.unusedSimpArgs false

section
variable {P : Env} {nt : Nat} {B : Nat} {w0 : Root} {ρ0 : Rho} {I0 : Imm} {σ0 : St} {A : Array Oper} {es : List Ent}

theorem getD_set (D : Array Bool) (i j : Nat) (hi : i < D.size) : (D.setIfInBounds i true).getD j false = if j = i then true else D.getD j false := by
  simp only [Array.getD_eq_getD_getElem?]
  by_cases h : j = i
  · subst h; rw [Array.getElem?_setIfInBounds_self]; simp [hi]
  · rw [Array.getElem?_setIfInBounds_ne (fun e => h e.symm), if_neg h]

theorem compOper_spec {ops : List Oper} {o : Oper} {a : AOper} (h : compOper P.prog nt ops o = some a) : ∃ ins, compIns P.prog o = some ins ∧ a.ins = ins ∧ a.dst = o.dst ∧ (∀ x, o.dst = some x → x < nt) ∧
    ((o.guard = none ∧ a.guard = none) ∨ ∃ j w t, o.guard = some (j, w) ∧ (ops[j]?).bind (·.dst) = some t ∧ a.guard = some (t, w)) := by
  simp only [compOper, Option.bind_eq_some_iff, Option.ite_none_right_eq_some] at h
  obtain ⟨ins, h1, h2, h3⟩ := h
  refine ⟨ins, h1, ?_⟩
  have hd : ∀ x, o.dst = some x → x < nt := by
    intro x hx; rw [hx] at h2; simpa using h2
  split at h3
  · rename_i hg
    injection h3 with h3; subst h3
    exact ⟨rfl, rfl, hd, .inl ⟨hg, rfl⟩⟩
  · rename_i j w hg
    simp only [Option.map_eq_some_iff] at h3
    obtain ⟨t, h4, h3⟩ := h3
    subst h3
    exact ⟨rfl, rfl, hd, .inr ⟨j, w, t, hg, h4, rfl⟩⟩

/-- The parts of what is still to be done, when one more is done. -/
theorem DInv.done {c c' : Nat} {D : Array Bool} {r : Regs} {σ : St} {h : Hist} {ρ : Rho} {I : Imm} {ids : Nat → Option Nat} {a : Act} {w : World} (ok : OkE A.toList es) (iv : DInv nt B w0 ρ0 I0 σ0 A.toList es c D r σ h ρ I ids a w) {p : Nat} {e : Ent} (he : es[p]? = some e) (hp : p < c') (hpc : p ≤ c)
    {o : Oper} (ho : A.toList[e.idx]? = some o) (hready : ∀ x ∈ edgesOf o, D.getD x false = true) :
    DC A.toList (D.setIfInBounds e.idx true) ∧ (∀ j, (D.setIfInBounds e.idx true).getD j false = if j = e.idx then true else D.getD j false) ∧ (D.setIfInBounds e.idx true).size = A.toList.length ∧
    (∀ i, ((ancL A.toList).getD e.idx 0).testBit i = true → D.getD i false = true) ∧ (∀ q x, q ≠ p → es[q]? = some x → x.idx ≠ e.idx) := by
  have hlt : e.idx < D.size := by rw [iv.dsz]; exact (List.getElem?_eq_some_iff.1 ho).1
  have hg := fun j => getD_set D e.idx j hlt
  refine ⟨?_, hg, by rw [Array.size_setIfInBounds]; exact iv.dsz, fun i hi => iv.dc.anc ok.edge ok.anc e.idx o ho hready i hi, ?_⟩
  · intro j o' ho' hj x hx
    rw [hg] at hj ⊢
    by_cases hje : j = e.idx
    · subst hje
      rw [ho] at ho'; cases ho'
      split
      · rfl
      · exact hready x hx
    · rw [if_neg hje] at hj
      split
      · rfl
      · exact iv.dc j o' ho' hj x hx
  · intro q x hq hx
    rcases Nat.lt_or_gt_of_ne hq with hq | hq
    · exact ok.ne q p x e hq hx he
    · exact fun hh => ok.ne p q e x hq he hx hh.symm

/-- An effect is done at its time. -/
theorem DInv.eff (hmu : ∀ a vs σ K, ¬ P.yld a vs σ K) {c : Nat} {D : Array Bool} {r : Regs} {σ : St} {h : Hist} {ρ : Rho} {I : Imm} {ids : Nat → Option Nat} {a : Act} {w : World} {Q : Regs → St → Prop} (ok : OkE A.toList es) (iv : DInv nt B w0 ρ0 I0 σ0 A.toList es c D r σ h ρ I ids a w) {e : Ent} (he : es[c]? = some e) (hE : e.a.ins.isE = true)
    (hw : dwp P ((es.drop c).map fun e => (e.a, e.rc)) r σ h Q) {o : Oper} (ho : A.toList[e.idx]? = some o) (hcp : compOper P.prog nt A.toList o = some e.a) (hready : ∀ x ∈ edgesOf o, D.getD x false = true) {K : Act → World → Prop} {E : Exit → Act → World → Prop}
    (hK : ∀ r' σ' h' ρ' I' a' w', DInv nt B w0 ρ0 I0 σ0 A.toList es (c + 1) (D.setIfInBounds e.idx true) r' σ' h' ρ' I' (fun p => if p = c then none else ids p) a' w' → dwp P ((es.drop (c + 1)).map fun e => (e.a, e.rc)) r' σ' h' Q → K a' w') (hT : ∀ chain a w, a.defers = w0.ds → LiftT B w0 ρ0 I0 σ0 P.thr chain w → E (.panic chain) a w) : wpOp P.prog A E e.idx K a w := by
  have hc : c < es.length := (List.getElem?_eq_some_iff.1 he).1
  have hdrop : es.drop c = e :: es.drop (c + 1) := by
    rw [List.drop_eq_getElem_cons hc]; congr 1; exact (List.getElem?_eq_some_iff.1 he).2
  rw [hdrop] at hw
  simp only [List.map_cons, dwp] at hw
  obtain ⟨g1, g2, g3, g4, g5⟩ := iv.done ok he (Nat.lt_succ_self c) (Nat.le_refl _) ho hready
  obtain ⟨ins, k1, k2, k3, k4, k5⟩ := compOper_spec hcp
  have hoA : A[e.idx]? = some o := by rw [← Array.getElem?_toList]; exact ho
  -- its operands are there
  have hreg : RegsRel ρ I (norm e.a.names r) a.tmps := by
    intro t v hv
    have hmem : t ∈ e.a.names := by
      simp only [norm] at hv
      have := List.lookup_isSome_iff.1 (by rw [hv]; rfl : (List.lookup t (List.filterMap (fun t => Option.map (fun v => (t, v)) (List.lookup t r)) e.a.names)).isSome = true)
      obtain ⟨x, hx, hxt⟩ := this
      simp only [List.mem_filterMap, Option.map_eq_some_iff] at hx
      obtain ⟨t', ht', v', _, rfl⟩ := hx
      simp at hxt; subst hxt; exact ht'
    rw [norm_lookup hmem] at hv
    refine iv.regs t v hv fun q x hq hx hd => ?_
    exact g4 _ (ok.conf q c x e t hq hx he (.inl ⟨hd, hmem⟩))
  let idn : Nat → Option Nat := fun p => if p = c then none else ids p
  have idnn : ∀ p, p < c → idn p = ids p := fun p hp => if_neg (by omega)
  -- what is common
  have common : ∀ (r' : Regs) (σ' : St) (ρ' : Rho) (I' : Imm) (a' : Act) (w' : World) (f : St → Prop), (∀ t, e.a.dst ≠ some t → r'.lookup t = r.lookup t) → (∀ t, e.a.dst ≠ some t → a'.tmps[t]? = a.tmps[t]?) → (∀ t v, e.a.dst = some t → r'.lookup t = some v → ∃ cv, a'.tmps[t]? = some cv ∧ VRel ρ' I' v cv) →
      Rel B w0 ρ' I' σ' w' → Ext ρ I σ ρ' I' σ' → (∀ p x, p < c → es[p]? = some x → D.getD x.idx false = false → ∀ rp v, Val x.a.ins rp σ ρ (ids p) h[p]? v → Val x.a.ins rp σ' ρ' (ids p) h[p]? v) → a'.defers = w0.ds → a'.tmps.size = nt →
      DInv nt B w0 ρ0 I0 σ0 A.toList es (c + 1) (D.setIfInBounds e.idx true) r' σ' (h ++ [f]) ρ' I' idn a' w' := by
    intro r' σ' ρ' I' a' w' f hr ha hdst hrel hext hval hd hs
    have hrle : RLe ρ ρ' := hext.rle iv.rel
    refine ⟨g1, ?_, ?_, g3, hrel, iv.ext.trans hext, ?_, ?_, ?_, ?_, hd, hs, by simp [iv.hlen], hc⟩
    · intro p x hp hx hxE
      rw [g2]
      split
      · rfl
      · rename_i hne
        rcases Nat.lt_succ_iff_lt_or_eq.1 hp with hp | rfl
        · exact iv.eff1 p x hp hx hxE
        · rw [he] at hx; cases hx; exact absurd rfl hne
    · intro p x hp hx
      rw [g2, if_neg (g5 p x (by omega) hx)]
      exact iv.eff2 p x (by omega) hx
    · intro t v hv hall
      by_cases ht : e.a.dst = some t
      · exact hdst t v ht hv
      · rw [hr t ht] at hv
        obtain ⟨cv, c1, c2⟩ := iv.regs t v hv fun q x hq hx hdd => by
          have := hall q x (by omega) hx hdd
          rw [g2, if_neg (g5 q x (by omega) hx)] at this; exact this
        exact ⟨cv, by rw [ha t ht]; exact c1, c2.mono hrle hext.imm⟩
    · intro p x hp hx hD
      rw [g2] at hD
      split at hD
      · cases hD
      · rename_i hne
        have hp : p < c := by
          rcases Nat.lt_succ_iff_lt_or_eq.1 hp with hp | rfl
          · exact hp
          · rw [he] at hx; cases hx; exact absurd rfl hne
        obtain ⟨rp, q1, q2, q3⟩ := (iv.pend p x hp hx hD).out
        have hnames : ∀ t ∈ x.a.names, e.a.dst ≠ some t := fun t ht hd => by
          have := g4 _ (ok.conf p c x e t hp hx he (.inr ⟨hd, ht⟩))
          rw [hD] at this; cases this
        have hdne : ∀ d, x.a.dst = some d → e.a.dst ≠ some d := fun d hd => ok.dst p c x e d hp hx he hd
        refine ⟨rp, fun t ht v hv hall => ?_, fun t ht hs => ?_, ?_⟩
        · obtain ⟨cv, c1, c2⟩ := q1 t ht v hv fun q y hq hy hdd => by
            have := hall q y hq hy hdd
            rw [g2, if_neg (g5 q y (by omega) hy)] at this; exact this
          exact ⟨cv, by rw [ha t (hnames t ht)]; exact c1, c2.mono hrle hext.imm⟩
        · rw [q2 t ht fun s y hs1 hs2 hy => hs s y hs1 (by omega) hy, hr t (hnames t ht)]
        · rcases q3 with ⟨t, want, b, m1, m2, m3, m4⟩ | ⟨m1, v, m2, m3⟩
          · exact .inl ⟨t, want, b, m1, m2, m3, fun d hd => by rw [hr d (hdne d hd)]; exact m4 d hd⟩
          · refine .inr ⟨m1, v, fun d hd => by rw [hr d (hdne d hd)]; exact m2 d hd, ?_⟩
            rw [hist_append (by rw [iv.hlen]; exact hp), idnn p hp]
            exact hval p x hp hx hD rp v m3
    · intro p k hp hk
      by_cases hpc : p = c
      · simp [idn, hpc] at hk
      · rw [idnn p (by omega)] at hk
        have := iv.ids1 p k (by omega) hk
        exact ⟨Nat.lt_of_lt_of_le this.1 hext.next, this.2⟩
    · intro p q k hpq hq hk
      by_cases hqc : q = c
      · simp [idn, hqc]
      · rw [idnn q (by omega)]; exact iv.ids2 p q k hpq (by omega) (by rw [← idnn p (by omega)]; exact hk)
  have hput : ∀ (cv : Value) (t : Nat), e.a.dst ≠ some t → (a.put o.dst cv).tmps[t]? = a.tmps[t]? := by
    intro cv t ht
    rw [k3] at ht
    cases hd : o.dst with
    | none => rfl
    | some d => simp only [Act.put]; rw [Array.getElem?_setIfInBounds_ne (fun hh => ht (by rw [hd, hh]))]
  -- carried out
  have exec : (e.a.ins.wp P r σ fun v σ' => again h σ' e.rc ∧ dwp P ((es.drop (c + 1)).map fun e => (e.a, e.rc)) (setR r e.a.dst v) σ' (h ++ [histOf e.a.ins r σ]) Q) → o.wp P.prog a w K E := by
    intro hw
    have hwn : e.a.ins.wp P (norm e.a.names r) σ fun v σ' => again h σ' e.rc ∧ dwp P ((es.drop (c + 1)).map fun e => (e.a, e.rc)) (setR r e.a.dst v) σ' (h ++ [histOf e.a.ins r σ]) Q :=
      AIns.wp_congr (fun t ht => (norm_lookup (by simp only [AOper.names, List.mem_append]; exact .inl ht)).symm) hw
    -- what was told, behind the effect
    have hval : ∀ σ' ρ' I', again h σ' e.rc → Ext ρ I σ ρ' I' σ' → ∀ p x, p < c → es[p]? = some x → D.getD x.idx false = false → ∀ rp v, Val x.a.ins rp σ ρ (ids p) h[p]? v → Val x.a.ins rp σ' ρ' (ids p) h[p]? v := by
      intro σ' ρ' I' hag hext p x hp hx hD rp v' hv
      cases hv with
      | alloc ao av bk k h0 h1 h2 h3 h4 h5 h6 =>
        have hk := (iv.ids1 p k hp h0).1
        exact .alloc ao av bk k h0 h1 h2 h3 h4 (by rw [hext.rho k hk]; exact h5) (by rw [hext.keep k hk h5]; exact h6)
      | quiet ao av h1 h2 h3 h4 h5 h6 =>
        obtain ⟨e1, e2, e3⟩ := mapM_isE h4
        refine .quiet ao av h1 h2 h3 h4 ?_ h6
        cases hr : ao.reads with
        | false => exact (quiet_eval (by rw [e1, h2]) (by rw [e2, h3]) h5).2.2.1 (by rw [e3, hr]) σ'
        | true =>
          obtain ⟨g, hg1, hg2⟩ := h6 hr
          rcases ok.rc p c x e hp hx he hE (by rw [h1]; exact h2) (by rw [h1]; exact hr) with hb | hb
          · have := g4 _ hb; rw [hD] at this; cases this
          · refine hg2 σ' ?_
            have : ∀ l : List Nat, again h σ' l → p ∈ l → g σ' := by
              intro l
              induction l with
              | nil => intro _ hm; cases hm
              | cons y ys ih =>
                intro hl hm
                simp only [again] at hl
                rcases List.mem_cons.1 hm with rfl | hm
                · rw [hg1] at hl; exact hl.1
                · exact ih hl.2 hm
            exact this _ hag hb
      | pick cc xx y b h1 h2 h3 => exact .pick cc xx y b h1 h2 h3
    refine ins_sound hmu (k2 ▸ k1) hwn hreg iv.rel ?_ ?_ (fun chain w' hl => hT chain a w' iv.defers (hl.ext iv.ext))
    · intro v σ' ρ' I' cv w' hq hv rl' ex
      refine hK _ _ _ _ _ _ _ (common (setR r e.a.dst v) σ' ρ' I' (a.put o.dst cv) w' (histOf e.a.ins r σ) (fun t ht => lookup_setR_ne ht) (hput cv) ?_ rl' ex (hval σ' ρ' I' hq.1 ex) (by rw [defers_put]; exact iv.defers) (by rw [size_put]; exact iv.size)) hq.2
      intro t u ht hu
      rw [ht, lookup_setR_self] at hu; cases hu
      refine ⟨cv, ?_, hv⟩
      rw [← k3, ht]
      simp only [Act.put]
      rw [Array.getElem?_setIfInBounds_self]
      have := k4 t (by rw [← k3]; exact ht)
      rw [iv.size]; simp [this]
    · intro v σ' ρ' I' w' hdn hq rl' ex
      have hdn' : e.a.dst = none := by rw [k3]; exact hdn
      refine hK _ _ _ _ _ _ _ (common (setR r e.a.dst v) σ' ρ' I' a w' (histOf e.a.ins r σ) (fun t ht => lookup_setR_ne ht) (fun _ _ => rfl) (fun t u ht => by rw [hdn'] at ht; cases ht) rl' ex (hval σ' ρ' I' hq.1 ex) iv.defers iv.size) hq.2
  have skip : dwp P ((es.drop (c + 1)).map fun e => (e.a, e.rc)) (delU r e.a.dst) σ (h ++ [fun _ : St => True]) Q → K (a.put o.dst undef) w := by
    intro hw
    refine hK _ _ _ _ _ _ _ (common (delU r e.a.dst) σ ρ I (a.put o.dst undef) w (fun _ => True) (fun t ht => lookup_delU_ne ht) (hput undef) (fun t u ht hu => ?_) iv.rel (Ext.refl _ _ _) (fun p x hp hx hD rp v hv => hv) (by rw [defers_put]; exact iv.defers) (by rw [size_put]; exact iv.size)) hw
    rw [ht, lookup_delU_self] at hu; cases hu
    refine ⟨undef, ?_, vrel_undef⟩
    rw [← k3, ht]
    simp only [Act.put]
    rw [Array.getElem?_setIfInBounds_self]
    have := k4 t (by rw [← k3]; exact ht)
    rw [iv.size]; simp [this]
  unfold wpOp
  rw [hoA]
  simp only
  rcases k5 with ⟨q1, q2⟩ | ⟨j, wt, t, q1, q2, q3⟩
  · rw [q2] at hw
    rw [if_pos (by simp [Region.wanted, q1])]
    exact .inl (exec hw)
  · rw [q3] at hw
    simp only at hw
    split at hw
    · rename_i b hb
      have hnt : t ∈ e.a.names := by simp only [AOper.names, q3, List.mem_append]; exact .inr (by simp)
      have hy := yielded_eq (ops := A) (j := j) q2 (by rw [norm_lookup hnt]; exact hb) hreg
      by_cases hbw : b = wt
      · rw [if_pos hbw] at hw
        rw [if_pos (by simp [Region.wanted, q1, hy, hbw])]
        exact .inl (exec hw)
      · rw [if_neg hbw] at hw
        rw [if_neg (by simp [Region.wanted, q1, hy, hbw])]
        exact skip hw
    · rename_i hb
      have hnt : t ∈ e.a.names := by simp only [AOper.names, q3, List.mem_append]; exact .inr (by simp)
      have hy := yielded_undef (ops := A) (j := j) q2 (by rw [norm_lookup hnt]; exact hb) hreg
      rw [if_neg (by simp [Region.wanted, q1, hy])]
      exact skip hw
    · exact hw.elim

end
end Go.Proofs.Ytopagbaokokjdaa.AM

/- The abstract machine: regions whose order is open: what is told already is done at some time. -/
namespace Go.Proofs.Ytopagbaokokjdaa.AM
open Go.RowKit
set_option linter.unusedVariables false
set_option linter.unusedSimpArgs false

section
variable {P : Env} {nt : Nat} {B : Nat} {w0 : Root} {ρ0 : Rho} {I0 : Imm} {σ0 : St} {A : Array Oper} {es : List Ent}

theorem norm_regs {ρ : Rho} {I : Imm} {r : Regs} {keep : List Nat} {tmps : Array Value} (h : ∀ t ∈ keep, ∀ v, r.lookup t = some v → ∃ cv, tmps[t]? = some cv ∧ VRel ρ I v cv) : RegsRel ρ I (norm keep r) tmps := by
  intro t v hv
  have hmem : t ∈ keep := by
    simp only [norm] at hv
    have := List.lookup_isSome_iff.1 (by rw [hv]; rfl : (List.lookup t (List.filterMap (fun t => Option.map (fun v => (t, v)) (List.lookup t r)) keep)).isSome = true)
    obtain ⟨x, hx, hxt⟩ := this
    simp only [List.mem_filterMap, Option.map_eq_some_iff] at hx
    obtain ⟨t', ht', v', _, rfl⟩ := hx
    simp at hxt; subst hxt; exact ht'
  rw [norm_lookup hmem] at hv
  exact h t hmem v hv

theorem DInv.late {c : Nat} {D : Array Bool} {r : Regs} {σ : St} {h : Hist} {ρ : Rho} {I : Imm} {ids : Nat → Option Nat} {a : Act} {w : World} (ok : OkE A.toList es) (iv : DInv nt B w0 ρ0 I0 σ0 A.toList es c D r σ h ρ I ids a w) {p : Nat} {e : Ent} (he : es[p]? = some e) (hp : p < c) (hD : D.getD e.idx false = false)
    {o : Oper} (ho : A.toList[e.idx]? = some o) (hcp : compOper P.prog nt A.toList o = some e.a) (hready : ∀ x ∈ edgesOf o, D.getD x false = true) {K : Act → World → Prop} {E : Exit → Act → World → Prop}
    (hK : ∀ ρ' I' a' w', DInv nt B w0 ρ0 I0 σ0 A.toList es c (D.setIfInBounds e.idx true) r σ h ρ' I' ids a' w' → K a' w') : wpOp P.prog A E e.idx K a w := by
  obtain ⟨g1, g2, g3, g4, g5⟩ := iv.done ok he hp (Nat.le_of_lt hp) ho hready
  obtain ⟨ins, k1, k2, k3, k4, k5⟩ := compOper_spec hcp
  have hoA : A[e.idx]? = some o := by rw [← Array.getElem?_toList]; exact ho
  obtain ⟨rp, q1, q2, q3⟩ := (iv.pend p e hp he hD).out
  have hreg : RegsRel ρ I (norm e.a.names rp) a.tmps := norm_regs fun t ht v hv => q1 t ht v hv fun q x hq hx hd => g4 _ (ok.conf q p x e t hq hx he (.inl ⟨hd, ht⟩))
  have hput : ∀ (cv : Value) (t : Nat), e.a.dst ≠ some t → (a.put o.dst cv).tmps[t]? = a.tmps[t]? := by
    intro cv t ht
    rw [k3] at ht
    cases hd : o.dst with
    | none => rfl
    | some d => simp only [Act.put]; rw [Array.getElem?_setIfInBounds_ne (fun hh => ht (by rw [hd, hh]))]
  have hself : ∀ (cv : Value) (t : Nat), e.a.dst = some t → (a.put o.dst cv).tmps[t]? = some cv := by
    intro cv t ht
    rw [← k3, ht]
    simp only [Act.put]
    rw [Array.getElem?_setIfInBounds_self]
    have := k4 t (by rw [← k3]; exact ht)
    rw [iv.size]; simp [this]
  have common : ∀ (ρ' : Rho) (I' : Imm) (cv : Value) (w' : World), RLe ρ ρ' → ILe I I' → Rel B w0 ρ' I' σ w' → Ext ρ0 I0 σ0 ρ' I' σ → (∀ q k, q ≠ p → q < c → ids q = some k → ρ k = none → ρ' k = none) → (∀ t v, e.a.dst = some t → r.lookup t = some v → VRel ρ' I' v cv) →
      DInv nt B w0 ρ0 I0 σ0 A.toList es c (D.setIfInBounds e.idx true) r σ h ρ' I' ids (a.put o.dst cv) w' := by
    intro ρ' I' cv w' hrle hile hrel hext hids hdst
    refine ⟨g1, ?_, ?_, g3, hrel, hext, ?_, ?_, iv.ids1, iv.ids2, by rw [defers_put]; exact iv.defers, by rw [size_put]; exact iv.size, iv.hlen, iv.cle⟩
    · intro q x hq hx hxE
      rw [g2]; split
      · rfl
      · exact iv.eff1 q x hq hx hxE
    · intro q x hq hx
      rw [g2, if_neg (g5 q x (by omega) hx)]
      exact iv.eff2 q x hq hx
    · intro t v hv hall
      by_cases ht : e.a.dst = some t
      · exact ⟨cv, hself cv t ht, hdst t v ht hv⟩
      · obtain ⟨u, c1, c2⟩ := iv.regs t v hv fun q x hq hx hdd => by
          have hqp : q ≠ p := fun hh => by subst hh; rw [he] at hx; cases hx; exact ht hdd
          have := hall q x hq hx hdd
          rw [g2, if_neg (g5 q x hqp hx)] at this; exact this
        exact ⟨u, by rw [hput cv t ht]; exact c1, c2.mono hrle hile⟩
    · intro q x hq hx hDx
      rw [g2] at hDx
      split at hDx
      · cases hDx
      · rename_i hne
        have hqp : q ≠ p := fun hh => by subst hh; rw [he] at hx; cases hx; exact hne rfl
        obtain ⟨rq, m1, m2, m3⟩ := (iv.pend q x hq hx hDx).out
        refine ⟨rq, fun t ht v hv hall => ?_, m2, ?_⟩
        · by_cases hte : e.a.dst = some t
          · rcases Nat.lt_or_gt_of_ne hqp with hlt | hgt
            · -- what reads it stands ahead
              have := g4 _ (ok.conf q p x e t hlt hx he (.inr ⟨hte, ht⟩))
              rw [hDx] at this; cases this
            · have hl := m2 t ht fun s y hs1 hs2 hy hdy => ok.dst p s e y t (by omega) he hy hte hdy
              rw [hl] at hv
              exact ⟨cv, hself cv t hte, hdst t v hte hv⟩
          · obtain ⟨u, c1, c2⟩ := m1 t ht v hv fun s y hs hy hdy => by
              have hsp : s ≠ p := fun hh => by subst hh; rw [he] at hy; cases hy; exact hte hdy
              have := hall s y hs hy hdy
              rw [g2, if_neg (g5 s y hsp hy)] at this; exact this
            exact ⟨u, by rw [hput cv t hte]; exact c1, c2.mono hrle hile⟩
        · rcases m3 with hh | ⟨n1, v, n2, n3⟩
          · exact .inl hh
          · refine .inr ⟨n1, v, n2, ?_⟩
            cases n3 with
            | alloc ao av bk k h0 h1 h2 h3 h4 h5 h6 => exact .alloc ao av bk k h0 h1 h2 h3 h4 (hids q k hqp hq h0 h5) h6
            | quiet ao av h1 h2 h3 h4 h5 h6 => exact .quiet ao av h1 h2 h3 h4 h5 h6
            | pick cc xx yy b h1 h2 h3 => exact .pick cc xx yy b h1 h2 h3
  -- carried out
  have exec : ∀ v, (∀ d, e.a.dst = some d → r.lookup d = some v) → Val e.a.ins rp σ ρ (ids p) h[p]? v → o.wp P.prog a w K E := by
    intro v hv hval
    have hvv : ∀ t u, e.a.dst = some t → r.lookup t = some u → u = v := fun t u ht hu => by rw [hv t ht] at hu; cases hu; rfl
    have hcong : ∀ x ∈ e.a.ins.opsL, evalOpd rp x = evalOpd (norm e.a.names rp) x := evalOpd_congr fun t ht => (norm_lookup (by simp only [AOper.names, List.mem_append]; exact .inl ht)).symm
    have quiet : e.a.ins.wp (Env.of P.prog) (norm e.a.names rp) σ (fun v' σ' => v' = v ∧ σ' = σ) → o.wp P.prog a w K E := by
      intro hw
      refine ins_sound (P := Env.of P.prog) (fun _ _ _ _ h => h) (k2 ▸ k1) hw hreg iv.rel ?_ ?_ (fun _ _ hl => hl.no.elim)
      · rintro v' σ' ρ' I' cv w' ⟨rfl, rfl⟩ hvr rl' ex
        refine hK _ _ _ _ (common ρ' I' cv w' (ex.rle iv.rel) ex.imm rl' (iv.ext.trans ex) (fun q k hqp hq hk hn => by rw [ex.rho k (iv.ids1 q k hq hk).1]; exact hn) fun t u ht hu => by rw [hvv t u ht hu]; exact hvr)
      · rintro v' σ' ρ' I' w' hdn ⟨rfl, rfl⟩ rl' ex
        have := common ρ' I' undef w' (ex.rle iv.rel) ex.imm rl' (iv.ext.trans ex) (fun q k hqp hq hk hn => by rw [ex.rho k (iv.ids1 q k hq hk).1]; exact hn) (fun t u ht hu => by rw [k3, hdn] at ht; cases ht)
        rw [hdn] at this
        exact hK _ _ _ _ this
    cases hval with
    | quiet ao av h1 h2 h3 h4 h5 h6 =>
      refine quiet ?_
      rw [h1] at hcong ⊢
      simp only [AIns.wp]
      rw [← AOp.mapM_congr (f := evalOpd rp) (g := evalOpd (norm e.a.names rp)) hcong, h4]
      simp only [Option.bind_some, h5, and_self]
    | pick cc xx yy b h1 h2 h3 =>
      refine quiet ?_
      rw [h1] at hcong ⊢
      simp only [AIns.wp]
      rw [← hcong cc (by simp [AIns.opsL]), ← hcong xx (by simp [AIns.opsL]), ← hcong yy (by simp [AIns.opsL]), h2]
      simp only [h3, and_self]
    | alloc ao av bk k h0 h1 h2 h3 h4 h5 h6 =>
      have hc0 : compIns P.prog o = some (.op ao) := by rw [k1, ← k2, h1]
      have hco : compOp2 P.prog o.op = some ao := by
        unfold compIns at hc0
        split at hc0
        · simp only [Option.bind_eq_some_iff, Option.map_eq_some_iff] at hc0
          obtain ⟨_, _, _, _, _, _, hh⟩ := hc0; cases hh
        · simp only [Option.bind_eq_some_iff, Option.map_eq_some_iff] at hc0
          obtain ⟨_, _, _, _, hh⟩ := hc0; cases hh
        · simp only [Option.map_eq_some_iff] at hc0
          obtain ⟨_, _, hh⟩ := hc0; cases hh
        · simp only [Option.map_eq_some_iff] at hc0
          obtain ⟨_, _, hh⟩ := hc0; cases hh
        · simp only [Option.bind_eq_some_iff] at hc0
          obtain ⟨ao', hh1, hh2⟩ := hc0
          split at hh2
          · cases hh2
          · cases hh2; exact hh1
      rw [h1] at hcong
      have hm : ao.mapM (evalOpd (norm e.a.names rp)) = some av := by rw [← AOp.mapM_congr (f := evalOpd rp) (g := evalOpd (norm e.a.names rp)) hcong]; exact h3
      obtain ⟨cv, w', pl, z1, z2, z3⟩ := alloc_op_sound2 (P := P.prog) hco h2 hm h4 hreg h5 h6 iv.rel
      have hk := iv.ids1 p k hp h0
      unfold Oper.wp
      rw [z1]
      simp only [Oper.upon]
      refine hK _ _ _ _ (common (upd ρ k pl) I cv w' (upd_le' h5 pl) (ILe.refl _) z3 ⟨fun x hx => ?_, iv.ext.imm, iv.ext.next, iv.ext.keep⟩ (fun q k' hqp hq hk' hn => ?_) fun t u ht hu => by rw [hvv t u ht hu]; exact z2)
      · rw [upd_ne _ _ (by omega)]; exact iv.ext.rho x hx
      · rw [upd_ne _ _ ?_]
        · exact hn
        · intro hh; subst hh
          rcases Nat.lt_or_gt_of_ne hqp with hlt | hgt
          · exact iv.ids2 q p _ hlt hp hk' h0
          · exact iv.ids2 p q _ hgt hq h0 hk'
  unfold wpOp
  rw [hoA]
  simp only
  rcases q3 with ⟨t, want, b, m1, m2, m3, m4⟩ | ⟨m1, v, m2, m3⟩
  · rcases k5 with ⟨j1, j2⟩ | ⟨j, wt, t', j1, j2, j3⟩
    · rw [j2] at m1; cases m1
    · rw [j3] at m1; cases m1
      have hnt : t ∈ e.a.names := by simp only [AOper.names, j3, List.mem_append]; exact .inr (by simp)
      have hnw : ¬ Region.wanted o (yielded A a.tmps) = true := by
        rcases m3 with ⟨b, rfl, m3⟩ | rfl
        · have hy := yielded_eq (ops := A) (j := j) j2 (by rw [norm_lookup hnt]; exact m2) hreg
          simp [Region.wanted, j1, hy, m3]
        · have hy := yielded_undef (ops := A) (j := j) j2 (by rw [norm_lookup hnt]; exact m2) hreg
          simp [Region.wanted, j1, hy]
      rw [if_neg hnw]
      exact hK _ _ _ _ (common ρ I undef w (RLe.refl _) (ILe.refl _) iv.rel iv.ext (fun _ _ _ _ _ hn => hn) fun x u hx hu => by rw [m4 x hx] at hu; cases hu; exact vrel_undef)
  · have hwant : Region.wanted o (yielded A a.tmps) = true := by
      rcases k5 with ⟨j1, j2⟩ | ⟨j, wt, t', j1, j2, j3⟩
      · simp [Region.wanted, j1]
      · rcases m1 with m1 | ⟨t, want, m1, m1'⟩
        · rw [j3] at m1; cases m1
        · rw [j3] at m1; cases m1
          have hnt : t' ∈ e.a.names := by simp only [AOper.names, j3, List.mem_append]; exact .inr (by simp)
          have hy := yielded_eq (ops := A) (j := j) j2 (by rw [norm_lookup hnt]; exact m1') hreg
          simp [Region.wanted, j1, hy]
    rw [if_pos hwant]
    exact .inl (exec v m2 m3)

end
end Go.Proofs.Ytopagbaokokjdaa.AM

/- The abstract machine: regions whose order is open: in any order they do alike. -/
namespace Go.Proofs.Ytopagbaokokjdaa.AM
open Go.RowKit
set_option linter.unusedVariables false
set_option linter.unusedSimpArgs false

def remN (D : Array Bool) : Nat → Nat
  | 0 => 0
  | k + 1 => remN D k + (if D.getD k false then 0 else 1)

theorem remN_set (D : Array Bool) (i : Nat) (hi : i < D.size) (h : D.getD i false = false) : ∀ k, remN (D.setIfInBounds i true) k + (if i < k then 1 else 0) = remN D k := by
  intro k
  induction k with
  | zero => simp [remN]
  | succ k ih =>
    simp only [remN, getD_set D i k hi]
    by_cases hk : k = i
    · subst hk
      rw [if_neg (Nat.lt_irrefl _)] at ih
      simp only [if_true, Nat.lt_succ_self, h]
      simp only [Bool.false_eq_true, if_false]
      omega
    · rw [if_neg hk]
      by_cases hik : i < k
      · rw [if_pos hik] at ih; rw [if_pos (show i < k + 1 by omega)]
        generalize (if D.getD k false = true then 0 else 1) = q
        omega
      · rw [if_neg hik] at ih; rw [if_neg (show ¬ i < k + 1 by omega)]
        generalize (if D.getD k false = true then 0 else 1) = q
        omega

theorem remN_zero {D : Array Bool} : ∀ {k : Nat}, remN D k = 0 → ∀ i, i < k → D.getD i false = true := by
  intro k
  induction k with
  | zero => intro _ i hi; omega
  | succ k ih =>
    intro h i hi
    simp only [remN] at h
    rcases Nat.lt_succ_iff_lt_or_eq.1 hi with hi | rfl
    · exact ih (by omega) i hi
    · cases hd : D.getD i false with
      | true => rfl
      | false => rw [hd] at h; simp at h

section
variable {P : Env} {nt : Nat} {B : Nat} {w0 : Root} {ρ0 : Rho} {I0 : Imm} {σ0 : St} {A : Array Oper} {es : List Ent}

theorem DInv.sats {D : Array Bool} {I : Imm} {ρ : Rho} {a : Act} {w : World} {Q : Regs → St → Prop} (ok : OkE A.toList es) : ∀ (n c : Nat) (r : Regs) (σ : St) (h : Hist) (ids : Nat → Option Nat), es.length - c = n →
    DInv nt B w0 ρ0 I0 σ0 A.toList es c D r σ h ρ I ids a w → dwp P ((es.drop c).map fun e => (e.a, e.rc)) r σ h Q →
    ∃ c r σ h ids, DInv nt B w0 ρ0 I0 σ0 A.toList es c D r σ h ρ I ids a w ∧ dwp P ((es.drop c).map fun e => (e.a, e.rc)) r σ h Q ∧ (c = es.length ∨ ∃ e, es[c]? = some e ∧ e.a.ins.isE = true) := by
  intro n
  induction n with
  | zero =>
    intro c r σ h ids hn iv hw
    exact ⟨c, r, σ, h, ids, iv, hw, .inl (by have := iv.cle; omega)⟩
  | succ n ih =>
    intro c r σ h ids hn iv hw
    have hc : c < es.length := by omega
    have he : es[c]? = some es[c] := List.getElem?_eq_getElem hc
    cases hE : es[c].a.ins.isE with
    | true => exact ⟨c, r, σ, h, ids, iv, hw, .inr ⟨_, he, hE⟩⟩
    | false =>
      obtain ⟨r', σ', h', ids', iv', hw'⟩ := iv.sat ok he hE hw
      exact ih (c + 1) r' σ' h' ids' (by omega) iv' hw'

theorem ready_mem {D : Array Bool} {i : Nat} (hs : D.size = A.toList.length) (h : i ∈ Region.ready .any A D) : ∃ o, A.toList[i]? = some o ∧ D.getD i false = false ∧ ∀ x ∈ edgesOf o, D.getD x false = true := by
  simp only [Region.ready, List.mem_filter, List.mem_range, Bool.and_eq_true, Bool.not_eq_true'] at h
  obtain ⟨h1, h2, h3⟩ := h
  have ho : A[i]? = some A[i] := Array.getElem?_eq_getElem h1
  rw [ho] at h3
  simp only [Option.map_some, Option.getD_some] at h3
  refine ⟨A[i], by rw [Array.getElem?_toList]; exact ho, ?_, fun x hx => ?_⟩
  · have hlt : i < D.size := by rw [hs]; simpa using h1
    rw [Array.getD_eq_getD_getElem?, Array.getElem?_eq_getElem hlt] at h2 ⊢; simpa using h2
  · simp only [edgesOf, List.mem_map, List.mem_filter] at hx
    obtain ⟨e, ⟨he1, he2⟩, rfl⟩ := hx
    have := Array.all_eq_true_iff_forall_mem.1 h3 e (Array.mem_toList_iff.1 he1)
    simpa [he2] using this

theorem ready_nil {D : Array Bool} (hs : D.size = A.toList.length) (ok : OkE A.toList es) (h : Region.ready .any A D = []) : ∀ i, i < A.toList.length → D.getD i false = true := by
  intro i
  induction i using Nat.strongRecOn with
  | _ i ih =>
    intro hi
    cases hd : D.getD i false with
    | true => rfl
    | false =>
      exfalso
      have hA : i < A.size := by simpa using hi
      have ho : A.toList[i]? = some A[i] := by rw [Array.getElem?_toList]; exact Array.getElem?_eq_getElem hA
      have : i ∈ Region.ready .any A D := by
        simp only [Region.ready, List.mem_filter, List.mem_range, Bool.and_eq_true, Bool.not_eq_true']
        refine ⟨hA, ?_, ?_⟩
        · have hlt : i < D.size := by rw [hs]; exact hi
          rw [Array.getD_eq_getD_getElem?, Array.getElem?_eq_getElem hlt] at hd ⊢; simpa using hd
        · rw [Array.getElem?_eq_getElem hA]
          simp only [Option.map_some, Option.getD_some]
          refine Array.all_eq_true_iff_forall_mem.2 fun e he => ?_
          cases hb : Region.binds .any e with
          | false => rfl
          | true =>
            have hm : e.on ∈ edgesOf A[i] := by
              simp only [edgesOf, List.mem_map, List.mem_filter]
              exact ⟨e, ⟨Array.mem_toList_iff.2 he, hb⟩, rfl⟩
            have hlt := ok.edge i _ ho _ hm
            simpa using ih e.on hlt (by omega)
      rw [h] at this; cases this

theorem any_sound (hmu : ∀ a vs σ K, ¬ P.yld a vs σ K) {Q : Regs → St → Prop} {E : Exit → Act → World → Prop} (ok : OkE A.toList es) (hcomp : ∀ (p : Nat) (e : Ent), es[p]? = some e → ∃ o, A.toList[e.idx]? = some o ∧ compOper P.prog nt A.toList o = some e.a)
    (hE : ∀ a w, Lift nt B w0 ρ0 I0 σ0 Q a w → E .normal a w) (hT : ∀ chain a w, a.defers = w0.ds → LiftT B w0 ρ0 I0 σ0 P.thr chain w → E (.panic chain) a w) : ∀ (fuel : Nat) (c : Nat) (D : Array Bool) (r : Regs) (σ : St) (h : Hist) (ρ : Rho) (I : Imm) (ids : Nat → Option Nat) (a : Act) (w : World),
    DInv nt B w0 ρ0 I0 σ0 A.toList es c D r σ h ρ I ids a w → dwp P ((es.drop c).map fun e => (e.a, e.rc)) r σ h Q → remN D A.toList.length ≤ fuel → wpAny P.prog .any A E fuel D a w := by
  have fin : ∀ (c : Nat) (D : Array Bool) (r : Regs) (σ : St) (h : Hist) (ρ : Rho) (I : Imm) (ids : Nat → Option Nat) (a : Act) (w : World),
      DInv nt B w0 ρ0 I0 σ0 A.toList es c D r σ h ρ I ids a w → dwp P ((es.drop c).map fun e => (e.a, e.rc)) r σ h Q → (∀ i, i < A.toList.length → D.getD i false = true) → E .normal a w := by
    intro c D r σ h ρ I ids a w iv hw hall
    have hdone : ∀ (p : Nat) (e : Ent), es[p]? = some e → D.getD e.idx false = true := by
      intro p e he
      obtain ⟨o, ho, _⟩ := hcomp p e he
      exact hall _ (List.getElem?_eq_some_iff.1 ho).1
    obtain ⟨c', r', σ', h', ids', iv', hw', hc⟩ := iv.sats ok _ c r σ h ids rfl hw
    rcases hc with hc | ⟨e, he, _⟩
    · rw [hc, List.drop_length] at hw'
      simp only [List.map_nil, dwp] at hw'
      refine hE a w ⟨r', σ', ρ, I, iv'.defers, iv'.size, iv'.rel, fun t v hv => ?_, iv'.ext, hw'⟩
      exact iv'.regs t v hv fun q x _ hx _ => hdone q x hx
    · have := iv'.eff2 c' e (Nat.le_refl _) he
      rw [hdone c' e he] at this; cases this
  intro fuel
  induction fuel with
  | zero =>
    intro c D r σ h ρ I ids a w iv hw hr
    have hall := remN_zero (D := D) (by omega : remN D A.toList.length = 0)
    refine ⟨?_, fin c D r σ h ρ I ids a w iv hw hall⟩
    cases hl : Region.ready .any A D with
    | nil => rfl
    | cons i is =>
      obtain ⟨o, ho, hd, _⟩ := ready_mem iv.dsz (by rw [hl]; simp : i ∈ Region.ready .any A D)
      rw [hall i (List.getElem?_eq_some_iff.1 ho).1] at hd; cases hd
  | succ fuel ih =>
    intro c D r σ h ρ I ids a w iv hw hr
    refine ⟨fun hnil => fin c D r σ h ρ I ids a w iv hw (ready_nil iv.dsz ok hnil), fun i hi => ?_⟩
    obtain ⟨o, ho, hd, hready⟩ := ready_mem iv.dsz hi
    have hilt := (List.getElem?_eq_some_iff.1 ho).1
    obtain ⟨c', r', σ', h', ids', iv', hw', hc⟩ := iv.sats ok _ c r σ h ids rfl hw
    obtain ⟨p, e, he, hei⟩ := ok.surj i hilt
    subst hei
    obtain ⟨o', ho', hcp⟩ := hcomp p e he
    rw [ho] at ho'; cases ho'
    have hrem : remN (D.setIfInBounds e.idx true) A.toList.length ≤ fuel := by
      have := remN_set D e.idx (by rw [iv.dsz]; exact hilt) hd A.toList.length
      rw [if_pos hilt] at this; omega
    by_cases hp : p < c'
    · exact iv'.late ok he hp hd ho hcp hready fun ρ' I' a' w' iv2 => ih _ _ _ _ _ _ _ _ _ _ iv2 hw' hrem
    · -- it is the effect that stands next
      rcases hc with hc | ⟨f, hf, hfE⟩
      · have := (List.getElem?_eq_some_iff.1 he).1; omega
      · have hpc : p = c' := by
          rcases Nat.lt_or_eq_of_le (Nat.le_of_not_lt hp) with hlt | heq
          · exfalso
            have hb := ok.eff c' p f e hlt hf he hfE
            have hdf := iv'.dc.anc ok.edge ok.anc e.idx o ho hready _ hb
            rw [iv'.eff2 c' f (Nat.le_refl _) hf] at hdf; cases hdf
          · exact heq.symm
        subst hpc
        rw [hf] at he; cases he
        exact iv'.eff hmu ok hf hfE hw' ho hcp hready (fun r2 σ2 h2 ρ2 I2 a2 w2 iv2 hw2 => ih _ _ _ _ _ _ _ _ _ _ iv2 hw2 hrem) hT

theorem dreg_sound (hmu : ∀ a vs σ K, ¬ P.yld a vs σ K) {id : Nat} {r : Regs} {σ : St} {ρ : Rho} {I : Imm} {a : Act} {w : World} {Q : Regs → St → Prop} {E : Exit → Act → World → Prop} (hmx : P.prog.follows .mixedOrders = true) (hok : okEnts A.toList es = true)
    (hcomp : ∀ (p : Nat) (e : Ent), es[p]? = some e → ∃ o, A.toList[e.idx]? = some o ∧ compOper P.prog nt A.toList o = some e.a) (hw : dwp P (es.map fun e => (e.a, e.rc)) r σ [] Q) (hr : RegsRel ρ I r a.tmps) (rl : Rel B w0 ρ I σ w) (hd : a.defers = w0.ds) (hs : a.tmps.size = nt)
    (hE : ∀ a w, Lift nt B w0 ρ I σ Q a w → E .normal a w) (hT : ∀ chain a w, a.defers = w0.ds → LiftT B w0 ρ I σ P.thr chain w → E (.panic chain) a w) : (Code.region id A true).wp P.prog E a w := by
  have ok := OkE.of hok
  refine wp_region_any hmx (any_sound hmu (ρ0 := ρ) (I0 := I) (σ0 := σ) (B := B) (w0 := w0) ok hcomp hE hT A.size 0 _ r σ [] ρ I (fun _ => none) a w.drew ?_ (by simpa using hw) ?_)
  · have hf : ∀ j, (Array.replicate A.size false).getD j false = false := by
      intro j
      rw [Array.getD_eq_getD_getElem?, Array.getElem?_replicate]; split <;> rfl
    refine ⟨fun j o _ hj => ?_, fun p e hp => ?_, fun p e _ _ => hf _, by simp, rl.drew, Ext.refl _ _ _, fun t v hv _ => hr t v hv, fun p e hp => ?_, fun p k hp => ?_, fun p q k _ hq => ?_, hd, hs, rfl, Nat.zero_le _⟩
    · rw [hf] at hj; cases hj
    all_goals omega
  · have : ∀ k, remN (Array.replicate A.size false) k ≤ k := by
      intro k
      induction k with
      | zero => exact Nat.le_refl _
      | succ k ih => simp only [remN]; split <;> omega
    simpa using this A.size

/-- What holds in any order holds in a round's frame, too: nothing is put off. -/
theorem wp_toIn {P : Program} {ro : Option Nat} {n : Nat} {o : Oper} {a : Act} {w : World} {K : Act → World → Prop} {E : Exit → Act → World → Prop} (hnd : ∀ c, o.op ≠ .defer c) (h : o.wp P a w K E) : o.wpIn (wideR ro) n P a w K E := by
  refine ⟨fun _ _ => trivial, ?_⟩
  show o.uponIn (wideR ro) n P a K E ((o.semAt ro a.eval).run P w)
  rw [Oper.semAt_eq ro a.eval o hnd]
  unfold Oper.wp at h
  generalize (execOp a.eval o).run P w = r at h ⊢
  cases r with
  | ok x w' =>
    cases x <;> simp only [Oper.upon, Oper.uponIn] at h ⊢ <;> first
      | exact h
      | exact ⟨fun h => (by cases h), callsIn_wideR.2 h⟩
      | exact ⟨fun h => (by cases h), fun c cs _ => let ⟨v, w', r, s⟩ := h c cs; ⟨v, w', r, stepsIn_wideR.2 s⟩⟩
      | exact h.elim
  | halt x w' => cases x <;> simp only [Oper.upon, Oper.uponIn] at h ⊢ <;> first | exact h | exact h.elim
theorem wpAny_toIn {P : Program} {ro : Option Nat} {n : Nat} {md : Region.Mode} {ops : Array Oper} {E : Exit → Act → World → Prop} (hnd : ∀ (i : Nat) (o : Oper) (c : Call), ops[i]? = some o → o.op ≠ .defer c) (hlo : ¬ LetsOut E) : ∀ (fuel : Nat) (D : Array Bool) (a : Act) (w : World), wpAny P md ops E fuel D a w → wpAnyIn (wideR ro) n P md ops E fuel D a w := by
  intro fuel
  induction fuel with
  | zero => intro D a w h; exact h
  | succ fuel ih =>
    intro D a w h
    refine ⟨h.1, fun i hi => ?_⟩
    have hh := h.2 i hi
    unfold wpOp at hh
    unfold wpOpIn
    split
    · rename_i hn
      simp only [hn] at hh
      exact ih _ _ _ hh
    · rename_i o ho
      simp only [ho] at hh
      split
      · rename_i hw
        simp only [hw, if_true] at hh
        rcases hh with hh | ⟨_, hh⟩
        · exact wp_toIn (fun c => hnd i o c ho) (Oper.wp_mono (fun a w h => ih _ _ _ h) hh)
        · exact absurd hh hlo
      · rename_i hw
        simp only [hw] at hh
        exact ⟨fun _ _ => trivial, ih _ _ _ hh⟩
theorem dreg_soundIn {ro : Option Nat} {n : Nat} (hmu : ∀ a vs σ K, ¬ P.yld a vs σ K) {id : Nat} {r : Regs} {σ : St} {ρ : Rho} {I : Imm} {a : Act} {w : World} {Q : Regs → St → Prop} {E : Exit → Act → World → Prop} (hmx : P.prog.follows .mixedOrders = true) (hok : okEnts A.toList es = true)
    (hnd : ∀ (i : Nat) (o : Oper) (c : Call), A[i]? = some o → o.op ≠ .defer c) (hlo : ¬ LetsOut E)
    (hcomp : ∀ (p : Nat) (e : Ent), es[p]? = some e → ∃ o, A.toList[e.idx]? = some o ∧ compOper P.prog nt A.toList o = some e.a) (hw : dwp P (es.map fun e => (e.a, e.rc)) r σ [] Q) (hr : RegsRel ρ I r a.tmps) (rl : Rel B w0 ρ I σ w) (hd : a.defers = w0.ds) (hs : a.tmps.size = nt)
    (hE : ∀ a w, Lift nt B w0 ρ I σ Q a w → E .normal a w) (hT : ∀ chain a w, a.defers = w0.ds → LiftT B w0 ρ I σ P.thr chain w → E (.panic chain) a w) : (Code.region id A true).wpIn (wideR ro) n P.prog E a w := by
  have ok := OkE.of hok
  refine wpIn_region_any hmx (wpAny_toIn hnd hlo _ _ _ _ (any_sound hmu (ρ0 := ρ) (I0 := I) (σ0 := σ) (B := B) (w0 := w0) ok hcomp hE hT A.size 0 _ r σ [] ρ I (fun _ => none) a w.drew ?_ (by simpa using hw) ?_))
  · have hf : ∀ j, (Array.replicate A.size false).getD j false = false := by
      intro j
      rw [Array.getD_eq_getD_getElem?, Array.getElem?_replicate]; split <;> rfl
    refine ⟨fun j o _ hj => ?_, fun p e hp => ?_, fun p e _ _ => hf _, by simp, rl.drew, Ext.refl _ _ _, fun t v hv _ => hr t v hv, fun p e hp => ?_, fun p k hp => ?_, fun p q k _ hq => ?_, hd, hs, rfl, Nat.zero_le _⟩
    · rw [hf] at hj; cases hj
    all_goals omega
  · have : ∀ k, remN (Array.replicate A.size false) k ≤ k := by
      intro k
      induction k with
      | zero => exact Nat.le_refl _
      | succ k ih => simp only [remN]; split <;> omega
    simpa using this A.size

end
end Go.Proofs.Ytopagbaokokjdaa.AM

/- The abstract machine: the record of a range over a function, and what is put off. -/
namespace Go.Proofs.Ytopagbaokokjdaa.AM
open Go.RowKit
set_option linter.unusedVariables false
set_option linter.unusedSimpArgs false

/-- The root with marks. -/
def Root.mark (w0 : Root) (M : List Nat) : Root := { w0 with ds := (M.map fun b => ({ target := .collected b, args := #[] } : Deferred)) ++ w0.ds, mkd := fun b => w0.mkd b ∨ b ∈ M }
theorem Root.mark_nil (w0 : Root) : w0.mark [] = w0 := by cases w0; simp [Root.mark]
theorem Root.mark_mark (w0 : Root) (M N : List Nat) : (w0.mark M).mark N = w0.mark (N ++ M) := by
  simp only [Root.mark, List.map_append, List.append_assoc, List.mem_append]
  congr 1
  funext b
  simp only [or_assoc, eq_iff_iff]
  exact ⟨fun h => h.elim .inl fun h => .inr h.symm, fun h => h.elim .inl fun h => .inr h.symm⟩
theorem Root.le_mark (w0 : Root) (M : List Nat) : w0.le (w0.mark M) := ⟨rfl, rfl, fun _ h => .inl h⟩

def OkM (B : Nat) (w0 : Root) (M : List Nat) : Prop := M.Nodup ∧ ∀ m ∈ M, ¬ w0.mkd m ∧ B ≤ m
theorem OkM.nil (B : Nat) (w0 : Root) : OkM B w0 [] := ⟨List.nodup_nil, fun _ h => by cases h⟩
theorem OkM.join {B : Nat} {w0 : Root} {M N : List Nat} (h : OkM B w0 M) (k : OkM B (w0.mark M) N) : OkM B w0 (N ++ M) := by
  refine ⟨List.nodup_append.2 ⟨k.1, h.1, fun a ha b hb e => ?_⟩, fun m hm => ?_⟩
  · subst e; exact (k.2 a ha).1 (.inr hb)
  · rcases List.mem_append.1 hm with hm | hm
    · exact ⟨fun hh => (k.2 m hm).1 (.inl hh), (k.2 m hm).2⟩
    · exact h.2 m hm

section
variable {P : Program} {B : Nat} {w0 : Root} {w : World} {ρ : Rho} {I : Imm} {σ : St}

/-- An older root. -/
theorem Rel.older {w1 : Root} (r : Rel B w1 ρ I σ w) (h : w0.le w1) : Rel B w0 ρ I σ w :=
  ⟨⟨h.w ▸ r.low.below, fun b hb => r.low.mks b (h.mkd b hb), h.w ▸ r.low.drawn⟩, r.base, r.blk, r.inj, r.imm', r.sep, fun a p b h1 h2 h3 => ⟨(r.new a p b h1 h2 h3).1, fun hm => (r.new a p b h1 h2 h3).2 (h.mkd _ hm)⟩, r.lt, r.dom, r.memdom, fun b c h1 h2 => h.adm ▸ r.ilow b c h1 h2⟩

/-- A block for what is put off, laid. -/
theorem Rel.addMark (r : Rel B w0 ρ I σ w) : Rel B (w0.mark [w.heap.size]) ρ I σ (w.alloc (.deferred (some []))) := by
  have j := r.junk (.deferred (some []))
  refine ⟨⟨j.low.below, fun b hb => ?_, j.low.drawn⟩, j.base, j.blk, j.inj, j.imm', j.sep, fun a p b h1 h2 h3 => ⟨(j.new a p b h1 h2 h3).1, fun hm => ?_⟩, j.lt, j.dom, j.memdom, j.ilow⟩
  · rcases hb with hb | hb
    · exact j.low.mks b hb
    · rw [List.mem_singleton.1 hb]; exact World.alloc_heap_new w _
  · rcases hm with hm | hm
    · exact (j.new a p b h1 h2 h3).2 hm
    · have := r.lt a p h1
      have := List.mem_singleton.1 hm
      omega

/-- It is taken. -/
theorem Rel.takeMark {b : Nat} {M : List Nat} (r : Rel B (w0.mark (b :: M)) ρ I σ w) (hb : b ∉ M) (hb0 : ¬ w0.mkd b) (hB : B ≤ b) : (Instr.takeDeferred b).run P w = .ok [] (w.putObj b (.deferred none)) ∧ Rel B (w0.mark M) ρ I σ (w.putObj b (.deferred none)) := by
  have hm := r.low.mks b (.inr (by simp))
  have hlt := (Array.getElem?_eq_some_iff.1 hm).1
  have hne : ∀ {k : Nat} {o : Obj}, w.heap[k]? = some o → o ≠ .deferred (some []) → k ≠ b := fun h1 h2 e => by rw [e, hm] at h1; exact h2 (Option.some.inj h1).symm
  refine ⟨run_takeDeferred hm, ⟨⟨r.low.below.trans ⟨rfl, rfl, rfl, by simp, fun k hk => World.putObj_heap_other (by omega)⟩, fun k hk => ?_, r.low.drawn⟩, by simpa using r.base, fun a p bk h1 h2 => ?_, r.inj, ⟨fun k c hk => ?_, r.gok⟩, r.sep, fun a p bk h1 h2 h3 => ⟨(r.new a p bk h1 h2 h3).1, fun hm => (r.new a p bk h1 h2 h3).2 ?_⟩, fun a p h => by simpa using r.lt a p h, r.dom, r.memdom, r.ilow⟩⟩
  · have : k ≠ b := by
      rintro rfl
      rcases hk with hk | hk
      · exact hb0 hk
      · exact hb hk
    rw [World.putObj_heap_other this]
    exact r.low.mks k (hk.elim .inl fun h => .inr (List.mem_cons_of_mem _ h))
  · have h3 := r.blk a p bk h1 h2
    cases bk with
    | ro es vals => exact h3
    | cells es vals =>
      have := (r.new a p _ h1 h2 rfl).2
      exact h3.world (RLe.refl _) (ILe.refl _) (World.putObj_heap_other fun e => this (.inr (by rw [e]; simp)))
    | map c e =>
      have := (r.new a p _ h1 h2 rfl).2
      exact h3.world (RLe.refl _) (ILe.refl _) (World.putObj_heap_other fun e => this (.inr (by rw [e]; simp)))
    | iter m s t l =>
      have := (r.new a p _ h1 h2 rfl).2
      exact h3.world (RLe.refl _) (ILe.refl _) (World.putObj_heap_other fun e => this (.inr (by rw [e]; simp)))
    | loop l =>
      have := (r.new a p _ h1 h2 rfl).2
      exact h3.world (RLe.refl _) (ILe.refl _) (World.putObj_heap_other fun e => this (.inr (by rw [e]; simp)))
  · obtain ⟨e, fr, h1⟩ := r.imm k c hk
    exact ⟨e, fr, (World.putObj_heap_other (hne h1 (by simp))).trans h1⟩
  · exact hm.elim .inl fun h => .inr (List.mem_cons_of_mem _ h)

/-- A record laid. -/
theorem Rel.newLoop (r : Rel B w0 ρ I σ w) (l : Loop) :
    Rel B w0 (upd ρ σ.next ⟨w.heap.size, 0, 0, 0⟩) I ⟨σ.mem.set σ.next (.loop l), σ.next + 1⟩ (w.alloc (.loop l)) ∧ Ext ρ I σ (upd ρ σ.next ⟨w.heap.size, 0, 0, 0⟩) I ⟨σ.mem.set σ.next (.loop l), σ.next + 1⟩ :=
  ⟨(r.addAbs (.loop l)).alloc_at (bk := .loop l) r.fresh (by simp) _ _ rfl rfl fun ρ' _ => ⟨rfl, World.alloc_heap_new w _⟩, ⟨fun a ha => upd_ne _ _ (by omega), ILe.refl _, Nat.le_succ _, fun a ha hn => by dsimp; rw [Mem.get_set_ne _ _ (by omega)]⟩⟩

/-- A record turned. -/
theorem Rel.setLoop (r : Rel B w0 ρ I σ w) {a : Nat} {p : Place} {l l' : Loop} (hρ : ρ a = some p) (hm : σ.mem.get a = some (.loop l)) :
    w.heap[p.b]? = some (.loop l) ∧ Rel B w0 ρ I ⟨σ.mem.set a (.loop l'), σ.next⟩ (w.putObj p.b (.loop l')) ∧ Ext ρ I σ ρ I ⟨σ.mem.set a (.loop l'), σ.next⟩ := by
  obtain ⟨h0, h1⟩ := r.blk a p _ hρ hm
  have hlt := (Array.getElem?_eq_some_iff.1 h1).1
  exact ⟨h1, r.setBlk hρ hm rfl rfl (by simp) (fun k hk => World.putObj_heap_other hk) rfl rfl rfl ⟨h0, World.putObj_heap_same hlt⟩⟩

end

/-- What a frame leaves behind its marks. -/
theorem leaves_marks {P : Program} {fn : Func} {tmps : Array Value} {R : Ending → World → Prop} {B : Nat} {w0 : Root} {ρ : Rho} {I : Imm} {σ : St} {u : FrameMode} (hu : u ≠ .run) (hds : w0.ds = []) : ∀ (M : List Nat) (w : World), OkM B w0 M → Rel B (w0.mark M) ρ I σ w →
    (∀ w', Rel B w0 ρ I σ w' → LeavesIn Fence.wide 0 P fn tmps R [] u w') → LeavesInM Fence.wide 0 P fn tmps R (w0.mark M).ds u w := by
  intro M
  induction M with
  | nil =>
    intro w _ r h
    rw [Root.mark_nil] at r ⊢
    rw [hds]
    exact h w r
  | cons b M ih =>
    intro w hM r h
    obtain ⟨h1, h2⟩ := r.takeMark (P := P) (List.nodup_cons.1 hM.1).1 (hM.2 b (by simp)).1 (hM.2 b (by simp)).2
    refine ⟨hu, .inl ⟨b, _, rfl, h1, ih _ ⟨(List.nodup_cons.1 hM.1).2, fun m hm => hM.2 m (by simp [hm])⟩ h2 h⟩⟩
end Go.Proofs.Ytopagbaokokjdaa.AM
