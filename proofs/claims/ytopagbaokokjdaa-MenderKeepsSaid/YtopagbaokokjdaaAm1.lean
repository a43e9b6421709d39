/- The abstract machine, part 1 of 3: a small machine of values, blocks and code, and the proof that the model does as it does. -/
import Derived.Below
import Derived.Calls
import Derived.Laws.AppendOwn
import Derived.Laws.Tables
import Derived.IntWalk
import Derived.Laws.StructEq
import Derived.Laws.BytesString
import Derived.Laws.Build
import Derived.MapKept
/- The package's variables that never change, as bytes: none here. -/
namespace Go.Proofs.Ytopagbaokokjdaa.AM
def gloRaw : Nat → Option (List Nat) := fun _ => none
end Go.Proofs.Ytopagbaokokjdaa.AM

/- The abstract machine: values, memory, and how they lie in the model's world. -/
namespace Go.Proofs.Ytopagbaokokjdaa.AM
open Go.RowKit
set_option linter.unusedVariables false
set_option linter.unusedSimpArgs false

inductive AVal where
  | int (k : IntKind) (n : Int)
  | bool (b : Bool)
  | str (s : ByteArray)
  | ptr (a o : Nat)
  | nilp
  | iptr (cs : List AVal)
  | sl (a o len cap : Nat) (tight : Bool)
  | nilsl
  | isl (cs : List AVal) (len : Nat) (tight : Bool)
  | map (a : Nat)
  | nilmap
  | fn (f : FuncId) (first caps : List AVal)
  | nilfn
  | iface (t : TypeId) (v : AVal)
  | niliface
  | agg (cs : List AVal)
  | tup (vs : List AVal)
  /-- What hands a round over: of the loop whose record is block a. -/
  | yld (a : Nat)

instance : Inhabited AVal := ⟨.nilp⟩

/-- Does it take one cell? -/
def AVal.one : AVal → Bool
  | .agg _ | .tup _ => false
  | _ => true

/-- A block of the abstract memory. -/
inductive Blk where
  | cells (es : Nat) (vals : List AVal)
  | ro (es : Nat) (vals : List AVal)
  | map (clock : Nat) (ents : List (Nat × AVal × AVal))
  | iter (m : Option Nat) (since : Nat) (seen : List Nat) (last : Nat)
  /-- A range over a function: its record. -/
  | loop (r : Loop)

structure Mem where
  l : List (Nat × Blk)

def Mem.get (m : Mem) (a : Nat) : Option Blk := m.l.lookup a

def setL : List (Nat × Blk) → Nat → Blk → List (Nat × Blk)
  | [], a, b => [(a, b)]
  | (k, x) :: r, a, b => if k = a then (a, b) :: r else (k, x) :: setL r a b

def Mem.set (m : Mem) (a : Nat) (b : Blk) : Mem := ⟨setL m.l a b⟩

def delL (l : List (Nat × Blk)) (a : Nat) : List (Nat × Blk) := l.filter fun x => x.1 ≠ a

def Mem.del (m : Mem) (a : Nat) : Mem := ⟨delL m.l a⟩

theorem lookup_setL (l : List (Nat × Blk)) (a c : Nat) (b : Blk) : (setL l a b).lookup c = if c = a then some b else l.lookup c := by
  induction l with
  | nil =>
    simp only [setL, List.lookup]
    by_cases h : c = a
    · simp [h]
    · have : (c == a) = false := by simpa using h
      simp [h, this]
  | cons x r ih =>
    obtain ⟨k, y⟩ := x
    simp only [setL]
    by_cases hk : k = a
    · subst hk
      simp only [if_true, List.lookup]
      by_cases h : c = k
      · simp [h]
      · have : (c == k) = false := by simpa using h
        simp [h, this]
    · simp only [hk, if_false, List.lookup]
      by_cases h : c = k
      · subst h; simp [hk]
      · have : (c == k) = false := by simpa using h
        simp only [this]; exact ih

theorem lookup_delL (l : List (Nat × Blk)) (a c : Nat) : (delL l a).lookup c = if c = a then none else l.lookup c := by
  induction l with
  | nil => simp [delL, List.lookup]
  | cons x r ih =>
    obtain ⟨k, y⟩ := x
    simp only [delL] at ih ⊢
    by_cases hk : k = a
    · subst hk
      simp only [List.filter_cons, ne_eq, not_true_eq_false, decide_false, Bool.false_eq_true, if_false]
      rw [ih]
      by_cases h : c = k
      · simp [h]
      · have : (c == k) = false := by simpa using h
        simp [h, List.lookup, this]
    · simp only [List.filter_cons, ne_eq, hk, not_false_eq_true, decide_true, if_true, List.lookup]
      by_cases h : c = k
      · subst h; simp [hk]
      · have : (c == k) = false := by simpa using h
        simp only [this]; exact ih

@[simp] theorem Mem.get_set (m : Mem) (a c : Nat) (b : Blk) : (m.set a b).get c = if c = a then some b else m.get c := lookup_setL m.l a c b
@[simp] theorem Mem.get_del (m : Mem) (a c : Nat) : (m.del a).get c = if c = a then none else m.get c := lookup_delL m.l a c
theorem Mem.get_set_self (m : Mem) (a : Nat) (b : Blk) : (m.set a b).get a = some b := by simp
theorem Mem.get_set_ne (m : Mem) {a c : Nat} (b : Blk) (h : c ≠ a) : (m.set a b).get c = m.get c := by simp [h]

structure St where
  mem : Mem
  next : Nat

/-- Where an abstract block lies: the concrete block, where in it, how many cells from there on, the cells of one element. -/
structure Place where
  b : Nat
  base : Nat
  size : Nat
  es : Nat

abbrev Rho := Nat → Option Place
abbrev Imm := Nat → Option (Array Value)

def icell (I : Imm) (a : Addr) : Option Value := if a.spot.isSome then none else (I a.block).bind fun c => c[a.off]?

mutual
def VRel (ρ : Rho) (I : Imm) : AVal → Value → Prop
  | .int k n, v => v = .int k n
  | .bool b, v => v = .bool b
  | .str s, v => v = .string s
  | .ptr a o, v => ∃ p, ρ a = some p ∧ v = .pointer (some ⟨p.b, p.base + o, none⟩)
  | .nilp, v => v = .pointer none
  | .iptr cs, v => ∃ ad, v = .pointer (some ad) ∧ cs.all AVal.one = true ∧ CRel ρ I cs (fun j => icell I (ad.add j))
  | .sl a o len cap tight, v => ∃ p ad cap', ρ a = some p ∧ v = .slice (some ad) len cap' ∧ len ≤ cap ∧ cap ≤ cap' ∧ cap' ≤ maxLen ∧ (tight = true → cap' = cap) ∧
      (cap' = 0 ∨ ad = ⟨p.b, p.base + o, none⟩) ∧ o + cap' * p.es ≤ p.size
  | .nilsl, v => v = .slice none 0 0
  | .isl cs len tight, v => ∃ ad cap', v = .slice (some ad) len cap' ∧ len ≤ cap' ∧ cap' ≤ maxLen ∧ (tight = true → cap' = len) ∧ cs.all AVal.one = true ∧ CRel ρ I cs (fun j => icell I (ad.add j))
  | .map a, v => ∃ p, ρ a = some p ∧ v = .map (some p.b)
  | .nilmap, v => v = .map none
  | .fn f xs ys, v => ∃ xs' ys', v = .func (.func f) xs' ys' ∧ xs'.size = xs.length ∧ ys'.size = ys.length ∧ CRel ρ I xs (fun j => xs'[j]?) ∧ CRel ρ I ys (fun j => ys'[j]?)
  | .nilfn, v => v = .nilFunc
  | .iface t x, v => ∃ x', v = .iface t x' ∧ VRel ρ I x x'
  | .niliface, v => v = .nilIface
  | .agg cs, v => ∃ cs', v = .agg cs' ∧ cs'.size = cs.length ∧ cs.all AVal.one = true ∧ CRel ρ I cs (fun j => cs'[j]?)
  | .tup vs, v => ∃ vs', v = .tuple vs' ∧ vs'.size = vs.length ∧ CRel ρ I vs (fun j => vs'[j]?)
  | .yld a, v => ∃ p, ρ a = some p ∧ v = .func (.yield p.b) #[] #[]
def CRel (ρ : Rho) (I : Imm) : List AVal → (Nat → Option Value) → Prop
  | [], _ => True
  | c :: cs, f => (∃ u, f 0 = some u ∧ VRel ρ I c u) ∧ CRel ρ I cs (fun j => f (j + 1))
end


def RLe (ρ ρ' : Rho) : Prop := ∀ a p, ρ a = some p → ρ' a = some p
def ILe (I I' : Imm) : Prop := ∀ b c, I b = some c → I' b = some c
theorem RLe.refl (ρ : Rho) : RLe ρ ρ := fun _ _ h => h
theorem ILe.refl (I : Imm) : ILe I I := fun _ _ h => h
theorem RLe.trans {a b c : Rho} (h : RLe a b) (k : RLe b c) : RLe a c := fun x p q => k x p (h x p q)
theorem ILe.trans {a b c : Imm} (h : ILe a b) (k : ILe b c) : ILe a c := fun x p q => k x p (h x p q)

theorem icell_mono {I I' : Imm} (h : ILe I I') {a : Addr} {u : Value} (hu : icell I a = some u) : icell I' a = some u := by
  unfold icell at hu ⊢
  split
  · rename_i hs; rw [if_pos hs] at hu; cases hu
  · rename_i hs; rw [if_neg hs] at hu
    cases hb : I a.block with
    | none => rw [hb] at hu; cases hu
    | some c => rw [hb] at hu; rw [h _ _ hb]; exact hu

mutual
theorem VRel.mono {ρ ρ' : Rho} {I I' : Imm} (hr : RLe ρ ρ') (hi : ILe I I') : (v : AVal) → (cv : Value) → VRel ρ I v cv → VRel ρ' I' v cv
  | .int .., _, h => h
  | .bool _, _, h => h
  | .str _, _, h => h
  | .ptr .., _, h => by simp only [VRel] at h ⊢; obtain ⟨p, h1, h2⟩ := h; exact ⟨p, hr _ _ h1, h2⟩
  | .nilp, _, h => h
  | .iptr cs, _, h => by simp only [VRel] at h ⊢; obtain ⟨ad, h1, h3, h2⟩ := h; exact ⟨ad, h1, h3, CRel.mono hr hi cs _ _ (fun _ _ e => icell_mono hi e) h2⟩
  | .sl .., _, h => by simp only [VRel] at h ⊢; obtain ⟨p, ad, cap', h1, h2⟩ := h; exact ⟨p, ad, cap', hr _ _ h1, h2⟩
  | .nilsl, _, h => h
  | .isl cs _ _, _, h => by simp only [VRel] at h ⊢; obtain ⟨ad, cap', h1, h2, h3, h4, h5, h6⟩ := h; exact ⟨ad, cap', h1, h2, h3, h4, h5, CRel.mono hr hi cs _ _ (fun _ _ e => icell_mono hi e) h6⟩
  | .map _, _, h => by simp only [VRel] at h ⊢; obtain ⟨p, h1, h2⟩ := h; exact ⟨p, hr _ _ h1, h2⟩
  | .nilmap, _, h => h
  | .fn _ xs ys, _, h => by simp only [VRel] at h ⊢; obtain ⟨x, y, h1, h2, h3, h4, h5⟩ := h; exact ⟨x, y, h1, h2, h3, CRel.mono hr hi xs _ _ (fun _ _ e => e) h4, CRel.mono hr hi ys _ _ (fun _ _ e => e) h5⟩
  | .nilfn, _, h => h
  | .iface _ x, _, h => by simp only [VRel] at h ⊢; obtain ⟨x', h1, h2⟩ := h; exact ⟨x', h1, VRel.mono hr hi x _ h2⟩
  | .niliface, _, h => h
  | .agg cs, _, h => by simp only [VRel] at h ⊢; obtain ⟨x, h1, h2, h3, h4⟩ := h; exact ⟨x, h1, h2, h3, CRel.mono hr hi cs _ _ (fun _ _ e => e) h4⟩
  | .yld _, _, h => by simp only [VRel] at h ⊢; obtain ⟨p, h1, h2⟩ := h; exact ⟨p, hr _ _ h1, h2⟩
  | .tup cs, _, h => by simp only [VRel] at h ⊢; obtain ⟨x, h1, h2, h3⟩ := h; exact ⟨x, h1, h2, CRel.mono hr hi cs _ _ (fun _ _ e => e) h3⟩
theorem CRel.mono {ρ ρ' : Rho} {I I' : Imm} (hr : RLe ρ ρ') (hi : ILe I I') : (cs : List AVal) → (f g : Nat → Option Value) → (∀ j u, f j = some u → g j = some u) → CRel ρ I cs f → CRel ρ' I' cs g
  | [], _, _, _, _ => trivial
  | c :: cs, f, g, hfg, h => by
    simp only [CRel] at h ⊢
    obtain ⟨⟨u, h1, h2⟩, h3⟩ := h
    exact ⟨⟨u, hfg _ _ h1, VRel.mono hr hi c u h2⟩, CRel.mono hr hi cs _ _ (fun j u => hfg (j + 1) u) h3⟩
end

theorem CRel.get {ρ : Rho} {I : Imm} : ∀ {cs : List AVal} {f : Nat → Option Value}, CRel ρ I cs f → ∀ (j : Nat) (v : AVal), cs[j]? = some v → ∃ u, f j = some u ∧ VRel ρ I v u
  | [], _, _, j, v, h => by simp at h
  | c :: cs, f, h, 0, v, hv => by
    simp only [CRel] at h
    obtain ⟨⟨u, h1, h2⟩, h3⟩ := h
    simp at hv; subst hv
    exact ⟨u, h1, h2⟩
  | c :: cs, f, h, j + 1, v, hv => by
    simp only [CRel] at h
    exact CRel.get h.2 j v (by simpa using hv)

theorem CRel.mk {ρ : Rho} {I : Imm} : ∀ {cs : List AVal} {f : Nat → Option Value}, (∀ (j : Nat) (v : AVal), cs[j]? = some v → ∃ u, f j = some u ∧ VRel ρ I v u) → CRel ρ I cs f
  | [], _, _ => trivial
  | c :: cs, f, h => by
    simp only [CRel]
    exact ⟨h 0 c (by simp), CRel.mk fun j v hv => h (j + 1) v (by simpa using hv)⟩

theorem CRel.iff {ρ : Rho} {I : Imm} {cs : List AVal} {f : Nat → Option Value} : CRel ρ I cs f ↔ ∀ (j : Nat) (v : AVal), cs[j]? = some v → ∃ u, f j = some u ∧ VRel ρ I v u :=
  ⟨CRel.get, CRel.mk⟩

theorem VRel.one {ρ : Rho} {I : Imm} {v : AVal} {cv : Value} (h : VRel ρ I v cv) (hv : v.one = true) : cv.oneCell' = true := by
  cases v <;> simp only [VRel] at h <;> first
    | (cases hv; done)
    | (subst h; rfl)
    | (obtain ⟨p, _, rfl⟩ := h; rfl)
    | (obtain ⟨_, rfl, _⟩ := h; rfl)
    | (obtain ⟨_, _, _, _, rfl, _⟩ := h; rfl)
    | (obtain ⟨_, _, rfl, _⟩ := h; rfl)

/-- A block's cells in the world. -/
def BRel (ρ : Rho) (I : Imm) (w : World) (p : Place) : Blk → Prop
  | .cells es vals => p.es = es ∧ vals.all AVal.one = true ∧ vals.length ≤ p.size ∧ ∃ c e fr, w.heap[p.b]? = some (.cells c e fr) ∧ c.size = p.base + p.size ∧
      (fr.1 = fr.2 ∨ c.size ≤ fr.1) ∧ CRel ρ I vals (fun j => c[p.base + j]?)
  | .ro es vals => p.es = es ∧ vals.all AVal.one = true ∧ ∃ c, I p.b = some c ∧ CRel ρ I vals (fun j => c[p.base + j]?)
  | .map clock ents => ∃ arr, w.heap[p.b]? = some (.map arr clock) ∧ arr.size = ents.length ∧
      ∀ (j : Nat) (x : Nat × AVal × AVal), ents[j]? = some x → ∃ m : MapEntry, arr[j]? = some m ∧ m.born = x.1 ∧ VRel ρ I x.2.1 m.key ∧ VRel ρ I x.2.2 m.val
  | .loop r => p.base = 0 ∧ w.heap[p.b]? = some (.loop r)
  | .iter m since seen last => p.base = 0 ∧ ∃ cm, w.heap[p.b]? = some (.mapIter cm since seen.toArray last) ∧ (m = none ∧ cm = none ∨ ∃ a pm, m = some a ∧ ρ a = some pm ∧ cm = some pm.b)

theorem unfrozen {w : World} {b : Nat} {c : Array Value} {e : TypeId} {fr : Nat × Nat} (h : w.heap[b]? = some (.cells c e fr)) (hf : fr.1 = fr.2 ∨ c.size ≤ fr.1) (o : Nat) (ho : o < c.size) : w.frozen? ⟨b, o, none⟩ = false := by
  obtain ⟨lo, hi⟩ := fr
  simp only [World.frozen?, h]
  simp only [Bool.and_eq_false_iff, decide_eq_false_iff_not] at hf ⊢
  rcases hf with hf | hf
  · by_cases h : lo ≤ o
    · right; omega
    · left; exact h
  · left; omega

def Blk.rw : Blk → Bool
  | .ro .. => false
  | _ => true

/-- What the variables that never change hold. -/
def gloTab (g : Nat) : Option (List AVal) := (gloRaw g).map fun l => l.map fun (n : Nat) => AVal.int .u8 (n : Int)
def GOk (I : Imm) : Prop := ∀ g cs, gloTab g = some cs → CRel (fun _ => none) I cs (fun j => icell I ⟨g, j, none⟩)
theorem GOk.mono {I I' : Imm} (h : GOk I) (hi : ILe I I') : GOk I' := fun g cs hg => (h g cs hg).mono (fun _ _ h => by cases h) hi _ _ _ (fun _ _ e => icell_mono hi e)
theorem gloTab_one {g : Nat} {cs : List AVal} (h : gloTab g = some cs) : cs.all AVal.one = true := by
  unfold gloTab at h
  cases hr : gloRaw g with
  | none => rw [hr] at h; cases h
  | some l =>
    rw [hr] at h; cases h
    rw [List.all_eq_true]
    intro x hx
    obtain ⟨n, _, rfl⟩ := List.mem_map.1 hx
    rfl
theorem GOk.at {I : Imm} (h : GOk I) (ρ : Rho) {g : Nat} {cs : List AVal} (hg : gloTab g = some cs) : VRel ρ I (.iptr cs) (.pointer (some ⟨g, 0, none⟩)) := by
  simp only [VRel]
  refine ⟨⟨g, 0, none⟩, rfl, gloTab_one hg, ?_⟩
  have := (h g cs hg).mono (ρ' := ρ) (fun _ _ h => by cases h) (ILe.refl I) _ _ (fun j => icell I (Addr.add ⟨g, 0, none⟩ j)) (fun j u e => by
    by_cases hj : j = 0
    · subst hj; simpa [Addr.add] using e
    · simpa [Addr.add, hj] using e)
  exact this
/-- Where a call begins: the world then, the old blocks that may stand as unchanging. -/
structure Root where
  w : World
  adm : Nat → Prop
  /-- What is put off in the frame that runs. -/
  ds : List Deferred := []
  /-- The blocks for what rounds put off: nothing is in them. -/
  mkd : Nat → Prop := fun _ => False

/-- What stays as it was. -/
structure Low (B : Nat) (w0 : Root) (w : World) : Prop where
  below : Below B w0.w w
  mks : ∀ b, w0.mkd b → w.heap[b]? = some (.deferred (some []))
  drawn : w0.w.drawn ≤ w.drawn
/-- A block that may turn. -/
def Fresh (B : Nat) (w0 : Root) (b : Nat) : Prop := B ≤ b ∧ ¬ w0.mkd b

theorem Low.drew {B : Nat} {w0 : Root} {w : World} (h : Low B w0 w) : Low B w0 w.drew := ⟨h.below.drew, h.mks, Nat.le_succ_of_le h.drawn⟩
theorem Low.mkLt {B : Nat} {w0 : Root} {w : World} (h : Low B w0 w) {b : Nat} (hb : w0.mkd b) : b < w.heap.size := (Array.getElem?_eq_some_iff.1 (h.mks b hb)).1
theorem Low.alloc {B : Nat} {w0 : Root} {w : World} (h : Low B w0 w) (hB : B ≤ w.heap.size) (o : Obj) : Low B w0 (w.alloc o) :=
  ⟨h.below.alloc hB o, fun b hb => (Below.heap_alloc _ _ _ (h.mkLt hb)).trans (h.mks b hb), h.drawn⟩
theorem Low.setCell {B : Nat} {w0 : Root} {w : World} (h : Low B w0 w) {a : Addr} (hp : Fresh B w0 a.block) (u : Value) : Low B w0 (w.setCell a u) :=
  ⟨h.below.setCell hp.1 u, fun b hb => (Below.heap_setCell _ _ _ _ (fun e => hp.2 (e ▸ hb))).trans (h.mks b hb), h.drawn⟩
/-- One block turned. -/
theorem Low.upd {B : Nat} {w0 : Root} {w w' : World} (h : Low B w0 w) {b : Nat} (hp : Fresh B w0 b) (h1 : w.heap.size ≤ w'.heap.size) (h2 : ∀ k, k ≠ b → k < w.heap.size → w'.heap[k]? = w.heap[k]?) (h3 : w'.os = w.os) (h4 : w'.tape = w.tape) (h5 : w'.output = w.output) (hB : B ≤ w.heap.size) (h6 : w.drawn ≤ w'.drawn) : Low B w0 w' :=
  ⟨h.below.trans ⟨h3, h4, h5, h1, fun k hk => h2 k (by have := hp.1; omega) (by omega)⟩, fun k hk => (h2 k (fun e => hp.2 (e ▸ hk)) (h.mkLt hk)).trans (h.mks k hk), Nat.le_trans h.drawn h6⟩
theorem Low.fresh {B : Nat} {w0 : Root} {w : World} (h : Low B w0 w) {b : Nat} (hB : B ≤ w.heap.size) (hb : w.heap.size ≤ b) : Fresh B w0 b := ⟨Nat.le_trans hB hb, fun hm => by have := h.mkLt hm; omega⟩

structure Rel (B : Nat) (w0 : Root) (ρ : Rho) (I : Imm) (σ : St) (w : World) : Prop where
  low : Low B w0 w
  base : B ≤ w.heap.size
  blk : ∀ a p b, ρ a = some p → σ.mem.get a = some b → BRel ρ I w p b
  inj : ∀ a a' p p' b b', ρ a = some p → ρ a' = some p' → σ.mem.get a = some b → σ.mem.get a' = some b' → b.rw = true → a ≠ a' → p.b ≠ p'.b
  imm' : (∀ b c, I b = some c → ∃ e fr, w.heap[b]? = some (.cells c e fr)) ∧ GOk I
  sep : ∀ a p b, ρ a = some p → σ.mem.get a = some b → b.rw = true → I p.b = none
  new : ∀ a p b, ρ a = some p → σ.mem.get a = some b → b.rw = true → Fresh B w0 p.b
  lt : ∀ a p, ρ a = some p → p.b < w.heap.size
  dom : ∀ a, σ.next ≤ a → ρ a = none
  memdom : ∀ a, σ.next ≤ a → σ.mem.get a = none
  ilow : ∀ b c, I b = some c → b < B → w0.adm b

theorem Rel.imm {B : Nat} {w0 : Root} {ρ : Rho} {I : Imm} {σ : St} {w : World} (r : Rel B w0 ρ I σ w) : ∀ b c, I b = some c → ∃ e fr, w.heap[b]? = some (.cells c e fr) := r.imm'.1
theorem Rel.gok {B : Nat} {w0 : Root} {ρ : Rho} {I : Imm} {σ : St} {w : World} (r : Rel B w0 ρ I σ w) : GOk I := r.imm'.2

theorem Rel.atDs {B : Nat} {w0 : Root} {ρ : Rho} {I : Imm} {σ : St} {w : World} (r : Rel B w0 ρ I σ w) (l : List Deferred) : Rel B { w0 with ds := l } ρ I σ w :=
  ⟨⟨r.low.below, r.low.mks, r.low.drawn⟩, r.base, r.blk, r.inj, r.imm', r.sep, r.new, r.lt, r.dom, r.memdom, r.ilow⟩
theorem Rel.ofDs {B : Nat} {w0 : Root} {ρ : Rho} {I : Imm} {σ : St} {w : World} {l : List Deferred} (r : Rel B { w0 with ds := l } ρ I σ w) : Rel B w0 ρ I σ w :=
  ⟨⟨r.low.below, r.low.mks, r.low.drawn⟩, r.base, r.blk, r.inj, r.imm', r.sep, r.new, r.lt, r.dom, r.memdom, r.ilow⟩

/-- From one abstract state to a later one. -/
structure Ext (ρ : Rho) (I : Imm) (σ : St) (ρ' : Rho) (I' : Imm) (σ' : St) : Prop where
  rho : ∀ a, a < σ.next → ρ' a = ρ a
  imm : ILe I I'
  next : σ.next ≤ σ'.next
  keep : ∀ a, a < σ.next → ρ a = none → σ'.mem.get a = σ.mem.get a

theorem Ext.refl (ρ : Rho) (I : Imm) (σ : St) : Ext ρ I σ ρ I σ := ⟨fun _ _ => rfl, ILe.refl _, Nat.le_refl _, fun _ _ _ => rfl⟩

theorem Ext.trans {ρ ρ1 ρ2 : Rho} {I I1 I2 : Imm} {σ σ1 σ2 : St} (h : Ext ρ I σ ρ1 I1 σ1) (k : Ext ρ1 I1 σ1 ρ2 I2 σ2) : Ext ρ I σ ρ2 I2 σ2 where
  rho a ha := by rw [k.rho a (Nat.lt_of_lt_of_le ha h.next), h.rho a ha]
  imm := h.imm.trans k.imm
  next := Nat.le_trans h.next k.next
  keep a ha hn := by rw [k.keep a (Nat.lt_of_lt_of_le ha h.next) (by rw [h.rho a ha]; exact hn), h.keep a ha hn]

theorem Ext.rle {B : Nat} {w0 : Root} {w : World} {ρ ρ' : Rho} {I I' : Imm} {σ σ' : St} (h : Ext ρ I σ ρ' I' σ') (r : Rel B w0 ρ I σ w) : RLe ρ ρ' := fun a p hp => by
  have : a < σ.next := Nat.lt_of_not_le fun hle => by rw [r.dom a hle] at hp; cases hp
  rw [h.rho a this]; exact hp

theorem VRel.ext {B : Nat} {w0 : Root} {w : World} {ρ ρ' : Rho} {I I' : Imm} {σ σ' : St} {v : AVal} {cv : Value} (h : VRel ρ I v cv) (e : Ext ρ I σ ρ' I' σ') (r : Rel B w0 ρ I σ w) : VRel ρ' I' v cv :=
  h.mono (e.rle r) e.imm

end Go.Proofs.Ytopagbaokokjdaa.AM

/- The abstract machine: what the steps of the model's world do to the relation. -/
namespace Go.Proofs.Ytopagbaokokjdaa.AM
open Go.RowKit
set_option linter.unusedVariables false
set_option linter.unusedSimpArgs false

theorem BRel.world {ρ ρ' : Rho} {I I' : Imm} {w w' : World} {p : Place} {b : Blk} (h : BRel ρ I w p b) (hr : RLe ρ ρ') (hi : ILe I I') (hh : w'.heap[p.b]? = w.heap[p.b]?) : BRel ρ' I' w' p b := by
  cases b with
  | cells es vals =>
    obtain ⟨h1, h2, h3, c, e, fr, h4, h5, h6, h7⟩ := h
    exact ⟨h1, h2, h3, c, e, fr, hh.trans h4, h5, h6, h7.mono hr hi _ _ _ (fun _ _ e => e)⟩
  | ro es vals =>
    obtain ⟨h1, h2, c, h3, h4⟩ := h
    exact ⟨h1, h2, c, hi _ _ h3, h4.mono hr hi _ _ _ (fun _ _ e => e)⟩
  | map clock ents =>
    obtain ⟨arr, h1, h2, h3⟩ := h
    refine ⟨arr, hh.trans h1, h2, fun j x hx => ?_⟩
    obtain ⟨m, a, b, c, d⟩ := h3 j x hx
    exact ⟨m, a, b, c.mono hr hi, d.mono hr hi⟩
  | loop r =>
    exact ⟨h.1, hh.trans h.2⟩
  | iter m since seen last =>
    obtain ⟨h0, cm, h1, h2⟩ := h
    refine ⟨h0, cm, hh.trans h1, ?_⟩
    rcases h2 with h2 | ⟨a, pm, h3, h4, h5⟩
    · exact .inl h2
    · exact .inr ⟨a, pm, h3, hr _ _ h4, h5⟩

def upd (ρ : Rho) (a : Nat) (p : Place) : Rho := fun x => if x = a then some p else ρ x
@[simp] theorem upd_self (ρ : Rho) (a : Nat) (p : Place) : upd ρ a p a = some p := by simp [upd]
theorem upd_ne (ρ : Rho) {a x : Nat} (p : Place) (h : x ≠ a) : upd ρ a p x = ρ x := by simp [upd, h]
theorem upd_le {B : Nat} {w0 : Root} {w : World} {ρ : Rho} {I : Imm} {σ : St} (r : Rel B w0 ρ I σ w) (p : Place) : RLe ρ (upd ρ σ.next p) := fun a q hq => by
  by_cases h : a = σ.next
  · subst h; rw [r.dom _ (Nat.le_refl _)] at hq; cases hq
  · rw [upd_ne _ _ h]; exact hq

section
variable {B : Nat} {w0 : Root} {w : World} {ρ : Rho} {I : Imm} {σ : St}

theorem Rel.drew (r : Rel B w0 ρ I σ w) : Rel B w0 ρ I σ w.drew :=
  ⟨r.low.drew, r.base, fun a p b h1 h2 => (r.blk a p b h1 h2).world (RLe.refl _) (ILe.refl _) rfl, r.inj, r.imm', r.sep, r.new, r.lt, r.dom, r.memdom, r.ilow⟩

theorem Rel.fresh (r : Rel B w0 ρ I σ w) : ρ σ.next = none := r.dom _ (Nat.le_refl _)
theorem Rel.memfresh (r : Rel B w0 ρ I σ w) : σ.mem.get σ.next = none := r.memdom _ (Nat.le_refl _)
theorem Rel.rlt (r : Rel B w0 ρ I σ w) {a : Nat} {p : Place} (h : ρ a = some p) : a < σ.next := Nat.lt_of_not_le fun hle => by rw [r.dom a hle] at h; cases h
theorem Rel.mlt (r : Rel B w0 ρ I σ w) {a : Nat} {b : Blk} (h : σ.mem.get a = some b) : a < σ.next := Nat.lt_of_not_le fun hle => by rw [r.memdom a hle] at h; cases h

/-- A new block, of whatever kind, that no value speaks of. -/
theorem Rel.junk (r : Rel B w0 ρ I σ w) (o : Obj) : Rel B w0 ρ I σ (w.alloc o) where
  low := r.low.alloc r.base o
  base := by have := r.base; simp; omega
  blk a p b h1 h2 := (r.blk a p b h1 h2).world (RLe.refl _) (ILe.refl _) (heap_alloc_old w o _ (r.lt _ _ h1))
  inj := r.inj
  imm' := ⟨fun b c h => by
    obtain ⟨e, fr, h1⟩ := r.imm b c h
    exact ⟨e, fr, (heap_alloc_old w o _ (Array.getElem?_eq_some_iff.1 h1).1).trans h1⟩, r.gok⟩
  sep := r.sep
  new := r.new
  lt a p h := by have := r.lt a p h; simp; omega
  dom := r.dom
  memdom := r.memdom
  ilow := r.ilow

theorem Rel.immlt (r : Rel B w0 ρ I σ w) {b : Nat} {c : Array Value} (h : I b = some c) : b < w.heap.size := by
  obtain ⟨e, fr, h1⟩ := r.imm b c h
  exact (Array.getElem?_eq_some_iff.1 h1).1

/-- A block that is not there yet in the world. -/
theorem Rel.addAbs (r : Rel B w0 ρ I σ w) (bk : Blk) : Rel B w0 ρ I ⟨σ.mem.set σ.next bk, σ.next + 1⟩ w := by
  have g : ∀ {x : Nat} {p : Place} {c : Blk}, ρ x = some p → (σ.mem.set σ.next bk).get x = some c → σ.mem.get x = some c := fun {x p c} h1 h2 => by
    rwa [Mem.get_set_ne _ _ (fun e => by rw [e, r.fresh] at h1; cases h1)] at h2
  exact ⟨r.low, r.base, fun a p b h1 h2 => r.blk a p b h1 (g h1 h2), fun a a' p p' b b' h1 h1' h2 h2' => r.inj a a' p p' b b' h1 h1' (g h1 h2) (g h1' h2'), r.imm', fun a p b h1 h2 => r.sep a p b h1 (g h1 h2), fun a p b h1 h2 => r.new a p b h1 (g h1 h2), r.lt,
    fun a ha => r.dom a (by dsimp at ha; omega), fun a ha => by dsimp at ha ⊢; rw [Mem.get_set_ne _ _ (by omega)]; exact r.memdom a (by omega), r.ilow⟩

theorem Ext.addAbs (bk : Blk) : Ext ρ I σ ρ I ⟨σ.mem.set σ.next bk, σ.next + 1⟩ :=
  ⟨fun _ _ => rfl, ILe.refl _, Nat.le_succ _, fun a ha _ => by dsimp; rw [Mem.get_set_ne _ _ (by omega)]⟩

theorem upd_le' {id : Nat} (h : ρ id = none) (p : Place) : RLe ρ (upd ρ id p) := fun a q hq => by
  rw [upd_ne _ _ (fun e => by rw [e, h] at hq; cases hq)]; exact hq

/-- A block that comes into the world. -/
theorem Rel.alloc_at (r : Rel B w0 ρ I σ w) {id : Nat} (hid : ρ id = none) {bk : Blk} (hm : σ.mem.get id = some bk) (o : Obj) (p : Place) (hp : p.b = w.heap.size) (hrw : bk.rw = true)
    (hb : ∀ ρ', RLe ρ ρ' → BRel ρ' I (w.alloc o) p bk) : Rel B w0 (upd ρ id p) I σ (w.alloc o) := by
  have hle := upd_le' hid p
  have hne : ∀ {a : Nat} {q : Place}, ρ a = some q → a ≠ id := fun h e => by rw [e, hid] at h; cases h
  refine ⟨r.low.alloc r.base o, by have := r.base; simp; omega, ?_, ?_, (r.junk o).imm', ?_, ?_, ?_, ?_, r.memdom, r.ilow⟩
  · intro a q b h1 h2
    by_cases h : a = id
    · subst h
      rw [hm] at h2
      simp at h1 h2; subst h1; subst h2
      exact hb _ hle
    · rw [upd_ne _ _ h] at h1
      exact (r.blk a q b h1 h2).world hle (ILe.refl _) (heap_alloc_old w o _ (r.lt _ _ h1))
  · intro a a' q q' b b' h1 h1' h2 h2' hw hn
    by_cases h : a = id
    · subst h
      have h' : a' ≠ a := fun e => hn e.symm
      simp at h1; subst h1
      rw [upd_ne _ _ h'] at h1'
      have := r.lt _ _ h1'
      omega
    · rw [upd_ne _ _ h] at h1
      by_cases h' : a' = id
      · subst h'; simp at h1'; subst h1'
        have := r.lt _ _ h1
        omega
      · rw [upd_ne _ _ h'] at h1'
        exact r.inj a a' q q' b b' h1 h1' h2 h2' hw hn
  · intro a q b h1 h2 hw
    by_cases h : a = id
    · subst h; simp at h1; subst h1
      cases hi : I p.b with
      | none => rfl
      | some c => have := r.immlt hi; omega
    · rw [upd_ne _ _ h] at h1
      exact r.sep a q b h1 h2 hw
  · intro a q b h1 h2 hw
    by_cases h : a = id
    · subst h; simp at h1; subst h1; rw [hp]; exact r.low.fresh r.base (Nat.le_refl _)
    · rw [upd_ne _ _ h] at h1
      exact r.new a q b h1 h2 hw
  · intro a q h1
    by_cases h : a = id
    · subst h; simp at h1; subst h1; simp [hp]
    · rw [upd_ne _ _ h] at h1; have := r.lt a q h1; simp; omega
  · intro a ha
    have : a ≠ id := fun e => by have := r.mlt hm; omega
    rw [upd_ne _ _ this]; exact r.dom a ha

theorem Rel.newCells_at (r : Rel B w0 ρ I σ w) {id : Nat} (hid : ρ id = none) {es : Nat} {vals : List AVal} (hm : σ.mem.get id = some (.cells es vals)) (arr : Array Value) (e : TypeId) (h1 : vals.all AVal.one = true) (h2 : vals.length ≤ arr.size) (h3 : CRel ρ I vals (fun j => arr[j]?)) :
    Rel B w0 (upd ρ id ⟨w.heap.size, 0, arr.size, es⟩) I σ (w.alloc (.cells arr e)) :=
  r.alloc_at hid hm _ _ rfl rfl fun ρ' hle => ⟨rfl, h1, h2, arr, e, (0, 0), heap_alloc_new w _, by simp, .inl rfl, by simpa using h3.mono hle (ILe.refl _) _ _ _ (fun _ _ e => e)⟩

/-- A new row of cells. -/
theorem Rel.newCells (r : Rel B w0 ρ I σ w) (es : Nat) (vals : List AVal) (arr : Array Value) (e : TypeId) (h1 : vals.all AVal.one = true) (h2 : vals.length ≤ arr.size) (h3 : CRel ρ I vals (fun j => arr[j]?)) :
    Rel B w0 (upd ρ σ.next ⟨w.heap.size, 0, arr.size, es⟩) I ⟨σ.mem.set σ.next (.cells es vals), σ.next + 1⟩ (w.alloc (.cells arr e)) ∧
      Ext ρ I σ (upd ρ σ.next ⟨w.heap.size, 0, arr.size, es⟩) I ⟨σ.mem.set σ.next (.cells es vals), σ.next + 1⟩ :=
  ⟨(r.addAbs _).newCells_at r.fresh (by simp) arr e h1 h2 h3, ⟨fun a ha => upd_ne _ _ (by omega), ILe.refl _, Nat.le_succ _, fun a ha hn => by dsimp; rw [Mem.get_set_ne _ _ (by omega)]⟩⟩

theorem heap_setCell_at (w : World) (g i : Nat) (cs : Array Value) (t : TypeId) (fr : Nat × Nat) (v : Value) (hg : w.heap[g]? = some (.cells cs t fr)) :
    (w.setCell ⟨g, i, none⟩ v).heap[g]? = some (.cells (cs.setIfInBounds i v) t fr) := by
  simp [World.setCell, Array.getElem?_modify, hg]

/-- A store into a cell of a block. -/
theorem Rel.setCell (r : Rel B w0 ρ I σ w) {a o es : Nat} {vals : List AVal} {p : Place} (hρ : ρ a = some p) (hm : σ.mem.get a = some (.cells es vals)) (ho : o < vals.length) {v : AVal} {cv : Value} (hv : VRel ρ I v cv) (h1 : v.one = true) :
    (∃ u, w.cell? ⟨p.b, p.base + o, none⟩ = some u) ∧ w.frozen? ⟨p.b, p.base + o, none⟩ = false ∧
    Rel B w0 ρ I ⟨σ.mem.set a (.cells es (vals.set o v)), σ.next⟩ (w.setCell ⟨p.b, p.base + o, none⟩ cv) ∧ Ext ρ I σ ρ I ⟨σ.mem.set a (.cells es (vals.set o v)), σ.next⟩ := by
  obtain ⟨b1, b2, b3, c, e, fr, b4, b5, b6, b7⟩ := r.blk a p _ hρ hm
  have hcs : p.base + o < c.size := by omega
  have halt := r.rlt hρ
  refine ⟨⟨c[p.base + o], by rw [cell_of_row w _ _ _ _ _ b4]; exact Array.getElem?_eq_getElem hcs⟩, unfrozen b4 b6 _ hcs, ⟨r.low.setCell (r.new a p _ hρ hm rfl) _, by simpa using r.base, ?_, ?_, ?_, ?_, ?_, ?_, r.dom, ?_, r.ilow⟩, ⟨fun _ _ => rfl, ILe.refl _, Nat.le_refl _, fun x hx hn => ?_⟩⟩
  · intro x q b h2 h3
    by_cases h : x = a
    · subst h
      simp at h3; subst h3
      rw [hρ] at h2; cases h2
      refine ⟨b1, ?_, by simpa using b3, c.setIfInBounds (p.base + o) cv, e, fr, heap_setCell_at w _ _ _ _ _ _ b4, by simpa using b5, by simpa using b6, ?_⟩
      · rw [List.all_eq_true] at b2 ⊢
        intro y hy
        rcases List.mem_or_eq_of_mem_set hy with hy | hy
        · exact b2 y hy
        · exact hy ▸ h1
      · refine CRel.mk fun j y hy => ?_
        rw [List.getElem?_set] at hy
        by_cases hj : o = j
        · subst hj
          rw [if_pos rfl, if_pos ho] at hy; cases hy
          refine ⟨cv, ?_, hv⟩
          rw [Array.getElem?_setIfInBounds_self]; simp [hcs]
        · rw [if_neg hj] at hy
          obtain ⟨u, hu, hu2⟩ := b7.get j y hy
          refine ⟨u, ?_, hu2⟩
          rw [Array.getElem?_setIfInBounds_ne (by omega)]; exact hu
    · simp [h] at h3
      refine (r.blk x q b h2 h3).world (RLe.refl _) (ILe.refl _) (heap_setCell_other w _ _ _ ?_)
      exact fun e => r.inj a x p q _ b hρ h2 hm h3 rfl (fun e => h e.symm) e.symm
  · intro x y q q' b b' h2 h2' h3 h3' hw hn
    have g : ∀ {x : Nat} {b : Blk}, (σ.mem.set a (.cells es (vals.set o v))).get x = some b → ∃ b0, σ.mem.get x = some b0 ∧ b0.rw = b.rw := fun {x b} hb => by
      by_cases h : x = a
      · subst h; simp at hb; subst hb; exact ⟨_, hm, rfl⟩
      · simp [h] at hb; exact ⟨b, hb, rfl⟩
    obtain ⟨b0, g1, g2⟩ := g h3
    obtain ⟨b0', g1', _⟩ := g h3'
    exact r.inj x y q q' b0 b0' h2 h2' g1 g1' (g2.trans hw) hn
  · refine ⟨?_, r.gok⟩
    intro b c' hb
    obtain ⟨e', fr', h2⟩ := r.imm b c' hb
    have hne : b ≠ p.b := fun e => by rw [e, r.sep a p _ hρ hm rfl] at hb; cases hb
    exact ⟨e', fr', (heap_setCell_other w _ _ _ hne).trans h2⟩
  · intro x q b h2 h3 hw
    by_cases h : x = a
    · subst h; rw [hρ] at h2; cases h2; exact r.sep x p _ hρ hm rfl
    · simp [h] at h3; exact r.sep x q b h2 h3 hw
  · intro x q b h2 h3 hw
    by_cases h : x = a
    · subst h; rw [hρ] at h2; cases h2; exact r.new x p _ hρ hm rfl
    · simp [h] at h3; exact r.new x q b h2 h3 hw
  · intro x q h2; simpa using r.lt x q h2
  · intro x hx; dsimp at hx ⊢; rw [Mem.get_set_ne _ _ (by omega)]; exact r.memdom x hx
  · dsimp; rw [Mem.get_set_ne _ _ (fun e => by rw [e, hρ] at hn; cases hn)]

/-- A block's object is another one. -/
theorem Rel.setBlk (r : Rel B w0 ρ I σ w) {a : Nat} {p : Place} {b bk : Blk} {w' : World} (hρ : ρ a = some p) (hm : σ.mem.get a = some b) (hrw : b.rw = true) (hrw' : bk.rw = true)
    (h1 : w'.heap.size = w.heap.size) (h2 : ∀ k, k ≠ p.b → w'.heap[k]? = w.heap[k]?) (h3 : w'.os = w.os) (h4 : w'.tape = w.tape) (h5 : w'.output = w.output) (hbk : BRel ρ I w' p bk) (h6 : w.drawn ≤ w'.drawn := by exact Nat.le_refl _) :
    Rel B w0 ρ I ⟨σ.mem.set a bk, σ.next⟩ w' ∧ Ext ρ I σ ρ I ⟨σ.mem.set a bk, σ.next⟩ := by
  have halt := r.rlt hρ
  have g : ∀ {x : Nat} {c : Blk}, (σ.mem.set a bk).get x = some c → x = a ∧ c = bk ∨ x ≠ a ∧ σ.mem.get x = some c := fun {x c} hc => by
    by_cases h : x = a
    · subst h; simp at hc; exact .inl ⟨rfl, hc.symm⟩
    · rw [Mem.get_set_ne _ _ h] at hc; exact .inr ⟨h, hc⟩
  have hB := r.new a p b hρ hm hrw
  refine ⟨⟨r.low.upd hB (Nat.le_of_eq h1.symm) (fun k hk _ => h2 k hk) h3 h4 h5 r.base h6, by rw [h1]; exact r.base, ?_, ?_, ?_, ?_, ?_, ?_, r.dom, ?_, r.ilow⟩, ⟨fun _ _ => rfl, ILe.refl _, Nat.le_refl _, fun x hx hn => ?_⟩⟩
  · intro x q c e1 e2
    rcases g e2 with ⟨rfl, rfl⟩ | ⟨h, e3⟩
    · rw [hρ] at e1; cases e1; exact hbk
    · exact (r.blk x q c e1 e3).world (RLe.refl _) (ILe.refl _) (h2 _ fun e => r.inj a x p q b c hρ e1 hm e3 hrw (fun e => h e.symm) e.symm)
  · intro x y q q' c c' e1 e1' e2 e2' hw hn
    rcases g e2 with ⟨rfl, rfl⟩ | ⟨h, e3⟩
    · rw [hρ] at e1; cases e1
      rcases g e2' with ⟨rfl, rfl⟩ | ⟨h', e3'⟩
      · exact absurd rfl hn
      · exact r.inj x y p q' b c' hρ e1' hm e3' hrw hn
    · rcases g e2' with ⟨rfl, rfl⟩ | ⟨h', e3'⟩
      · rw [hρ] at e1'; cases e1'
        exact fun e => r.inj y x p q b c hρ e1 hm e3 hrw (fun e => hn e.symm) e.symm
      · exact r.inj x y q q' c c' e1 e1' e3 e3' hw hn
  · refine ⟨?_, r.gok⟩
    intro k c hk
    obtain ⟨e, fr, e1⟩ := r.imm k c hk
    exact ⟨e, fr, (h2 k fun e => by rw [e, r.sep a p b hρ hm hrw] at hk; cases hk).trans e1⟩
  · intro x q c e1 e2 hw
    rcases g e2 with ⟨rfl, rfl⟩ | ⟨h, e3⟩
    · rw [hρ] at e1; cases e1; exact r.sep x p b hρ hm hrw
    · exact r.sep x q c e1 e3 hw
  · intro x q c e1 e2 hw
    rcases g e2 with ⟨rfl, rfl⟩ | ⟨h, e3⟩
    · rw [hρ] at e1; cases e1; exact hB
    · exact r.new x q c e1 e3 hw
  · intro x q e1; rw [h1]; exact r.lt x q e1
  · intro x hx; dsimp at hx ⊢; rw [Mem.get_set_ne _ _ (by omega)]; exact r.memdom x hx
  · dsimp; rw [Mem.get_set_ne _ _ (fun e => by rw [e, hρ] at hn; cases hn)]

end
end Go.Proofs.Ytopagbaokokjdaa.AM

/- The abstract machine: its operations, what they give, and how the model's operations are told as such. -/
namespace Go.Proofs.Ytopagbaokokjdaa.AM
open Go.RowKit
set_option linter.unusedVariables false
set_option linter.unusedSimpArgs false

inductive Opd where
  | t (n : Nat)
  | c (v : AVal)

inductive AOp (α : Type) where
  | mv (x : α)
  | box (x : α)
  | alloc (zero : List AVal)
  | build (zero : List AVal) (parts : List (Nat × Nat × α))
  | buildSl (es : Nat) (zero : List AVal) (len : Nat) (parts : List (Nat × α))
  | ld1 (x : α)
  | ldn (n : Nat) (x : α)
  | st (n : Nat) (a v : α)
  | nilCheck (x : α)
  | bin (op : BinOp) (x y : α)
  | eqb (neg : Bool) (x y : α)
  | eqn (k : Nat) (neg : Bool) (x y : α)
  | eqs (neg : Bool) (ks : List Nat) (x y : α)
  | un (op : UnOp) (x : α)
  | toInt (k : IntKind) (x : α)
  | strBytes (x : α)
  | bytesStr (x : α)
  | idStr (x : α)
  | mark (x : α)
  | mkIface (t : TypeId) (x : α)
  | mkfn (f : FuncId) (first caps : List α)
  | mkmap
  | mkslice (es bytes : Nat) (zero : List AVal) (l c : α)
  | slice (es : Nat) (x : α) (lo hi mx : Option α)
  | fieldAddr (off : Nat) (x : α)
  | field1 (off : Nat) (x : α)
  | fieldn (off n : Nat) (x : α)
  | idxAddr (es : Nat) (x i : α)
  | idxStr (x i : α)
  | lookup (zero : AVal) (st : Bool) (ks : List Nat) (x i : α) (ok : Bool)
  | mapSet (st : Bool) (ks : List Nat) (m k v : α)
  | extract (x : α) (i : Nat)
  | len (k : Nat) (x : α)
  | cap (x : α)
  | minmax (mx : Bool) (x y : α)
  | append (es bytes : Nat) (s x : α)
  | appendMk (es bytes : Nat) (zero : List AVal) (s n : α)
  | copy (es : Nat) (d s : α)
  | delete (st : Bool) (ks : List Nat) (m k : α)
  | rangeM (x : α)
  | entryM (x : α)
  | allocA (es : Nat) (zero : List AVal)
  | idxArr (n es : Nat) (x i : α)
  | sliceArr (n es : Nat) (x : α) (lo hi mx : Option α)
  | clear (es : Nat) (zero : List AVal) (x : α)
  | stuck

def optM {α β : Type} (f : α → Option β) : Option α → Option (Option β)
  | none => some none
  | some x => (f x).map some

def listM {α β : Type} (f : α → Option β) : List α → Option (List β)
  | [] => some []
  | x :: xs => (f x).bind fun y => (listM f xs).map (y :: ·)

def AOp.mapM {α β : Type} (f : α → Option β) : AOp α → Option (AOp β)
  | .mv x => (f x).map .mv
  | .box x => (f x).map .box
  | .alloc z => some (.alloc z)
  | .build z ps => (listM (fun p : Nat × Nat × α => (f p.2.2).map fun v => (p.1, p.2.1, v)) ps).map (.build z)
  | .buildSl es z n ps => (listM (fun p : Nat × α => (f p.2).map fun v => (p.1, v)) ps).map (.buildSl es z n)
  | .ld1 x => (f x).map .ld1
  | .ldn n x => (f x).map (.ldn n)
  | .st n a v => (f a).bind fun a => (f v).map (.st n a)
  | .nilCheck x => (f x).map .nilCheck
  | .bin op x y => (f x).bind fun x => (f y).map (.bin op x)
  | .eqb g x y => (f x).bind fun x => (f y).map (.eqb g x)
  | .eqn k g x y => (f x).bind fun x => (f y).map (.eqn k g x)
  | .eqs g ks x y => (f x).bind fun x => (f y).map (.eqs g ks x)
  | .un op x => (f x).map (.un op)
  | .toInt k x => (f x).map (.toInt k)
  | .strBytes x => (f x).map .strBytes
  | .bytesStr x => (f x).map .bytesStr
  | .idStr x => (f x).map .idStr
  | .mark x => (f x).map .mark
  | .mkIface t x => (f x).map (.mkIface t)
  | .mkfn g xs ys => (listM f xs).bind fun xs => (listM f ys).map (.mkfn g xs)
  | .mkmap => some .mkmap
  | .mkslice es by_ z l c => (f l).bind fun l => (f c).map (.mkslice es by_ z l)
  | .slice es x lo hi mx => (f x).bind fun x => (optM f lo).bind fun lo => (optM f hi).bind fun hi => (optM f mx).map (.slice es x lo hi)
  | .fieldAddr o x => (f x).map (.fieldAddr o)
  | .field1 o x => (f x).map (.field1 o)
  | .fieldn o n x => (f x).map (.fieldn o n)
  | .idxAddr es x i => (f x).bind fun x => (f i).map (.idxAddr es x)
  | .idxStr x i => (f x).bind fun x => (f i).map (.idxStr x)
  | .lookup z sg ks x i ok => (f x).bind fun x => (f i).map fun i => .lookup z sg ks x i ok
  | .mapSet sg ks m k v => (f m).bind fun m => (f k).bind fun k => (f v).map (.mapSet sg ks m k)
  | .extract x i => (f x).map fun x => .extract x i
  | .len k x => (f x).map (.len k)
  | .cap x => (f x).map .cap
  | .minmax b x y => (f x).bind fun x => (f y).map (.minmax b x)
  | .append es by_ s x => (f s).bind fun s => (f x).map (.append es by_ s)
  | .appendMk es by_ z s x => (f s).bind fun s => (f x).map (.appendMk es by_ z s)
  | .copy es d s => (f d).bind fun d => (f s).map (.copy es d)
  | .delete sg ks m k => (f m).bind fun m => (f k).map (.delete sg ks m)
  | .rangeM x => (f x).map .rangeM
  | .entryM x => (f x).map .entryM
  | .allocA es z => some (.allocA es z)
  | .idxArr n es x i => (f x).bind fun x => (f i).map (.idxArr n es x)
  | .sliceArr n es x lo hi mx => (f x).bind fun x => (optM f lo).bind fun lo => (optM f hi).bind fun hi => (optM f mx).map (.sliceArr n es x lo hi)
  | .clear es z x => (f x).map (.clear es z)
  | .stuck => some .stuck

/-! ### What the operations give -/

def cellsOf : AVal → List AVal
  | .agg cs => cs
  | v => [v]

def storeL : List AVal → Nat → List AVal → List AVal
  | vals, _, [] => vals
  | vals, o, c :: cs => storeL (vals.set o c) (o + 1) cs

def fillL : List AVal → List (Nat × Nat × AVal) → Option (List AVal)
  | cells, [] => some cells
  | cells, (off, size, v) :: rest => if (cellsOf v).length = size ∧ off + size ≤ cells.length ∧ (cellsOf v).all AVal.one = true then fillL (storeL cells off (cellsOf v)) rest else none

def repL (n : Nat) (z : List AVal) : List AVal := (List.replicate n z).flatten

def loadL (σ : St) (n : Nat) : AVal → Option (List AVal)
  | .ptr a o => match σ.mem.get a with
    | some (.cells _ vals) => if o + n ≤ vals.length then some ((vals.drop o).take n) else none
    | some (.ro _ vals) => if o + n ≤ vals.length then some ((vals.drop o).take n) else none
    | _ => none
  | .iptr cs => if n ≤ cs.length then some (cs.take n) else none
  | _ => none

def load1 (σ : St) : AVal → Option AVal
  | .ptr a o => match σ.mem.get a with
    | some (.cells _ vals) => vals[o]?
    | some (.ro _ vals) => vals[o]?
    | _ => none
  | .iptr cs => cs[0]?
  | _ => none

/-- The cells of n elements, and how many. -/
def srcL (σ : St) (es : Nat) : AVal → Option (List AVal × Nat)
  | .nilsl => some ([], 0)
  | .isl cs len _ => if cs.length = len * es then some (cs, len) else none
  | .str s => if es = 1 then some (s.data.toList.map fun b => .int .u8 b.toNat, s.size) else none
  | .sl a o len _ _ => match σ.mem.get a with
    | some (.cells _ vals) => if o + len * es ≤ vals.length then some ((vals.drop o).take (len * es), len) else none
    | some (.ro _ vals) => if o + len * es ≤ vals.length then some ((vals.drop o).take (len * es), len) else none
    | _ => none
  | _ => none

def byteOfA : AVal → Option UInt8
  | .int .u8 n => some (UInt8.ofNat n.toNat)
  | _ => none

def abits (op : BinOp) (k : IntKind) (x y : Int) : Option AVal :=
  let a := BitVec.ofInt k.bits x
  let b := BitVec.ofInt k.bits y
  match op with
  | .and => some (.int k (k.wrap (a &&& b).toNat))
  | .or => some (.int k (k.wrap (a ||| b).toNat))
  | .xor => some (.int k (k.wrap (a ^^^ b).toNat))
  | .andNot => some (.int k (k.wrap (a &&& ~~~b).toNat))
  | _ => none

def ashift (op : BinOp) (k : IntKind) (x y : Int) : Option AVal :=
  if y < 0 then none else
  match op with
  | .shl => some (.int k (k.wrap (x * 2 ^ min y.toNat k.bits)))
  | .shr => some (.int k (x.fdiv (2 ^ min y.toNat k.bits)))
  | _ => none

def abinI (op : BinOp) (k : IntKind) (a b : Int) : Option AVal :=
  match op with
  | .add => some (.int k (k.wrap (a + b)))
  | .sub => some (.int k (k.wrap (a - b)))
  | .mul => some (.int k (k.wrap (a * b)))
  | .quo => if b = 0 then none else some (.int k (k.wrap (a.tdiv b)))
  | .rem => if b = 0 then none else some (.int k (a.tmod b))
  | .eql => some (.bool (decide (a = b)))
  | .neq => some (.bool (!decide (a = b)))
  | .lss => some (.bool (decide (a < b)))
  | .leq => some (.bool (decide (a ≤ b)))
  | .gtr => some (.bool (decide (a > b)))
  | .geq => some (.bool (decide (a ≥ b)))
  | op => abits op k a b

def abinS (op : BinOp) (x y : ByteArray) : Option AVal :=
  match op with
  | .add => if ((x.size + y.size : Nat) : Int) > IntKind.i64.max then none else some (.str (x ++ y))
  | .eql => some (.bool (x.toList == y.toList))
  | .neq => some (.bool !(x.toList == y.toList))
  | .lss => some (.bool (Op.bytesLess x.toList y.toList))
  | .leq => some (.bool (Op.bytesLess x.toList y.toList || x.toList == y.toList))
  | .gtr => some (.bool !(Op.bytesLess x.toList y.toList || x.toList == y.toList))
  | .geq => some (.bool !(Op.bytesLess x.toList y.toList))
  | _ => none

def abin (op : BinOp) : AVal → AVal → Option AVal
  | .int k a, .int k' b => match op with
    | .shl => ashift .shl k a b
    | .shr => ashift .shr k a b
    | op => if k = k' then abinI op k a b else none
  | .str a, .str b => abinS op a b
  | _, _ => none

/-- Is a pointer, slice, map, function value the nil one? -/
def isNil : Nat → AVal → Option Bool
  | 0, .nilp => some true
  | 0, .ptr .. => some false
  | 0, .iptr _ => some false
  | 1, .nilsl => some true
  | 1, .sl .. => some false
  | 1, .isl .. => some false
  | 2, .nilmap => some true
  | 2, .map _ => some false
  | 3, .nilfn => some true
  | 3, .fn .. => some false
  | _, _ => none

def aeqn (k : Nat) (x y : AVal) : Option Bool :=
  match isNil k x, isNil k y with
  | some a, some true => some a
  | some true, some b => some b
  | _, _ => none

/-- Keys of maps, and parts of structs that are compared. -/
def keyEq : AVal → AVal → Option Bool
  | .int k a, .int k' b => if k = k' then some (a == b) else none
  | .str a, .str b => some (a == b)
  | .bool a, .bool b => some (a == b)
  | _, _ => none

def keysEq : List AVal → List AVal → Option Bool
  | [], [] => some true
  | x :: xs, y :: ys => match keyEq x y with
    | some true => keysEq xs ys
    | some false => some false
    | none => none
  | _, _ => none

/-- Of what kinds cells are: 1 numbers, 2 strings, 3 truth values. -/
def kShape : Nat → AVal → Bool
  | 1, .int _ _ => true
  | 2, .str _ => true
  | 3, .bool _ => true
  | _, _ => false
def shapeOk : List Nat → List AVal → Bool
  | [], [] => true
  | k :: ks, x :: xs => kShape k x && shapeOk ks xs
  | _, _ => false
def keyIs : Bool → List Nat → AVal → Bool
  | true, ks, .agg cs => shapeOk ks cs
  | true, _, _ => false
  | false, ks, x => shapeOk ks [x]
def keyEqA : AVal → AVal → Option Bool
  | .agg xs, .agg ys => if xs.length = ys.length then keysEq xs ys else none
  | x, y => keyEq x y

def findA (k : AVal) : List (Nat × AVal × AVal) → Option (Option (Nat × AVal))
  | [] => some none
  | (_, x, v) :: es => match keyEqA k x with
    | some true => some (some (0, v))
    | some false => (findA k es).map fun r => r.map fun (i, v) => (i + 1, v)
    | none => none

def bnd (x : Option AVal) (d : Nat) : Option Nat :=
  match x with
  | none => some d
  | some (.int _ n) => if 0 ≤ n then some n.toNat else none
  | _ => none

def asliceSl (lo hi mx : Option AVal) (len cap : Nat) : Option (Nat × Nat × Nat) :=
  (bnd mx cap).bind fun m => if mx.isSome && hi.isNone then none else (bnd hi len).bind fun h => (bnd lo 0).bind fun l => if l ≤ h ∧ h ≤ m ∧ m ≤ cap then some (l, h, m) else none

/-- The operations that do no more than make a block. -/
def allocV (id : Nat) : AOp AVal → Option (AVal × Blk)
  | .box x => if (cellsOf x).all AVal.one then some (.ptr id 0, .cells (cellsOf x).length (cellsOf x)) else none
  | .alloc z => some (.ptr id 0, .cells z.length z)
  | .allocA es z => some (.ptr id 0, .cells es z)
  | .buildSl es z n ps => if 0 < es ∧ n * es ≤ 16777216 ∧ z.length = es then (fillL (repL n z) (ps.map fun (i, v) => (i * es, es, v))).map fun cs => (.sl id 0 n n true, .cells es cs) else none
  | .strBytes x => match x with
    | .str s => if s.size ≤ 140737488355328 then some (.sl id 0 s.size s.size false, .cells 1 (s.data.toList.map fun b => .int .u8 b.toNat)) else none
    | _ => none
  | .mkmap => some (.map id, .map 0 [])
  | .mkslice es by_ z l c => match l, c with
    | .int _ l, .int _ c => if 0 ≤ l ∧ l ≤ c ∧ c ≤ 9223372036854775807 ∧ c * by_ ≤ 140737488355328 ∧ 0 < es ∧ z.length = es then
        some (.sl id 0 l.toNat c.toNat true, .cells es (repL c.toNat z)) else none
    | _, _ => none
  | _ => none

def AOp.isA {α : Type} : AOp α → Bool
  | .box _ => true
  | .alloc _ => true
  | .allocA .. => true
  | .buildSl .. => true
  | .strBytes _ => true
  | .mkmap => true
  | .mkslice .. => true
  | _ => false

def made (σ : St) (x : Option (AVal × Blk)) : Option (AVal × St) := x.map fun (v, b) => (v, ⟨σ.mem.set σ.next b, σ.next + 1⟩)

def evalV (σ : St) : AOp AVal → Option (AVal × St)
  | .mv x => some (x, σ)
  | .box x => made σ (allocV σ.next (.box x))
  | .alloc z => made σ (allocV σ.next (.alloc z))
  | .allocA es z => made σ (allocV σ.next (.allocA es z))
  | .idxArr n es x i => match x, i with
    | .ptr a o, .int _ k => if 0 ≤ k ∧ k < n then some (.ptr a (o + k.toNat * es), σ) else none
    | .iptr cs, .int _ k => if 0 ≤ k ∧ k < n then some (.iptr ((cs.drop (k.toNat * es)).take es), σ) else none
    | _, _ => none
  | .sliceArr n es x lo hi mx => match x with
    | .ptr a o => match σ.mem.get a with
      | some (.cells es' vals) => if es' = es ∧ o + n * es ≤ vals.length ∧ n ≤ 1000000 then (asliceSl lo hi mx n n).map fun q => (.sl a (o + q.1 * es) (q.2.1 - q.1) (q.2.2 - q.1) true, σ) else none
      | _ => none
    | _ => none
  | .clear es z x => match x with
    | .nilsl => some (.tup [], σ)
    | .isl _ 0 _ => some (.tup [], σ)
    | .sl a o len _ _ => if len = 0 then some (.tup [], σ) else match σ.mem.get a with
      | some (.cells es' vals) => if es' = es ∧ o + len * es ≤ vals.length ∧ z.length = es then some (.tup [], ⟨σ.mem.set a (.cells es' (storeL vals o (repL len z))), σ.next⟩) else none
      | _ => none
    | _ => none
  | .build z ps => (fillL z ps).map fun cs => (.agg cs, σ)
  | .buildSl es z n ps => made σ (allocV σ.next (.buildSl es z n ps))
  | .ld1 x => (load1 σ x).map (·, σ)
  | .ldn n x => (loadL σ n x).map fun cs => (.agg cs, σ)
  | .st n a v => match a with
    | .ptr a o => match σ.mem.get a with
      | some (.cells es vals) => if (cellsOf v).length = n ∧ o + n ≤ vals.length ∧ (cellsOf v).all AVal.one = true then some (.nilp, ⟨σ.mem.set a (.cells es (storeL vals o (cellsOf v))), σ.next⟩) else none
      | _ => none
    | _ => none
  | .nilCheck x => match x with
    | .ptr .. => some (x, σ)
    | .iptr _ => some (x, σ)
    | .fn .. => some (x, σ)
    | _ => none
  | .bin op x y => (abin op x y).map (·, σ)
  | .eqb g x y => match x, y with
    | .bool a, .bool b => some (.bool (g != (a == b)), σ)
    | _, _ => none
  | .eqn k g x y => (aeqn k x y).map fun b => (.bool (g != b), σ)
  | .eqs g ks x y => match x, y with
    | .agg xs, .agg ys => if shapeOk ks xs = true ∧ xs.length = ys.length then (keysEq xs ys).map fun b => (.bool (g != b), σ) else none
    | _, _ => none
  | .un op x => match op, x with
    | .neg, .int k n => some (.int k (k.wrap (0 - n)), σ)
    | .xor, .int k n => (abits .xor k (if k.signed then -1 else k.max) n).map (·, σ)
    | .not, .bool b => some (.bool !b, σ)
    | _, _ => none
  | .toInt k x => match x with
    | .int _ n => some (.int k (k.wrap n), σ)
    | _ => none
  | .strBytes x => made σ (allocV σ.next (.strBytes x))
  | .bytesStr x => match x with
    | .str _ => none
    | x => (srcL σ 1 x).bind fun r => (listM byteOfA r.1).map fun l => (.str ⟨l.toArray⟩, σ)
  | .idStr x => match x with
    | .str s => some (.str s, σ)
    | _ => none
  | .mark x => match x with
    | .sl a _ len _ _ => match σ.mem.get a with
      | some (.cells ..) => if 0 < len then some (x, σ) else none
      | _ => none
    | _ => none
  | .mkIface t x => some (.iface t x, σ)
  | .mkfn f xs ys => some (.fn f xs ys, σ)
  | .mkmap => made σ (allocV σ.next .mkmap)
  | .mkslice es by_ z l c => made σ (allocV σ.next (.mkslice es by_ z l c))
  | .slice es x lo hi mx => if es = 0 then match x with
      | .str s => if mx.isSome then none else (asliceSl lo hi none s.size s.size).map fun (l, h, _) => (.str (s.extract l h), σ)
      | _ => none
    else match x with
    | .nilsl => (asliceSl lo hi mx 0 0).map fun _ => (.nilsl, σ)
    | .isl cs len t => (asliceSl lo hi mx len len).map fun (l, h, m) => (.isl ((cs.drop (l * es)).take ((h - l) * es)) (h - l) (if mx.isSome then m == h else t && h == len), σ)
    | .sl a o len cap t => match σ.mem.get a with
      | some (.cells es' _) => if es' = es then (asliceSl lo hi mx len cap).map fun (l, h, m) => (.sl a (o + l * es) (h - l) (m - l) (mx.isSome || t), σ) else none
      | some (.ro es' _) => if es' = es then (asliceSl lo hi mx len cap).map fun (l, h, m) => (.sl a (o + l * es) (h - l) (m - l) (mx.isSome || t), σ) else none
      | _ => none
    | _ => none
  | .fieldAddr off x => match x with
    | .ptr a o => some (.ptr a (o + off), σ)
    | .iptr cs => some (.iptr (cs.drop off), σ)
    | _ => none
  | .field1 off x => match x with
    | .agg cs => (cs[off]?).map (·, σ)
    | _ => none
  | .fieldn off n x => match x with
    | .agg cs => if off + n ≤ cs.length then some (.agg ((cs.drop off).take n), σ) else none
    | _ => none
  | .idxAddr es x i => match x, i with
    | .sl a o len _ _, .int _ i => if 0 ≤ i ∧ i < len then some (.ptr a (o + i.toNat * es), σ) else none
    | .isl cs len _, .int _ i => if 0 ≤ i ∧ i < len then some (.iptr ((cs.drop (i.toNat * es)).take es), σ) else none
    | _, _ => none
  | .idxStr x i => match x, i with
    | .str s, .int _ i => if 0 ≤ i then (s.data.toList[i.toNat]?).map fun b => (.int .u8 b.toNat, σ) else none
    | _, _ => none
  | .lookup z sg ks x k ok => if keyIs sg ks k = true then match x with
      | .nilmap => some (if ok then .tup [z, .bool false] else z, σ)
      | .map a => match σ.mem.get a with
        | some (.map _ ents) => (findA k ents).map fun
          | some (_, v) => (if ok then .tup [v, .bool true] else v, σ)
          | none => (if ok then .tup [z, .bool false] else z, σ)
        | _ => none
      | _ => none
    else none
  | .mapSet sg ks m k v => if keyIs sg ks k = true then match m with
      | .map a => match σ.mem.get a with
        | some (.map clock ents) => (findA k ents).map fun
          | some (i, _) => (.nilp, ⟨σ.mem.set a (.map clock (ents.modify i fun e => (e.1, k, v))), σ.next⟩)
          | none => (.nilp, ⟨σ.mem.set a (.map (clock + 1) (ents ++ [(clock, k, v)])), σ.next⟩)
        | _ => none
      | _ => none
    else none
  | .rangeM x => match x with
    | .nilmap => some (.ptr σ.next 0, ⟨σ.mem.set σ.next (.iter none 0 [] 0), σ.next + 1⟩)
    | .map a => match σ.mem.get a with
      | some (.map clock _) => some (.ptr σ.next 0, ⟨σ.mem.set σ.next (.iter (some a) clock [] clock), σ.next + 1⟩)
      | _ => none
    | _ => none
  | .entryM x => match x with
    | .ptr a 0 => match σ.mem.get a with
      | some (.iter (some m) _ seen last) => match seen.getLast?, σ.mem.get m with
        | some stamp, some (.map clock ents) => if clock = last then (ents.find? fun e => e.1 == stamp).map fun e => (.tup [e.2.1, e.2.2], σ) else none
        | _, _ => none
      | _ => none
    | _ => none
  | .stuck => none
  | .extract x i => match x with
    | .tup vs => (vs[i]?).map (·, σ)
    | _ => none
  | .len k x => match x with
    | .str s => if k = 9 then some (.int .i64 s.size, σ) else none
    | .nilsl => if k = 1 then some (.int .i64 0, σ) else none
    | .sl _ _ len _ _ => if k = 1 then some (.int .i64 len, σ) else none
    | .isl _ len _ => if k = 1 then some (.int .i64 len, σ) else none
    | .nilmap => if k = 2 then some (.int .i64 0, σ) else none
    | .map a => if k = 2 then match σ.mem.get a with
        | some (.map _ ents) => some (.int .i64 ents.length, σ)
        | _ => none
      else none
    | _ => none
  | .cap x => match x with
    | .nilsl => some (.int .i64 0, σ)
    | .sl _ _ _ cap true => some (.int .i64 cap, σ)
    | .isl _ len true => some (.int .i64 len, σ)
    | _ => none
  | .minmax b x y => match x, y with
    | .int k x, .int _ y => some (.int k (if b then (if y > x then y else x) else (if y < x then y else x)), σ)
    | _, _ => none
  | .appendMk es by_ z s x => match s, x with
    | .nilsl, .int .i64 n => if 0 < n ∧ 0 < es ∧ z.length = es ∧ n * by_ ≤ 140737488355328 ∧ n ≤ 9223372036854775807 then some (.sl σ.next 0 n.toNat n.toNat false, ⟨σ.mem.set σ.next (.cells es (repL n.toNat z)), σ.next + 1⟩) else none
    | _, _ => none
  | .append es by_ s x => if es = 0 then none else (srcL σ es x).bind fun (cs, n) => match s with
    | .nilsl => if n = 0 then some (.nilsl, σ) else
      if n * by_ ≤ 140737488355328 ∧ n ≤ 9223372036854775807 then some (.sl σ.next 0 n n false, ⟨σ.mem.set σ.next (.cells es cs), σ.next + 1⟩) else none
    | .isl old len t => if n = 0 then some (s, σ) else
      if t = true ∧ old.length = len * es ∧ (len + n) * by_ ≤ 140737488355328 ∧ len + n ≤ 9223372036854775807 then
        some (.sl σ.next 0 (len + n) (len + n) false, ⟨σ.mem.set σ.next (.cells es (old ++ cs)), σ.next + 1⟩) else none
    | .sl a o len cap t => match σ.mem.get a with
      | some (.cells es' vals) =>
        if es' = es then
          if len + n ≤ cap then
            if o + (len + n) * es ≤ vals.length then some (.sl a o (len + n) cap t, ⟨σ.mem.set a (.cells es (storeL vals (o + len * es) cs)), σ.next⟩) else none
          else if o + len * es ≤ vals.length ∧ (len + n) * by_ ≤ 140737488355328 ∧ len + n ≤ 9223372036854775807 then
            if t then some (.sl σ.next 0 (len + n) (len + n) false, ⟨σ.mem.set σ.next (.cells es ((vals.drop o).take (len * es) ++ cs)), σ.next + 1⟩)
            else some (.sl σ.next 0 (len + n) (len + n) false, ⟨(σ.mem.del a).set σ.next (.cells es ((vals.drop o).take (len * es) ++ cs)), σ.next + 1⟩)
          else none
        else none
      | some (.ro es' vals) =>
        if n = 0 then some (s, σ) else
        if es' = es ∧ t = true ∧ cap < len + n ∧ o + len * es ≤ vals.length ∧ (len + n) * by_ ≤ 140737488355328 ∧ len + n ≤ 9223372036854775807 then
          some (.sl σ.next 0 (len + n) (len + n) false, ⟨σ.mem.set σ.next (.cells es ((vals.drop o).take (len * es) ++ cs)), σ.next + 1⟩) else none
      | _ => none
    | _ => none
  | .copy es d s => if es = 0 then none else match d with
    | .nilsl => (srcL σ es s).map fun _ => (.int .i64 0, σ)
    | .sl a o len _ _ => match σ.mem.get a with
      | some (.cells es' vals) => (srcL σ es s).bind fun (cs, n) =>
        if es' = es ∧ o + len * es ≤ vals.length then some (.int .i64 (min n len : Nat), ⟨σ.mem.set a (.cells es (storeL vals o (cs.take (min n len * es)))), σ.next⟩) else none
      | _ => none
    | _ => none
  | .delete sg ks m k => if keyIs sg ks k = true then match m with
      | .nilmap => some (.tup [], σ)
      | .map a => match σ.mem.get a with
        | some (.map clock ents) => (findA k ents).map fun
          | some (i, _) => (.tup [], ⟨σ.mem.set a (.map clock (ents.eraseIdx i)), σ.next⟩)
          | none => (.tup [], ⟨σ.mem.set a (.map clock ents), σ.next⟩)
        | _ => none
      | _ => none
    else none

/-- What the next step of an iterator may give: all of it. -/
def nextC (σ : St) : AVal → Option (List (AVal × St))
  | .ptr a 0 => match σ.mem.get a with
    | some (.iter none _ _ _) => some [(.tup [.bool false], σ)]
    | some (.iter (some m) since seen last) => match σ.mem.get m with
      | some (.map clock ents) => if !seen.isEmpty && !ents.isEmpty && ents.all (fun e => decide (last ≤ e.1)) then none else
        some ((if ((ents.filter fun e => !seen.contains e.1).filter fun e => decide (e.1 < since)).isEmpty then [(.tup [.bool false], σ)] else []) ++
          (((ents.filter fun e => !seen.contains e.1).filter fun e => decide (e.1 < since)) ++ ((ents.filter fun e => !seen.contains e.1).filter fun e => decide (since ≤ e.1))).map fun e =>
            (.tup [.bool true, e.2.1, e.2.2], ⟨σ.mem.set a (.iter (some m) since (seen ++ [e.1]) clock), σ.next⟩))
      | _ => none
    | _ => none
  | _ => none

end Go.Proofs.Ytopagbaokokjdaa.AM

/- The abstract machine: the operations that only read. -/
namespace Go.Proofs.Ytopagbaokokjdaa.AM
open Go.RowKit
set_option linter.unusedVariables false
set_option linter.unusedSimpArgs false

section
variable {P : Program} {B : Nat} {w0 : Root} {w : World} {ρ : Rho} {I : Imm} {σ : St}

def isAggD : TypeDesc → Bool
  | .struct _ | .array _ _ => true
  | _ => false

theorem addr_add (b o n : Nat) : (⟨b, o, none⟩ : Addr).add n = ⟨b, o + n, none⟩ := by
  unfold Addr.add; split
  · rename_i h; subst h; rfl
  · rfl

theorem Rel.icell (r : Rel B w0 ρ I σ w) {a : Addr} {u : Value} (h : icell I a = some u) : w.cell? a = some u := by
  unfold AM.icell at h
  split at h
  · cases h
  · rename_i hs
    cases hb : I a.block with
    | none => rw [hb] at h; cases h
    | some c =>
      rw [hb] at h
      obtain ⟨e, fr, h1⟩ := r.imm _ _ hb
      simp only [World.cell?, h1]
      rw [if_neg hs]; exact h

/-- The cells of a block, to be read. -/
def Blk.vals? : Blk → Option (List AVal)
  | .cells _ v => some v
  | .ro _ v => some v
  | _ => none

theorem Rel.cell (r : Rel B w0 ρ I σ w) {a : Nat} {p : Place} {b : Blk} {vals : List AVal} (hρ : ρ a = some p) (hm : σ.mem.get a = some b) (hb : b.vals? = some vals) :
    CRel ρ I vals (fun j => w.cell? ⟨p.b, p.base + j, none⟩) := by
  have h := r.blk a p b hρ hm
  cases b with
  | cells es vs =>
    cases hb
    obtain ⟨h1, h2, h3, c, e, fr, h4, h5, h6, h7⟩ := h
    exact h7.mono (RLe.refl _) (ILe.refl _) _ _ _ fun j u hu => by rw [cell_of_row w _ _ _ _ _ h4]; exact hu
  | ro es vs =>
    cases hb
    obtain ⟨h1, h2, c, h3, h4⟩ := h
    obtain ⟨e, fr, h5⟩ := r.imm _ _ h3
    exact h4.mono (RLe.refl _) (ILe.refl _) _ _ _ fun j u hu => by rw [cell_of_row w _ _ _ _ _ h5]; exact hu
  | map _ _ => cases hb
  | iter _ _ _ _ => cases hb
  | loop _ => cases hb

theorem Rel.valsOne (r : Rel B w0 ρ I σ w) {a : Nat} {p : Place} {b : Blk} {vals : List AVal} (hρ : ρ a = some p) (hm : σ.mem.get a = some b) (hb : b.vals? = some vals) : vals.all AVal.one = true := by
  have h := r.blk a p b hρ hm
  cases b <;> cases hb
  · exact h.2.1
  · exact h.2.1

/-- A pointer's cells. -/
def PCells (σ : St) : AVal → Option (List AVal)
  | .ptr a o => ((σ.mem.get a).bind Blk.vals?).bind fun v => if o ≤ v.length then some (v.drop o) else none
  | .iptr cs => some cs
  | _ => none

theorem CRel.drop {f : Nat → Option Value} {cs : List AVal} (h : CRel ρ I cs f) (n : Nat) : CRel ρ I (cs.drop n) (fun j => f (n + j)) :=
  CRel.mk fun j v hv => h.get (n + j) v (by rw [List.getElem?_drop] at hv; exact hv)

theorem CRel.take {f : Nat → Option Value} {cs : List AVal} (h : CRel ρ I cs f) (n : Nat) : CRel ρ I (cs.take n) f :=
  CRel.mk fun j v hv => h.get j v (by
    rw [List.getElem?_take] at hv
    split at hv
    · exact hv
    · cases hv)

theorem CRel.congr {f g : Nat → Option Value} {cs : List AVal} (h : CRel ρ I cs f) (e : ∀ j, j < cs.length → f j = g j) : CRel ρ I cs g :=
  CRel.mk fun j v hv => by
    obtain ⟨u, h1, h2⟩ := h.get j v hv
    exact ⟨u, (e j (List.getElem?_eq_some_iff.1 hv).1) ▸ h1, h2⟩

/-- The concrete values of related cells. -/
theorem CRel.list {f : Nat → Option Value} {cs : List AVal} (h : CRel ρ I cs f) : ∃ us : List Value, us.length = cs.length ∧ (∀ (j : Nat) (u : Value), us[j]? = some u → f j = some u) ∧ CRel ρ I cs (fun j => us[j]?) := by
  induction cs generalizing f with
  | nil => exact ⟨[], rfl, fun j u hu => by simp at hu, trivial⟩
  | cons c cs ih =>
    simp only [CRel] at h
    obtain ⟨⟨u, h1, h2⟩, h3⟩ := h
    obtain ⟨us, h4, h5, h6⟩ := ih h3
    refine ⟨u :: us, by simp [h4], fun j x hx => ?_, ?_⟩
    · cases j with
      | zero => simp at hx; subst hx; exact h1
      | succ j => exact h5 j x (by simpa using hx)
    · simp only [CRel]
      exact ⟨⟨u, by simp, h2⟩, by simpa using h6⟩

theorem CRel.one {us : List Value} {cs : List AVal} (h : CRel ρ I cs (fun j => us[j]?)) (hl : us.length = cs.length) (h1 : cs.all AVal.one = true) : ∀ u ∈ us, u.oneCell' = true := by
  intro u hu
  obtain ⟨j, hj, rfl⟩ := List.getElem_of_mem hu
  have hj' : j < cs.length := by omega
  obtain ⟨u', h2, h3⟩ := h.get j cs[j] (List.getElem?_eq_getElem hj')
  have : us[j]? = some us[j] := List.getElem?_eq_getElem hj
  rw [this] at h2; cases h2
  exact h3.one (List.all_eq_true.1 h1 _ (List.getElem_mem hj'))

/-- A pointer and the cells that it leads to. -/
theorem Rel.pcells (r : Rel B w0 ρ I σ w) {x : AVal} {cx : Value} {cs : List AVal} (h : PCells σ x = some cs) (hx : VRel ρ I x cx) :
    ∃ a, cx = .pointer (some a) ∧ cs.all AVal.one = true ∧ CRel ρ I cs (fun j => w.cell? (a.add j)) := by
  cases x <;> simp only [PCells] at h <;> try cases h
  · rename_i a o
    simp only [VRel] at hx
    obtain ⟨p, h1, rfl⟩ := hx
    cases hm : σ.mem.get a with
    | none => rw [hm] at h; cases h
    | some b =>
      rw [hm] at h
      simp only [Option.bind_some] at h
      cases hb : b.vals? with
      | none => rw [hb] at h; cases h
      | some vals =>
        rw [hb] at h
        simp only [Option.bind_some] at h
        split at h <;> cases h
        refine ⟨_, rfl, ?_, ?_⟩
        · have := r.valsOne h1 hm hb
          rw [List.all_eq_true] at this ⊢
          exact fun y hy => this y (List.mem_of_mem_drop hy)
        · exact ((r.cell h1 hm hb).drop o).congr fun j _ => by rw [addr_add, Nat.add_assoc]
  · simp only [VRel] at hx
    obtain ⟨a, rfl, h1, h2⟩ := hx
    exact ⟨a, rfl, h1, h2.mono (RLe.refl _) (ILe.refl _) _ _ _ fun j u hu => r.icell hu⟩

theorem load1_pcells {x v : AVal} (h : load1 σ x = some v) : ∃ cs, PCells σ x = some cs ∧ cs[0]? = some v := by
  cases x <;> simp only [load1] at h <;> try cases h
  · rename_i a o
    cases hm : σ.mem.get a with
    | none => rw [hm] at h; cases h
    | some b =>
      rw [hm] at h
      cases b <;> simp only at h <;> try cases h
      all_goals
        have := (List.getElem?_eq_some_iff.1 h).1
        refine ⟨_, by simp only [PCells, hm, Option.bind_some, Blk.vals?]; rw [if_pos (by omega)], ?_⟩
        rw [List.getElem?_drop]; simpa using h
  · exact ⟨_, rfl, h⟩

theorem loadL_pcells {x : AVal} {n : Nat} {v : List AVal} (h : loadL σ n x = some v) : ∃ cs, PCells σ x = some cs ∧ n ≤ cs.length ∧ v = cs.take n := by
  cases x <;> simp only [loadL] at h <;> try cases h
  · rename_i a o
    cases hm : σ.mem.get a with
    | none => rw [hm] at h; cases h
    | some b =>
      rw [hm] at h
      cases b <;> simp only at h <;> try cases h
      all_goals
        split at h <;> cases h
        refine ⟨_, by simp only [PCells, hm, Option.bind_some, Blk.vals?]; rw [if_pos (by omega)], ?_, rfl⟩
        rw [List.length_drop]; omega
  · split at h <;> cases h
    exact ⟨_, rfl, by assumption, rfl⟩

theorem run_isAgg_false (t : TypeId) (d : TypeDesc) (hu : P.underlying t = some d) (hd : isAggD d = false) : (isAgg t).run P w = .ok false w := by
  cases d <;> simp_all [isAgg, underlying, isAggD]

theorem run_isAgg_true (t : TypeId) (d : TypeDesc) (hu : P.underlying t = some d) (hd : isAggD d = true) : (isAgg t).run P w = .ok true w := by
  cases d <;> simp_all [isAgg, underlying, isAggD]

theorem ld1_sound (r : Rel B w0 ρ I σ w) {x v : AVal} {cx : Value} (h : load1 σ x = some v) (hx : VRel ρ I x cx) (t : TypeId) (d : TypeDesc) (hu : P.underlying t = some d) (hd : isAggD d = false) :
    ∃ cv, (Instr.loadAt t cx).run P w = .ok cv w ∧ VRel ρ I v cv := by
  obtain ⟨cs, h1, h2⟩ := load1_pcells h
  obtain ⟨a, rfl, h3, h4⟩ := r.pcells h1 hx
  obtain ⟨u, h5, h6⟩ := h4.get 0 v h2
  have h5' : w.cell? a = some u := h5
  refine ⟨u, ?_, h6⟩
  simp [Instr.loadAt, Instr.sureAddr, loadVar, run_isAgg_false t d hu hd, h5']

theorem ldn_sound (r : Rel B w0 ρ I σ w) {x : AVal} {n : Nat} {v : List AVal} {cx : Value} (h : loadL σ n x = some v) (hx : VRel ρ I x cx) (t : TypeId) (d : TypeDesc) (hu : P.underlying t = some d) (hd : isAggD d = true)
    (i : TypeInfo) (hi : P.info? t = some i) (hn : i.size = n) :
    ∃ cv, (Instr.loadAt t cx).run P w = .ok cv w ∧ VRel ρ I (.agg v) cv := by
  obtain ⟨cs, h1, h2, rfl⟩ := loadL_pcells h
  obtain ⟨a, rfl, h3, h4⟩ := r.pcells h1 hx
  obtain ⟨us, h5, h6, h7⟩ := (h4.take n).list
  have hl : us.length = n := by rw [h5, List.length_take]; omega
  have hs : (sizeOf t).run P w = .ok n w := by simp [sizeOf, typeInfo, hi, hn]
  have hc := run_loadCells_list (P := P) (w := w) a us h6
  rw [hl] at hc
  refine ⟨.agg us.toArray, ?_, ?_⟩
  · simp [Instr.loadAt, Instr.sureAddr, loadVar, run_isAgg_true t d hu hd, hs, hc]
  · simp only [VRel]
    refine ⟨_, rfl, by simp [h5], ?_, by simpa using h7⟩
    rw [List.all_eq_true] at h3 ⊢
    exact fun y hy => h3 y (List.mem_of_mem_take hy)

end
end Go.Proofs.Ytopagbaokokjdaa.AM

/- The abstract machine: the operations that make or write memory. -/
namespace Go.Proofs.Ytopagbaokokjdaa.AM
open Go.RowKit
set_option linter.unusedVariables false
set_option linter.unusedSimpArgs false

section
variable {P : Program} {B : Nat} {w0 : Root} {w : World} {ρ : Rho} {I : Imm} {σ : St}

theorem length_storeL (cs : List AVal) : ∀ (vals : List AVal) (o : Nat), (storeL vals o cs).length = vals.length := by
  induction cs with
  | nil => intro vals o; rfl
  | cons c cs ih => intro vals o; simp [storeL, ih]

theorem VRel.cells {v : AVal} {cv : Value} (h : VRel ρ I v cv) (h1 : (cellsOf v).all AVal.one = true) : cv.cells.size = (cellsOf v).length ∧ CRel ρ I (cellsOf v) (fun j => cv.cells.toList[j]?) := by
  cases v <;> simp only [cellsOf] at h1 ⊢ <;> first
    | (simp [AVal.one] at h1; done)
    | skip
  case agg cs =>
    simp only [VRel] at h
    obtain ⟨cs', rfl, h2, h3, h4⟩ := h
    exact ⟨h2, by simpa [Value.cells] using h4⟩
  all_goals
    have h2 := h.one rfl
    have h3 : cv.cells = #[cv] := by cases cv <;> first | rfl | (cases h2)
    rw [h3]
    refine ⟨rfl, ?_⟩
    simp only [CRel]
    exact ⟨⟨cv, by simp, h⟩, trivial⟩

/-- Cells stored one behind the other. -/
theorem storeCells_sound {a es o : Nat} {p : Place} (hρ : ρ a = some p) : ∀ (cs : List AVal) (us : List Value) (σ : St) (w : World) (vals : List AVal) (i : Nat), Rel B w0 ρ I σ w → σ.mem.get a = some (.cells es vals) →
    us.length = cs.length → CRel ρ I cs (fun j => us[j]?) → cs.all AVal.one = true → o + i + cs.length ≤ vals.length →
    ∃ w', (storeCells ⟨p.b, p.base + o, none⟩ us i).run P w = .ok () w' ∧ Rel B w0 ρ I ⟨σ.mem.set a (.cells es (storeL vals (o + i) cs)), σ.next⟩ w' ∧ Ext ρ I σ ρ I ⟨σ.mem.set a (.cells es (storeL vals (o + i) cs)), σ.next⟩ := by
  intro cs
  induction cs with
  | nil =>
    intro us σ w vals i r hm hl hc h1 hb
    obtain rfl : us = [] := List.eq_nil_of_length_eq_zero (by simpa using hl)
    have hg : ∀ x, (σ.mem.set a (.cells es vals)).get x = σ.mem.get x := fun x => by
      by_cases h : x = a
      · subst h; simp [hm]
      · simp [h]
    refine ⟨w, by simp [storeCells], ?_, ?_⟩
    · simp only [storeL]
      exact ⟨r.low, r.base, fun x q b h2 h3 => r.blk x q b h2 (by rw [← hg]; exact h3), fun x y q q' b b' h2 h2' h3 h3' => r.inj x y q q' b b' h2 h2' (by rw [← hg]; exact h3) (by rw [← hg]; exact h3'), r.imm',
        fun x q b h2 h3 => r.sep x q b h2 (by rw [← hg]; exact h3), fun x q b h2 h3 => r.new x q b h2 (by rw [← hg]; exact h3), r.lt, r.dom, fun x hx => by dsimp; rw [hg]; exact r.memdom x hx, r.ilow⟩
    · simp only [storeL]
      exact ⟨fun _ _ => rfl, ILe.refl _, Nat.le_refl _, fun x hx hn => hg x⟩
  | cons c cs ih =>
    intro us σ w vals i r hm hl hc h1 hb
    obtain ⟨u, us, rfl⟩ : ∃ u us', us = u :: us' := by cases us with
      | nil => simp at hl
      | cons u us => exact ⟨u, us, rfl⟩
    simp only [CRel] at hc
    obtain ⟨⟨u', hu, hv⟩, hc⟩ := hc
    simp at hu; subst hu
    simp only [List.all_cons, Bool.and_eq_true] at h1
    simp only [List.length_cons] at hb hl
    obtain ⟨⟨x, hx⟩, hf, r2, e2⟩ := r.setCell hρ hm (o := o + i) (by omega) hv h1.1
    obtain ⟨w', h5, h6, h7⟩ := ih us ⟨σ.mem.set a (.cells es (vals.set (o + i) c)), σ.next⟩ _ (vals.set (o + i) c) (i + 1) r2 (by simp) (by omega) (by simpa using hc) h1.2 (by simp; omega)
    have e0 : (o + i + 1) = o + (i + 1) := by omega
    have hset : ∀ (A C : Blk) (m : Mem) (x : Nat), ((m.set a A).set a C).get x = (m.set a C).get x := fun A C m x => by
      by_cases h : x = a
      · subst h; simp
      · simp [h]
    refine ⟨w', ?_, ?_, ?_⟩
    · have hadd : (⟨p.b, p.base + o, none⟩ : Addr).add i = ⟨p.b, p.base + (o + i), none⟩ := by rw [addr_add, Nat.add_assoc]
      simp only [storeCells, Sem.run_bind, hadd, run_store P w _ _ .plain (hv.one h1.1), hx, hf]
      simpa using h5
    · simp only [storeL, e0]
      have hg := hset (.cells es (vals.set (o + i) c)) (.cells es (storeL (vals.set (o + i) c) (o + (i + 1)) cs)) σ.mem
      exact ⟨h6.low, h6.base, fun x q b h2 h3 => h6.blk x q b h2 (by rw [hg]; exact h3), fun x y q q' b b' h2 h2' h3 h3' => h6.inj x y q q' b b' h2 h2' (by rw [hg]; exact h3) (by rw [hg]; exact h3'), h6.imm',
        fun x q b h2 h3 => h6.sep x q b h2 (by rw [hg]; exact h3), fun x q b h2 h3 => h6.new x q b h2 (by rw [hg]; exact h3), h6.lt, h6.dom, fun x hx => by have := h6.memdom x hx; dsimp at this ⊢; rw [hg] at this; exact this, h6.ilow⟩
    · simp only [storeL, e0]
      exact ⟨fun _ _ => rfl, ILe.refl _, Nat.le_refl _, fun x hx hn => by
        have hne : x ≠ a := fun e => by rw [e, hρ] at hn; cases hn
        simp [hne]⟩

/-- A value, or nothing, and what has become of memory. -/
def Good (B : Nat) (w0 : Root) (ρ : Rho) (I : Imm) (σ : St) (res : Result Value) (v : AVal) (σ' : St) : Prop :=
  ∃ cv w' ρ' I', res = .ok cv w' ∧ VRel ρ' I' v cv ∧ Rel B w0 ρ' I' σ' w' ∧ Ext ρ I σ ρ' I' σ'

def GoodU (B : Nat) (w0 : Root) (ρ : Rho) (I : Imm) (σ : St) (res : Result Unit) (σ' : St) : Prop :=
  ∃ w' ρ' I', res = .ok () w' ∧ Rel B w0 ρ' I' σ' w' ∧ Ext ρ I σ ρ' I' σ'

theorem Good.quiet (r : Rel B w0 ρ I σ w) {res : Result Value} {v : AVal} {cv : Value} (h : res = .ok cv w) (hv : VRel ρ I v cv) : Good B w0 ρ I σ res v σ :=
  ⟨cv, w, ρ, I, h, hv, r, Ext.refl _ _ _⟩

theorem st_sound (r : Rel B w0 ρ I σ w) {a v z : AVal} {ca cv : Value} {n : Nat} {σ' : St} (h : evalV σ (.st n a v) = some (z, σ')) (ha : VRel ρ I a ca) (hv : VRel ρ I v cv) (t : TypeId) (i : TypeInfo) (hi : P.info? t = some i) (hn : i.size = n) :
    GoodU B w0 ρ I σ ((Instr.storeAt t ca cv).run P w) σ' := by
  simp only [evalV] at h
  split at h
  · rename_i a o
    split at h
    · rename_i es vals hm
      split at h
      · rename_i hc
        obtain ⟨h1, h2, h3⟩ := hc
        cases h
        simp only [VRel] at ha
        obtain ⟨p, hρ, rfl⟩ := ha
        obtain ⟨h4, h5⟩ := hv.cells h3
        obtain ⟨w', h6, h7, h8⟩ := storeCells_sound (P := P) hρ (o := o) (cellsOf v) cv.cells.toList σ w vals 0 r hm (by simpa using h4) h5 h3 (by omega)
        refine ⟨w', ρ, I, ?_, h7, h8⟩
        have hs : (sizeOf t).run P w = .ok n w := by simp [sizeOf, typeInfo, hi, hn]
        simp [Instr.storeAt, Instr.sureAddr, storeVar, hs, h4, h1, h6]
      · cases h
    · cases h
  · cases h

/-- A value in a block that comes into the world. -/
def GoodAt (B : Nat) (w0 : Root) (ρ : Rho) (I : Imm) (σ : St) (id : Nat) (res : Result Value) (v : AVal) : Prop :=
  ∃ cv w' p, res = .ok cv w' ∧ VRel (upd ρ id p) I v cv ∧ Rel B w0 (upd ρ id p) I σ w'

theorem newVar_at (r : Rel B w0 ρ I σ w) {id : Nat} (hid : ρ id = none) {v : AVal} {cv : Value} (hm : σ.mem.get id = some (.cells (cellsOf v).length (cellsOf v))) (h1 : (cellsOf v).all AVal.one = true) (hv : VRel ρ I v cv) (t : TypeId) :
    GoodAt B w0 ρ I σ id ((do pure (.pointer (some (← newVar t cv))) : Sem Value).run P w) (.ptr id 0) := by
  obtain ⟨h2, h3⟩ := hv.cells h1
  have r2 := r.newCells_at hid hm cv.cells t h1 (by omega) (by simpa using h3)
  refine ⟨.pointer (some ⟨w.heap.size, 0, none⟩), _, _, ?_, ?_, r2⟩
  · simp [newVar, newRow]
  · simp [VRel]

theorem Rel.memEq (r : Rel B w0 ρ I σ w) {m : Mem} (hg : ∀ x, m.get x = σ.mem.get x) : Rel B w0 ρ I ⟨m, σ.next⟩ w :=
  ⟨r.low, r.base, fun x q b h2 h3 => r.blk x q b h2 (by rw [← hg]; exact h3), fun x y q q' b b' h2 h2' h3 h3' => r.inj x y q q' b b' h2 h2' (by rw [← hg]; exact h3) (by rw [← hg]; exact h3'), r.imm',
    fun x q b h2 h3 => r.sep x q b h2 (by rw [← hg]; exact h3), fun x q b h2 h3 => r.new x q b h2 (by rw [← hg]; exact h3), r.lt, r.dom, fun x hx => by dsimp; rw [hg]; exact r.memdom x hx, r.ilow⟩

/-- A block that no value needs any more. -/
theorem Rel.del (r : Rel B w0 ρ I σ w) (a : Nat) : Rel B w0 ρ I ⟨σ.mem.del a, σ.next⟩ w := by
  have hg : ∀ {x : Nat} {b : Blk}, (σ.mem.del a).get x = some b → σ.mem.get x = some b := fun {x b} h => by
    rw [Mem.get_del] at h
    split at h
    · cases h
    · exact h
  exact ⟨r.low, r.base, fun x q b h2 h3 => r.blk x q b h2 (hg h3), fun x y q q' b b' h2 h2' h3 h3' => r.inj x y q q' b b' h2 h2' (hg h3) (hg h3'), r.imm',
    fun x q b h2 h3 => r.sep x q b h2 (hg h3), fun x q b h2 h3 => r.new x q b h2 (hg h3), r.lt, r.dom, fun x hx => by
      dsimp; rw [Mem.get_del]; split
      · rfl
      · exact r.memdom x hx, r.ilow⟩

theorem Ext.del {a : Nat} {p : Place} (h : ρ a = some p) : Ext ρ I σ ρ I ⟨σ.mem.del a, σ.next⟩ :=
  ⟨fun _ _ => rfl, ILe.refl _, Nat.le_refl _, fun x hx hn => by
    have hne : x ≠ a := fun e => by rw [e, h] at hn; cases hn
    simp [hne]⟩

/-- A row made by a literal, or by make, or by an append that grows. -/
theorem newRow_good (r : Rel B w0 ρ I σ w) {es len cap capA : Nat} {tight : Bool} {vals : List AVal} {arr : Array Value} (e : TypeId) {res : Result Value} (h1 : vals.all AVal.one = true) (h2 : vals.length ≤ arr.size) (h3 : CRel ρ I vals (fun j => arr[j]?))
    (h4 : len ≤ capA) (h5 : capA ≤ cap) (h6 : cap ≤ maxLen) (h7 : tight = true → cap = capA) (h8 : cap * es ≤ arr.size)
    (hres : res = .ok (.slice (some ⟨w.heap.size, 0, none⟩) len cap) (w.alloc (.cells arr e))) :
    Good B w0 ρ I σ res (.sl σ.next 0 len capA tight) ⟨σ.mem.set σ.next (.cells es vals), σ.next + 1⟩ := by
  obtain ⟨r2, e2⟩ := r.newCells es vals arr e h1 h2 h3
  refine ⟨_, _, _, _, hres, ?_, r2, e2⟩
  simp only [VRel]
  exact ⟨_, _, _, upd_self _ _ _, rfl, h4, h5, h6, h7, .inr rfl, by simpa using h8⟩

theorem newRow_at (r : Rel B w0 ρ I σ w) {id : Nat} (hid : ρ id = none) {es len cap capA : Nat} {tight : Bool} {vals : List AVal} {arr : Array Value} (hm : σ.mem.get id = some (.cells es vals)) (e : TypeId) {res : Result Value} (h1 : vals.all AVal.one = true) (h2 : vals.length ≤ arr.size) (h3 : CRel ρ I vals (fun j => arr[j]?))
    (h4 : len ≤ capA) (h5 : capA ≤ cap) (h6 : cap ≤ maxLen) (h7 : tight = true → cap = capA) (h8 : cap * es ≤ arr.size)
    (hres : res = .ok (.slice (some ⟨w.heap.size, 0, none⟩) len cap) (w.alloc (.cells arr e))) :
    GoodAt B w0 ρ I σ id res (.sl id 0 len capA tight) := by
  have r2 := r.newCells_at hid hm arr e h1 h2 h3
  refine ⟨_, _, _, hres, ?_, r2⟩
  simp only [VRel]
  exact ⟨_, _, _, upd_self _ _ _, rfl, h4, h5, h6, h7, .inr rfl, by simpa using h8⟩

end
end Go.Proofs.Ytopagbaokokjdaa.AM

/- The abstract machine: literals, fields, addresses, slices of slices. -/
namespace Go.Proofs.Ytopagbaokokjdaa.AM
open Go.RowKit
set_option linter.unusedVariables false
set_option linter.unusedSimpArgs false

section
variable {P : Program} {B : Nat} {w0 : Root} {w : World} {ρ : Rho} {I : Imm} {σ : St}

/-- What is so whatever memory is like. -/
def KRel (v : AVal) (cv : Value) : Prop := ∀ ρ I, VRel ρ I v cv
def KCRel (cs : List AVal) (arr : Array Value) : Prop := cs.length = arr.size ∧ ∀ ρ I, CRel ρ I cs (fun j => arr[j]?)

theorem CRel.nil (f : Nat → Option Value) : CRel ρ I [] f := trivial

theorem setIfs_list (off : Nat) : ∀ (us : List Value) (k : Nat) (arr : Array Value),
    ((us.zipIdx k).foldl (fun (cs : Array Value) (x : Value × Nat) => cs.setIfInBounds (off + x.2) x.1) arr).size = arr.size ∧
    ∀ j, ((us.zipIdx k).foldl (fun (cs : Array Value) (x : Value × Nat) => cs.setIfInBounds (off + x.2) x.1) arr)[j]? =
      if off + k ≤ j ∧ j < off + k + us.length ∧ j < arr.size then us[j - (off + k)]? else arr[j]? := by
  intro us
  induction us with
  | nil => intro k arr; simp; intro j h1 h2; omega
  | cons u us ih =>
    intro k arr
    simp only [List.zipIdx_cons, List.foldl_cons]
    obtain ⟨h1, h2⟩ := ih (k + 1) (arr.setIfInBounds (off + k) u)
    refine ⟨by simpa using h1, fun j => ?_⟩
    rw [h2 j]
    simp only [Array.size_setIfInBounds, List.length_cons]
    by_cases hj : off + (k + 1) ≤ j ∧ j < off + (k + 1) + us.length ∧ j < arr.size
    · rw [if_pos hj, if_pos (by omega)]
      have : j - (off + k) = (j - (off + (k + 1))) + 1 := by omega
      rw [this, List.getElem?_cons_succ]
    · rw [if_neg hj]
      by_cases hj2 : off + k = j ∧ j < arr.size
      · obtain ⟨rfl, hlt⟩ := hj2
        rw [if_pos (by omega), Array.getElem?_setIfInBounds_self]
        simp [hlt]
      · by_cases he : off + k = j
        · subst he
          rw [if_neg (by omega), Array.getElem?_setIfInBounds_self]
          have : ¬ off + k < arr.size := fun h => hj2 ⟨rfl, h⟩
          simp [this]
        · rw [if_neg (by omega), Array.getElem?_setIfInBounds_ne (by omega)]

theorem storeL_get : ∀ (cs : List AVal) (vals : List AVal) (o j : Nat), (storeL vals o cs)[j]? = if o ≤ j ∧ j < o + cs.length ∧ j < vals.length then cs[j - o]? else vals[j]? := by
  intro cs
  induction cs with
  | nil => intro vals o j; simp [storeL]; intro h1 h2; omega
  | cons c cs ih =>
    intro vals o j
    simp only [storeL, ih, List.length_set, List.length_cons]
    by_cases hj : o + 1 ≤ j ∧ j < o + 1 + cs.length ∧ j < vals.length
    · rw [if_pos hj, if_pos (by omega)]
      have : j - o = (j - (o + 1)) + 1 := by omega
      rw [this, List.getElem?_cons_succ]
    · rw [if_neg hj, List.getElem?_set]
      by_cases he : o = j
      · subst he
        by_cases hl : o < vals.length
        · rw [if_pos rfl, if_pos hl, if_pos (by omega)]; simp
        · rw [if_pos rfl, if_neg hl, if_neg (by omega)]
          exact (List.getElem?_eq_none (by omega)).symm
      · rw [if_neg he, if_neg (by omega)]

theorem storeL_one {cs vals : List AVal} {o : Nat} (h1 : cs.all AVal.one = true) (h2 : vals.all AVal.one = true) : (storeL vals o cs).all AVal.one = true := by
  rw [List.all_eq_true] at *
  intro x hx
  obtain ⟨j, hj, rfl⟩ := List.getElem_of_mem hx
  have h := storeL_get cs vals o j
  rw [List.getElem?_eq_getElem hj] at h
  split at h
  · exact h1 _ (List.mem_of_getElem? h.symm)
  · exact h2 _ (List.mem_of_getElem? h.symm)

/-- The parts of a literal, as the model has them. -/
theorem fill_sound {place : Nat → Option (Nat × Nat)} : ∀ (ps : List (Nat × Nat × AVal)) (qs : List (Nat × Value)) (cells cs : List AVal) (arr : Array Value), ps.length = qs.length →
    (∀ (k : Nat) (x : Nat × Nat × AVal) (y : Nat × Value), ps[k]? = some x → qs[k]? = some y → place y.1 = some (x.1, x.2.1) ∧ VRel ρ I x.2.2 y.2) →
    cells.length = arr.size → CRel ρ I cells (fun j => arr[j]?) → cells.all AVal.one = true → fillL cells ps = some cs →
    ∃ arr', Instr.fill place arr qs = some arr' ∧ arr'.size = arr.size ∧ cs.length = arr.size ∧ cs.all AVal.one = true ∧ CRel ρ I cs (fun j => arr'[j]?) := by
  intro ps
  induction ps with
  | nil =>
    intro qs cells cs arr hl hp hs hc h1 h
    obtain rfl : qs = [] := List.eq_nil_of_length_eq_zero (by simpa using hl.symm)
    simp only [fillL, Option.some.injEq] at h; subst h
    exact ⟨arr, rfl, rfl, hs, h1, hc⟩
  | cons p ps ih =>
    intro qs cells cs arr hl hp hs hc h1 h
    obtain ⟨off, size, v⟩ := p
    cases qs with
    | nil => simp at hl
    | cons q qs =>
      obtain ⟨i, cv⟩ := q
      simp only [fillL] at h
      split at h
      · rename_i hcond
        obtain ⟨g1, g2, g3⟩ := hcond
        obtain ⟨e1, e2⟩ := hp 0 (off, size, v) (i, cv) rfl rfl
        dsimp only at e1 e2
        obtain ⟨v1, v2⟩ := e2.cells g3
        have hset := setIfs_list off cv.cells.toList 0 arr
        have hfold : cv.cells.zipIdx.foldl (fun (cs : Array Value) (x : Value × Nat) => cs.setIfInBounds (off + x.2) x.1) arr = (cv.cells.toList.zipIdx 0).foldl (fun (cs : Array Value) (x : Value × Nat) => cs.setIfInBounds (off + x.2) x.1) arr := by
          rw [← Array.foldl_toList]; simp
        obtain ⟨arr', f1, f2, f3, f4, f5⟩ := ih qs (storeL cells off (cellsOf v)) cs (cv.cells.zipIdx.foldl (fun (cs : Array Value) (x : Value × Nat) => cs.setIfInBounds (off + x.2) x.1) arr) (by simpa using hl)
          (fun k x y hx hy => hp (k + 1) x y (by simpa using hx) (by simpa using hy)) (by rw [length_storeL, hs, hfold, hset.1])
          (CRel.mk fun j y hy => by
            rw [storeL_get] at hy
            simp only [hfold, hset.2 j, Nat.add_zero, Array.length_toList]
            have hsz : cells.length = arr.size := hs
            by_cases hj : off ≤ j ∧ j < off + (cellsOf v).length ∧ j < cells.length
            · rw [if_pos hj] at hy
              rw [if_pos (by omega)]
              exact v2.get _ _ hy
            · rw [if_neg hj] at hy
              rw [if_neg (by omega)]
              exact hc.get _ _ hy) (storeL_one g3 h1) h
        refine ⟨arr', ?_, ?_, ?_, f4, f5⟩
        · simp only [Instr.fill, e1]
          rw [if_neg (by simp; omega)]
          exact f1
        · rw [f2, hfold, hset.1]
        · rw [f3, hfold, hset.1]
      · cases h

theorem repL_length (n : Nat) (z : List AVal) : (repL n z).length = n * z.length := by simp [repL, List.length_flatten]

theorem repL_get (z : List AVal) : ∀ (n j : Nat), j < n * z.length → (repL n z)[j]? = z[j % z.length]? := by
  intro n
  induction n with
  | zero => intro j h; simp at h
  | succ n ih =>
    intro j h
    have hz : 0 < z.length := by
      rcases Nat.eq_zero_or_pos z.length with h0 | h0
      · rw [h0] at h; simp at h
      · exact h0
    have e : repL (n + 1) z = z ++ repL n z := by simp [repL, List.replicate_succ]
    rw [e]
    by_cases hj : j < z.length
    · rw [List.getElem?_append_left hj, Nat.mod_eq_of_lt hj]
    · rw [List.getElem?_append_right (by omega), ih _ (by rw [Nat.add_mul, Nat.one_mul] at h; omega), ← Nat.mod_eq_sub_mod (by omega)]

theorem repL_one {z : List AVal} {n : Nat} (h : z.all AVal.one = true) : (repL n z).all AVal.one = true := by
  rw [List.all_eq_true] at *
  intro x hx
  simp only [repL, List.mem_flatten, List.mem_replicate] at hx
  obtain ⟨l, ⟨_, rfl⟩, hl⟩ := hx
  exact h x hl

theorem repl_crel {z : List AVal} {zc : Array Value} (h : KCRel z zc) (hz : 0 < z.length) (n m : Nat) (hm : m = n * z.length) : CRel ρ I (repL n z) (fun j => ((Array.range m).map (zc[· % zc.size]!))[j]?) := by
  refine CRel.mk fun j v hv => ?_
  have hj : j < n * z.length := by rw [← repL_length]; exact (List.getElem?_eq_some_iff.1 hv).1
  rw [repL_get z n j hj] at hv
  obtain ⟨u, h1, h2⟩ := (h.2 ρ I).get _ _ hv
  refine ⟨u, ?_, h2⟩
  have hlt : j % z.length < zc.size := by rw [← h.1]; exact Nat.mod_lt _ hz
  have hl := h.1
  rw [hl] at h1 hlt
  rw [Array.getElem?_map, Array.getElem?_range, if_pos (by omega)]
  simp only [Option.map_some, Option.some.injEq]
  rw [Array.getElem?_eq_getElem hlt] at h1
  cases h1
  rw [getElem!_pos zc _ hlt]

theorem alloc_at (r : Rel B w0 ρ I σ w) {id : Nat} (hid : ρ id = none) {z : List AVal} {zv : Value} (hm : σ.mem.get id = some (.cells z.length z)) (t : TypeId) (i : TypeInfo) (hi : P.info? t = some i) (hz : i.zero = some zv) (h1 : z.all AVal.one = true) (h2 : KCRel z zv.cells) :
    GoodAt B w0 ρ I σ id ((Instr.alloc t true (.tuple #[])).run P w) (.ptr id 0) := by
  have r2 := r.newCells_at hid hm zv.cells t h1 (by rw [h2.1]; exact Nat.le_refl _) (h2.2 ρ I)
  have hzv : (zeroValue t).run P w = .ok zv w := by simp [zeroValue, typeInfo, hi, hz]
  refine ⟨.pointer (some ⟨w.heap.size, 0, none⟩), _, _, ?_, ?_, r2⟩
  · simp [Instr.alloc, hzv, newVar, newRow]
  · simp [VRel]

theorem buildSl_at (r : Rel B w0 ρ I σ w) {id : Nat} (hid : ρ id = none) {es n : Nat} {z : List AVal} {zv : Value} {ps : List (Nat × AVal)} {qs : Array (Nat × Value)} {v : AVal} {bk : Blk} (h : allocV id (.buildSl es z n ps) = some (v, bk)) (hm : σ.mem.get id = some bk) (t e : TypeId) (ht : P.underlying t = some (.slice e))
    (i : TypeInfo) (hi : P.info? e = some i) (hz : i.zero = some zv) (hes : i.size = es) (h1 : z.all AVal.one = true) (h2 : KCRel z zv.cells) (hl : ps.length = qs.size)
    (hp : ∀ (k : Nat) (x : Nat × AVal) (y : Nat × Value), ps[k]? = some x → qs[k]? = some y → y.1 = x.1 ∧ VRel ρ I x.2 y.2) :
    GoodAt B w0 ρ I σ id ((Instr.buildSlice t n qs).run P w) v := by
  simp only [allocV] at h
  split at h
  · rename_i hc
    obtain ⟨c1, c2, c3⟩ := hc
    cases hf : fillL (repL n z) (ps.map fun (i, v) => (i * es, es, v)) with
    | none => rw [hf] at h; cases h
    | some cs =>
      rw [hf] at h; cases h
      obtain ⟨arr', f1, f2, f3, f4, f5⟩ := fill_sound (ρ := ρ) (I := I) (place := fun i => some (i * es, es)) (ps.map fun (i, v) => (i * es, es, v)) qs.toList (repL n z) cs ((Array.range (n * es)).map (zv.cells[· % zv.cells.size]!))
        (by simpa using hl) (fun k x y hx hy => by
          rw [List.getElem?_map] at hx
          cases hk : ps[k]? with
          | none => rw [hk] at hx; cases hx
          | some x0 =>
            rw [hk] at hx; cases hx
            obtain ⟨a, b⟩ := hp k x0 y hk (by simpa using hy)
            exact ⟨by rw [a], b⟩) (by simp [repL_length, c3]) (repl_crel h2 (by omega) n _ (by rw [c3])) (repL_one h1) hf
      have hzv : (zeroValue e).run P w = .ok zv w := by simp [zeroValue, typeInfo, hi, hz]
      have hs : (sizeOf e).run P w = .ok es w := by simp [sizeOf, typeInfo, hi, hes]
      have hu : (underlying t).run P w = .ok (.slice e) w := by simp [underlying, ht]
      have hsz : arr'.size = n * es := by rw [f2]; simp
      refine newRow_at r hid hm (len := n) (cap := n) e f4 (by rw [f3, f2]; exact Nat.le_refl _) f5 (Nat.le_refl _) (Nat.le_refl _) ?_ (fun _ => rfl) (by omega) ?_ (arr := arr')
      · have : n ≤ n * es := Nat.le_mul_of_pos_right n c1
        unfold maxLen; omega
      · have hnl : ¬ n * es > 2 ^ 24 := by omega
        by_cases h0 : n * es = 0
        · have hn : n = 0 := by
            rcases Nat.mul_eq_zero.1 h0 with h | h
            · exact h
            · omega
          subst hn
          have h00 : (Array.range (0 * es)).map (zv.cells[· % zv.cells.size]!) = #[] := Array.eq_empty_of_size_eq_zero (by simp)
          rw [h00] at f1
          have h01 : (Array.range 0).map (fun x => (#[] : Array Value)[x % (#[] : Array Value).size]!) = #[] := Array.eq_empty_of_size_eq_zero (by simp)
          simp only [Instr.buildSlice, Sem.run_bind, hu, Result.andThen_ok, hs, Nat.zero_mul, if_true, Sem.run_pure, h01]
          have h02 : (Array.range 0).map (fun _ : Nat => (default : Value)) = #[] := Array.eq_empty_of_size_eq_zero (by simp)
          simp [f1, newRow, h02]
        · simp [Instr.buildSlice, hu, hs, hnl, h0, hzv, newRow, f1]
  · cases h

theorem build_sound (r : Rel B w0 ρ I σ w) {z cs : List AVal} {zv : Value} {ps : List (Nat × Nat × AVal)} {qs : Array (Nat × Value)} (h : fillL z ps = some cs) (t : TypeId) (fs : Array Field) (ht : P.underlying t = some (.struct fs))
    (i : TypeInfo) (hi : P.info? t = some i) (hz : i.zero = some zv) (h1 : z.all AVal.one = true) (h2 : KCRel z zv.cells) (hl : ps.length = qs.size)
    (places : List (Nat × Nat)) (hpl : fs.toList.mapM (fun f => (P.info? f.type).map fun i => (f.offset, i.size)) = some places)
    (hp : ∀ (k : Nat) (x : Nat × Nat × AVal) (y : Nat × Value), ps[k]? = some x → qs[k]? = some y → places[y.1]? = some (x.1, x.2.1) ∧ VRel ρ I x.2.2 y.2) :
    Good B w0 ρ I σ ((Instr.build t qs).run P w) (.agg cs) σ := by
  obtain ⟨arr', f1, f2, f3, f4, f5⟩ := fill_sound (ρ := ρ) (I := I) (place := fun i => places.toArray[i]?) ps qs.toList z cs zv.cells (by simpa using hl)
    (fun k x y hx hy => by simpa using hp k x y hx (by simpa using hy)) h2.1 (h2.2 ρ I) h1 h
  refine .quiet r (cv := .agg arr') (run_build w t qs arr' ?_) ?_
  · simp only [Program.built, hi, ht, hz, hpl]; exact f1
  · simp only [VRel]
    exact ⟨_, rfl, by omega, f4, f5⟩

end
end Go.Proofs.Ytopagbaokokjdaa.AM

/- The abstract machine: fields, addresses, slices of slices, make. -/
namespace Go.Proofs.Ytopagbaokokjdaa.AM
open Go.RowKit
set_option linter.unusedVariables false
set_option linter.unusedSimpArgs false

section
variable {P : Program} {B : Nat} {w0 : Root} {w : World} {ρ : Rho} {I : Imm} {σ : St}

theorem add_add (a : Addr) (m n : Nat) : (a.add m).add n = a.add (m + n) := by
  unfold Addr.add
  by_cases hm : m = 0
  · subst hm; simp
  · by_cases hn : n = 0
    · subst hn; simp [hm]
    · simp [hm, hn, Nat.add_assoc]

theorem all_drop {cs : List AVal} (h : cs.all AVal.one = true) (n : Nat) : (cs.drop n).all AVal.one = true := by
  rw [List.all_eq_true] at *; exact fun y hy => h y (List.mem_of_mem_drop hy)
theorem all_take {cs : List AVal} (h : cs.all AVal.one = true) (n : Nat) : (cs.take n).all AVal.one = true := by
  rw [List.all_eq_true] at *; exact fun y hy => h y (List.mem_of_mem_take hy)

theorem fieldAddr_sound (r : Rel B w0 ρ I σ w) {x v : AVal} {cx : Value} {off : Nat} {σ' : St} (h : evalV σ (.fieldAddr off x) = some (v, σ')) (hx : VRel ρ I x cx) (t fi : Nat) (fs : Array Field) (f : Field) (i : TypeInfo)
    (ht : P.underlying t = some (.struct fs)) (hf : fs[fi]? = some f) (hi : P.info? f.type = some i) (hs : i.size ≠ 0) (ho : f.offset = off) :
    Good B w0 ρ I σ ((Instr.fieldAt t cx fi).run P w) v σ' := by
  subst ho
  have hu : (underlying t).run P w = .ok (.struct fs) w := by simp [underlying, ht]
  have hsz : (sizeOf f.type).run P w = .ok i.size w := by simp [sizeOf, typeInfo, hi]
  cases x <;> simp only [evalV] at h <;> try cases h
  · rename_i a o
    simp only [VRel] at hx
    obtain ⟨p, h1, rfl⟩ := hx
    refine .quiet r (cv := .pointer (some ⟨p.b, p.base + (o + f.offset), none⟩)) ?_ ?_
    · simp [Instr.fieldAt, hu, hf, Instr.sureAddr, fieldPlace, hsz, hs, addr_add, Nat.add_assoc]
    · simp only [VRel]; exact ⟨p, h1, rfl⟩
  · rename_i cs
    simp only [VRel] at hx
    obtain ⟨a, rfl, h1, h2⟩ := hx
    refine .quiet r (cv := .pointer (some (a.add f.offset))) ?_ ?_
    · simp [Instr.fieldAt, hu, hf, Instr.sureAddr, fieldPlace, hsz, hs]
    · simp only [VRel]
      exact ⟨_, rfl, all_drop h1 _, (h2.drop f.offset).congr fun j _ => by rw [add_add]⟩

theorem run_asIntOf (k : IntKind) (n : Int) : (asIntOf (.int k n)).run P w = .ok (k, n) w := rfl

theorem idxAddr_sound (r : Rel B w0 ρ I σ w) {x i v : AVal} {cx ci : Value} {es : Nat} {σ' : St} (h : evalV σ (.idxAddr es x i) = some (v, σ')) (hx : VRel ρ I x cx) (hi : VRel ρ I i ci) (t e : TypeId) (inf : TypeInfo)
    (ht : P.underlying t = some (.slice e)) (hinf : P.info? e = some inf) (hs : inf.size = es) :
    Good B w0 ρ I σ ((Instr.indexAt t cx ci).run P w) v σ' := by
  subst hs
  have hu : (underlying t).run P w = .ok (.slice e) w := by simp [underlying, ht]
  have hsz : (sizeOf e).run P w = .ok inf.size w := by simp [sizeOf, typeInfo, hinf]
  simp only [evalV] at h
  split at h
  · rename_i a o len cap tg k n
    split at h
    · rename_i hc
      cases h
      simp only [VRel] at hx hi
      obtain ⟨p, ad, cap', h1, rfl, h3, h4, h5, h6, h7, h8⟩ := hx
      subst hi
      have hcap : cap' ≠ 0 := by omega
      have had := h7.resolve_left hcap
      subst had
      refine .quiet r (cv := .pointer (some ⟨p.b, p.base + (o + n.toNat * inf.size), none⟩)) ?_ ?_
      · simp [Instr.indexAt, run_asIntOf, hu, hsz, hc.1, hc.2, addr_add, Nat.add_assoc]
      · simp only [VRel]; exact ⟨p, h1, rfl⟩
    · cases h
  · rename_i cs len tg k n
    split at h
    · rename_i hc
      cases h
      simp only [VRel] at hx hi
      obtain ⟨ad, cap', rfl, h3, h4, h5, h6, h7⟩ := hx
      subst hi
      refine .quiet r (cv := .pointer (some (ad.add (n.toNat * inf.size)))) ?_ ?_
      · simp [Instr.indexAt, run_asIntOf, hu, hsz, hc.1, hc.2]
      · simp only [VRel]
        exact ⟨_, rfl, all_take (all_drop h6 _) _, ((h7.drop _).take _).congr fun j _ => by rw [add_add]⟩
    · cases h
  · cases h

theorem run_part_one {t : TypeId} {d : TypeDesc} {arr : Array Value} {off : Nat} {u : Value} (ht : P.underlying t = some d) (hd : isAggD d = false) (hu : arr[off]? = some u) : (part t arr off).run P w = .ok u w := by
  simp [part, run_isAgg_false t d ht hd, hu]

theorem field1_sound (r : Rel B w0 ρ I σ w) {x v : AVal} {cx : Value} {off : Nat} {σ' : St} (h : evalV σ (.field1 off x) = some (v, σ')) (hx : VRel ρ I x cx) (t fi : Nat) (fs : Array Field) (f : Field) (d : TypeDesc)
    (ht : P.underlying t = some (.struct fs)) (hf : fs[fi]? = some f) (hd : P.underlying f.type = some d) (hd2 : isAggD d = false) (ho : f.offset = off) :
    Good B w0 ρ I σ ((Instr.field t cx fi).run P w) v σ' := by
  subst ho
  have hu : (underlying t).run P w = .ok (.struct fs) w := by simp [underlying, ht]
  simp only [evalV] at h
  split at h
  · rename_i cs
    cases hc : cs[f.offset]? with
    | none => rw [hc] at h; cases h
    | some c =>
      rw [hc] at h; cases h
      simp only [VRel] at hx
      obtain ⟨arr, rfl, h2, h3, h4⟩ := hx
      obtain ⟨u, h5, h6⟩ := h4.get _ _ hc
      refine .quiet r (cv := u) ?_ h6
      simp [Instr.field, hu, hf, asAgg, run_part_one hd hd2 h5]
  · cases h

theorem extract_crel {cs : List AVal} {arr : Array Value} (h : CRel ρ I cs (fun j => arr[j]?)) (hl : arr.size = cs.length) (off n : Nat) (hn : off + n ≤ cs.length) : (arr.extract off (off + n)).size = ((cs.drop off).take n).length ∧ CRel ρ I ((cs.drop off).take n) (fun j => (arr.extract off (off + n))[j]?) := by
  refine ⟨by simp; omega, ((h.drop off).take n).congr fun j hj => ?_⟩
  simp only [List.length_take, List.length_drop] at hj
  rw [Array.getElem?_extract, if_pos (by omega)]

theorem fieldn_sound (r : Rel B w0 ρ I σ w) {x v : AVal} {cx : Value} {off n : Nat} {σ' : St} (h : evalV σ (.fieldn off n x) = some (v, σ')) (hx : VRel ρ I x cx) (t fi : Nat) (fs : Array Field) (f : Field) (d : TypeDesc) (i : TypeInfo)
    (ht : P.underlying t = some (.struct fs)) (hf : fs[fi]? = some f) (hd : P.underlying f.type = some d) (hd2 : isAggD d = true) (hi : P.info? f.type = some i) (hn : i.size = n) (ho : f.offset = off) :
    Good B w0 ρ I σ ((Instr.field t cx fi).run P w) v σ' := by
  subst ho; subst hn
  have hu : (underlying t).run P w = .ok (.struct fs) w := by simp [underlying, ht]
  have hsz : (sizeOf f.type).run P w = .ok i.size w := by simp [sizeOf, typeInfo, hi]
  simp only [evalV] at h
  split at h
  · rename_i cs
    split at h
    · rename_i hc
      cases h
      simp only [VRel] at hx
      obtain ⟨arr, rfl, h2, h3, h4⟩ := hx
      obtain ⟨h5, h6⟩ := extract_crel h4 h2 f.offset i.size hc
      refine .quiet r (cv := .agg (arr.extract f.offset (f.offset + i.size))) ?_ ?_
      · simp [Instr.field, hu, hf, asAgg, part, run_isAgg_true f.type d hd hd2, hsz]
      · simp only [VRel]
        exact ⟨_, rfl, h5, all_take (all_drop h3 _) _, h6⟩
    · cases h
  · cases h

/-- The bounds of a slice expression. -/
theorem bounds_sound {lo hi mx : Option AVal} {clo chi cmx : Option Value} {len cap cap' l h m : Nat} (hb : asliceSl lo hi mx len cap = some (l, h, m)) (hcap : cap ≤ cap') (isSlice : Bool)
    (hlo : ∀ x, lo = some x → ∃ y, clo = some y ∧ VRel ρ I x y) (hlo' : lo = none → clo = none)
    (hhi : ∀ x, hi = some x → ∃ y, chi = some y ∧ VRel ρ I x y) (hhi' : hi = none → chi = none)
    (hmx : ∀ x, mx = some x → ∃ y, cmx = some y ∧ VRel ρ I x y) (hmx' : mx = none → cmx = none) :
    l ≤ h ∧ h ≤ m ∧ m ≤ cap ∧ (mx = none → m = cap) ∧ (Instr.sliceBounds isSlice len cap' clo chi cmx).run P w = .ok (l, h, if mx.isSome then m else cap') w := by
  unfold asliceSl at hb
  have bint : ∀ {x : Option AVal} {cx : Option Value} {d n : Nat}, bnd x d = some n → (∀ y, x = some y → ∃ z, cx = some z ∧ VRel ρ I y z) → (x = none → cx = none) →
      (x = none ∧ cx = none ∧ n = d) ∨ (∃ k i, x.isSome = true ∧ cx = some (.int k i) ∧ 0 ≤ i ∧ n = i.toNat) := by
    intro x cx d n h1 h2 h3
    cases x with
    | none => simp only [bnd, Option.some.injEq] at h1; exact .inl ⟨rfl, h3 rfl, h1.symm⟩
    | some v =>
      cases v <;> simp only [bnd] at h1 <;> try cases h1
      rename_i k i
      split at h1 <;> cases h1
      obtain ⟨z, hz, hv⟩ := h2 _ rfl
      simp only [VRel] at hv; subst hv
      exact .inr ⟨k, i, rfl, hz, by assumption, rfl⟩
  cases h1 : bnd mx cap with
  | none => rw [h1] at hb; cases hb
  | some m0 =>
    rw [h1] at hb; simp only [Option.bind_some] at hb
    split at hb
    · cases hb
    · rename_i hmh
      cases h2 : bnd hi len with
      | none => rw [h2] at hb; cases hb
      | some h0 =>
        rw [h2] at hb; simp only [Option.bind_some] at hb
        cases h3 : bnd lo 0 with
        | none => rw [h3] at hb; cases hb
        | some l0 =>
          rw [h3] at hb; simp only [Option.bind_some] at hb
          split at hb
          · rename_i hc
            cases hb
            obtain ⟨c1, c2, c3⟩ := hc
            have sb : ∀ (k : IntKind) (i : Int) (y : Nat) (code : BoundsCode), 0 ≤ i → i.toNat ≤ y → (Instr.sliceBound (.int k i) y code).run P w = .ok i.toNat w := by
              intro k i y code g1 g2
              have : 0 ≤ i ∧ i ≤ (y : Int) := ⟨g1, by omega⟩
              simp [Instr.sliceBound, run_asIntOf, this]
            refine ⟨c1, c2, c3, fun e => by subst e; simp only [bnd, Option.some.injEq] at h1; exact h1.symm, ?_⟩
            rcases bint h1 hmx hmx' with ⟨e1, e2, e3⟩ | ⟨k1, i1, e1, e2, e3, e4⟩ <;> rcases bint h2 hhi hhi' with ⟨f1, f2, f3⟩ | ⟨k2, i2, f1, f2, f3, f4⟩ <;> rcases bint h3 hlo hlo' with ⟨g1, g2, g3⟩ | ⟨k3, i3, g1, g2, g3, g4⟩
            all_goals first
              | (exfalso; apply hmh; simp [e1, f1]; done)
              | skip
            all_goals (try subst e1); (try subst f1); (try subst g1)
            all_goals subst e2 f2 g2
            · subst e3 f3 g3; simp [Instr.sliceBounds]
            · subst e3 f3 g4; simp [Instr.sliceBounds, sb k3 i3 h .sliceB g3 (by omega)]
            · subst e3 f4 g3; cases isSlice <;> simp [Instr.sliceBounds, sb k2 i2 cap' _ f3 (by omega)]
            · subst e3 f4 g4; cases isSlice <;> simp [Instr.sliceBounds, sb k2 i2 cap' _ f3 (by omega), sb k3 i3 i2.toNat _ g3 (by omega)]
            · subst e4 f4 g3; cases isSlice <;> simp [Instr.sliceBounds, e1, sb k1 i1 cap' _ e3 (by omega), sb k2 i2 i1.toNat _ f3 (by omega)]
            · subst e4 f4 g4; cases isSlice <;> simp [Instr.sliceBounds, e1, sb k1 i1 cap' _ e3 (by omega), sb k2 i2 i1.toNat _ f3 (by omega), sb k3 i3 i2.toNat _ g3 (by omega)]
          · cases hb

end
end Go.Proofs.Ytopagbaokokjdaa.AM

/- The abstract machine: slicing, make, append, copy. -/
namespace Go.Proofs.Ytopagbaokokjdaa.AM
open Go.RowKit
set_option linter.unusedVariables false
set_option linter.unusedSimpArgs false

section
variable {P : Program} {B : Nat} {w0 : Root} {w : World} {ρ : Rho} {I : Imm} {σ : St}

theorem slice_sound (r : Rel B w0 ρ I σ w) {x v : AVal} {cx : Value} {es : Nat} {lo hi mx : Option AVal} {clo chi cmx : Option Value} {σ' : St} (h : evalV σ (.slice es x lo hi mx) = some (v, σ')) (hx : VRel ρ I x cx) (t : TypeId)
    (ht : (es = 0 ∧ P.underlying t = some .string) ∨ (es ≠ 0 ∧ ∃ e i, P.underlying t = some (.slice e) ∧ P.info? e = some i ∧ i.size = es))
    (hlo : ∀ x, lo = some x → ∃ y, clo = some y ∧ VRel ρ I x y) (hlo' : lo = none → clo = none)
    (hhi : ∀ x, hi = some x → ∃ y, chi = some y ∧ VRel ρ I x y) (hhi' : hi = none → chi = none)
    (hmx : ∀ x, mx = some x → ∃ y, cmx = some y ∧ VRel ρ I x y) (hmx' : mx = none → cmx = none) :
    Good B w0 ρ I σ ((Instr.sliceAt t cx clo chi cmx).run P w) v σ' := by
  have hmxs : cmx.isSome = mx.isSome := by
    cases mx with
    | none => rw [hmx' rfl]; rfl
    | some x => obtain ⟨y, hy, _⟩ := hmx x rfl; rw [hy]; rfl
  simp only [evalV] at h
  split at h
  · -- a string
    rename_i he0
    have hst2 : P.underlying t = some .string := by
      rcases ht with ⟨_, h⟩ | ⟨h, _⟩
      · exact h
      · exact absurd he0 h
    cases x <;> simp only at h <;> try (cases h; done)
    rename_i s
    split at h
    · cases h
    · rename_i hm
      cases hb : asliceSl lo hi none s.size s.size with
      | none => rw [hb] at h; cases h
      | some q =>
        obtain ⟨l, h', m⟩ := q
        rw [hb] at h; cases h
        obtain rfl : mx = none := by cases mx <;> simp_all
        simp only [VRel] at hx; subst hx
        obtain ⟨b1, b2, b3, b4, b5⟩ := bounds_sound (P := P) (w := w) (ρ := ρ) (I := I) (cmx := none) hb (Nat.le_refl s.size) false hlo hlo' hhi hhi' (fun x hx => by cases hx) (fun _ => rfl)
        have hu : (underlying t).run P w = .ok .string w := by simp [underlying, hst2]
        refine .quiet r (cv := .string (s.extract l h')) ?_ (by simp only [VRel])
        have hc := hmx' rfl
        subst hc
        simp [Instr.sliceAt, hu, Instr.slice, b5]
  rename_i he0
  have ht' : ∃ e i, P.underlying t = some (.slice e) ∧ P.info? e = some i ∧ i.size = es := by
    rcases ht with ⟨h, _⟩ | ⟨_, h⟩
    · exact absurd h he0
    · exact h
  split at h
  all_goals (try (cases h; done))
  all_goals
    obtain ⟨e, inf, hu0, hinf, hsz⟩ := ht'
    have hu : (underlying t).run P w = .ok (.slice e) w := by simp [underlying, hu0]
    have hs : (sizeOf e).run P w = .ok es w := by simp [sizeOf, typeInfo, hinf, hsz]
  · -- the nil slice
    cases hb : asliceSl lo hi mx 0 0 with
    | none => rw [hb] at h; cases h
    | some q =>
      obtain ⟨l, h', m⟩ := q
      rw [hb] at h; cases h
      simp only [VRel] at hx; subst hx
      obtain ⟨b1, b2, b3, b4, b5⟩ := bounds_sound (P := P) (w := w) hb (Nat.le_refl 0) true hlo hlo' hhi hhi' hmx hmx'
      obtain rfl : m = 0 := by omega
      obtain rfl : h' = 0 := by omega
      obtain rfl : l = 0 := by omega
      refine .quiet r (cv := .slice none 0 0) ?_ (by simp only [VRel])
      simp only [ite_self] at b5
      simp [Instr.sliceAt, hu, Instr.slice, hs, b5]
  · -- an unchanging one
    rename_i cs len tg
    cases hb : asliceSl lo hi mx len len with
    | none => rw [hb] at h; cases h
    | some q =>
      obtain ⟨l, h', m⟩ := q
      rw [hb] at h; cases h
      simp only [VRel] at hx
      obtain ⟨ad, cap', rfl, g1, g2, g3, g4, g5⟩ := hx
      obtain ⟨b1, b2, b3, b4, b5⟩ := bounds_sound (P := P) (w := w) hb g1 true hlo hlo' hhi hhi' hmx hmx'
      let M := if mx.isSome = true then m else cap'
      have hM : (if mx.isSome then m else cap') = M := rfl
      have hM1 : h' ≤ M := by show h' ≤ if _ then _ else _; split <;> omega
      have hM2 : M ≤ cap' := by show (if _ then _ else _) ≤ cap'; split <;> omega
      rw [hM] at b5
      refine .quiet r (cv := .slice (some (if M = l then ad else ad.add (l * es))) (h' - l) (M - l)) ?_ ?_
      · by_cases hml : M = l <;> simp [Instr.sliceAt, hu, Instr.slice, hs, b5, hml]
      · simp only [VRel]
        refine ⟨_, _, rfl, by omega, by omega, fun htt => ?_, all_take (all_drop g4 _) _, ?_⟩
        · have hh : m = h' ∧ mx.isSome = true ∨ mx.isSome = false ∧ tg = true ∧ h' = len := by
            cases hms : mx.isSome
            · rw [hms] at htt; simp at htt; exact .inr ⟨rfl, htt.1, htt.2⟩
            · rw [hms] at htt; simp at htt; exact .inl ⟨htt, rfl⟩
          rcases hh with ⟨q1, q2⟩ | ⟨q1, q2, q3⟩
          · show (if mx.isSome = true then m else cap') - l = _
            rw [if_pos q2, q1]
          · show (if mx.isSome = true then m else cap') - l = _
            rw [if_neg (by simp [q1]), g3 q2, q3]
        · by_cases hml : M = l
          · have h0 : h' - l = 0 := by omega
            rw [h0]; simp [CRel]
          · rw [if_neg hml]
            exact ((g5.drop _).take _).congr fun j _ => by rw [add_add]
  · -- one that may be written
    rename_i a o len cap tg
    have key : ∀ (es' : Nat) (vals : List AVal), (∃ b, σ.mem.get a = some b ∧ (b = .cells es' vals ∨ b = .ro es' vals)) → es' = es →
        (asliceSl lo hi mx len cap).map (fun (l, h, m) => ((.sl a (o + l * es) (h - l) (m - l) (mx.isSome || tg), σ) : AVal × St)) = some (v, σ') → Good B w0 ρ I σ ((Instr.sliceAt t cx clo chi cmx).run P w) v σ' := by
      intro es' vals ⟨b, hb0, hb1⟩ he h
      subst he
      cases hb : asliceSl lo hi mx len cap with
      | none => rw [hb] at h; cases h
      | some q =>
        obtain ⟨l, h', m⟩ := q
        rw [hb] at h; cases h
        simp only [VRel] at hx
        obtain ⟨p, ad, cap', hρ, rfl, g1, g2, g3, g4, g5, g6⟩ := hx
        have hpes : p.es = es' := by
          have hbr := r.blk a p b hρ hb0
          rcases hb1 with rfl | rfl <;> exact hbr.1
        obtain ⟨b1, b2, b3, b4, b5⟩ := bounds_sound (P := P) (w := w) hb g2 true hlo hlo' hhi hhi' hmx hmx'
        let M := if mx.isSome = true then m else cap'
        have hM : (if mx.isSome then m else cap') = M := rfl
        have hM1 : m ≤ M := by show m ≤ if _ then _ else _; split <;> omega
        have hM2 : M ≤ cap' := by show (if _ then _ else _) ≤ cap'; split <;> omega
        rw [hM] at b5
        refine .quiet r (cv := .slice (some (if M = l then ad else ad.add (l * es'))) (h' - l) (M - l)) ?_ ?_
        · by_cases hml : M = l <;> simp [Instr.sliceAt, hu, Instr.slice, hs, b5, hml]
        · simp only [VRel]
          refine ⟨p, _, _, hρ, rfl, by omega, by omega, by omega, fun htt => ?_, ?_, ?_⟩
          · cases hms : mx.isSome
            · rw [hms] at htt; simp at htt
              have hmn : mx = none := by cases mx <;> simp_all
              show (if mx.isSome = true then m else cap') - l = _
              rw [if_neg (by simp [hms]), g4 htt, b4 hmn]
            · show (if mx.isSome = true then m else cap') - l = _
              rw [if_pos hms]
          · by_cases hml : M = l
            · exact .inl (by omega)
            · right
              have hc0 : cap' ≠ 0 := by omega
              rw [if_neg hml, g5.resolve_left hc0, addr_add, Nat.add_assoc]
          · rw [hpes] at g6 ⊢
            have hle : l ≤ M := by omega
            have h3 : (M - l) * es' + l * es' ≤ cap' * es' := by
              rw [← Nat.add_mul]; exact Nat.mul_le_mul_right _ (by omega)
            omega
    split at h
    · rename_i es' vals hm
      split at h
      · exact key es' vals ⟨_, hm, .inl rfl⟩ (by assumption) h
      · cases h
    · rename_i es' vals hm
      split at h
      · exact key es' vals ⟨_, hm, .inr rfl⟩ (by assumption) h
      · cases h
    · cases h

theorem mkslice_at (r : Rel B w0 ρ I σ w) {id : Nat} (hid : ρ id = none) {l c v : AVal} {cl cc : Value} {es by_ : Nat} {z : List AVal} {zv : Value} {bk : Blk} (h : allocV id (.mkslice es by_ z l c) = some (v, bk)) (hm : σ.mem.get id = some bk) (hl : VRel ρ I l cl) (hc : VRel ρ I c cc) (t e : TypeId)
    (ht : P.underlying t = some (.slice e)) (i : TypeInfo) (hi : P.info? e = some i) (hz : i.zero = some zv) (hes : i.size = es) (hby : i.bytes = by_) (h1 : z.all AVal.one = true) (h2 : KCRel z zv.cells) :
    GoodAt B w0 ρ I σ id ((Instr.makeSlice t cl cc).run P w) v := by
  subst hes; subst hby
  simp only [allocV] at h
  split at h
  · rename_i k1 n1 k2 n2
    split at h
    · rename_i hcond
      obtain ⟨g1, g2, g3, g4, g5, g6⟩ := hcond
      cases h
      simp only [VRel] at hl hc
      subst hl hc
      have hu : (underlying t).run P w = .ok (.slice e) w := by simp [underlying, ht]
      have hs : (sizeOf e).run P w = .ok i.size w := by simp [sizeOf, typeInfo, hi]
      have hti : (typeInfo e).run P w = .ok i w := by simp [typeInfo, hi]
      have hzv : (zeroValue e).run P w = .ok zv w := by simp [zeroValue, typeInfo, hi, hz]
      have wr : ∀ n : Int, 0 ≤ n → n ≤ 9223372036854775807 → IntKind.i64.wrap n = n := fun n a b => IntWalk.i64_in n ⟨by omega, b⟩
      have w1 := wr n1 g1 (by omega)
      have w2 := wr n2 (by omega) g3
      have hb : (n2 * (i.bytes : Int)) ≤ 140737488355328 := g4
      have htl : ¬ ((i.bytes : Int) * n2 > 2 ^ 48) := by rw [Int.mul_comm]; omega
      obtain ⟨N1, rfl⟩ : ∃ N : Nat, n1 = N := ⟨n1.toNat, by omega⟩
      obtain ⟨N2, rfl⟩ : ∃ N : Nat, n2 = N := ⟨n2.toNat, by omega⟩
      simp only [Int.toNat_natCast] at hm ⊢
      refine newRow_at r hid hm (len := N1) (cap := N2) e (repL_one h1) (by simp [repL_length, g6]) (repl_crel h2 (by omega) N2 (N2 * i.size) (by rw [g6])) (by omega) (Nat.le_refl _) (by unfold maxLen; omega) (fun _ => rfl) (by simp) ?_ (arr := (Array.range (N2 * i.size)).map (zv.cells[· % zv.cells.size]!))
      have hneg : ¬ ((N2 : Int) < 0) := by omega
      have hneg1 : ¬ ((N1 : Int) < 0) := by omega
      have hle : ¬ ((N1 : Int) > (N2 : Int)) := by omega
      have hle' : ¬ (N2 < N1) := by omega
      by_cases h0 : N2 * i.size = 0
      · have h00 : (Array.range (N2 * i.size)).map (zv.cells[· % zv.cells.size]!) = #[] := Array.eq_empty_of_size_eq_zero (by simp [h0])
        have h02 : (Array.range 0).map (fun _ : Nat => (default : Value)) = #[] := Array.eq_empty_of_size_eq_zero (by simp)
        rw [h00]
        simp [Instr.makeSlice, hu, asInt, run_asIntOf, hti, w1, w2, hneg, hneg1, hle, hle', htl, hs, h0, newRow, h02]
        intro hh; exfalso; rw [Int.mul_comm] at hh; omega
      · simp [Instr.makeSlice, hu, asInt, run_asIntOf, hti, w1, w2, hneg, hneg1, hle, hle', htl, hs, h0, hzv, newRow]
        intro hh; exfalso; rw [Int.mul_comm] at hh; omega
    · cases h
  · cases h

end
end Go.Proofs.Ytopagbaokokjdaa.AM

/- The abstract machine: append, copy. -/
namespace Go.Proofs.Ytopagbaokokjdaa.AM
open Go.RowKit
set_option linter.unusedVariables false
set_option linter.unusedSimpArgs false

section
variable {P : Program} {B : Nat} {w0 : Root} {w : World} {ρ : Rho} {I : Imm} {σ : St}

def isIntD : TypeDesc → Bool
  | .int _ => true
  | _ => false

/-- A source's cells, in the world. -/
theorem srcL_sound (r : Rel B w0 ρ I σ w) {x : AVal} {cx : Value} {es n : Nat} {cs : List AVal} (h : srcL σ es x = some (cs, n)) (hx : VRel ρ I x cx) :
    cs.length = n * es ∧ cs.all AVal.one = true ∧ (Builtin.lenOf cx).run P w = .ok n w ∧
    ∀ m, m ≤ n → ∃ us : List Value, us.length = m * es ∧ CRel ρ I (cs.take (m * es)) (fun j => us[j]?) ∧ (Builtin.firstCells es m cx).run P w = .ok us.toArray w := by
  have key : ∀ {ad : Addr} {len cap' : Nat} {vs : List AVal}, cx = .slice (some ad) len cap' → vs.length = len * es → CRel ρ I vs (fun j => w.cell? (ad.add j)) →
      ∀ m, m ≤ len → ∃ us : List Value, us.length = m * es ∧ CRel ρ I (vs.take (m * es)) (fun j => us[j]?) ∧ (Builtin.firstCells es m cx).run P w = .ok us.toArray w := by
    intro ad len cap' vs hcx hl hc m hm
    subst hcx
    obtain ⟨us, h1, h2, h3⟩ := (hc.take (m * es)).list
    have hlen : us.length = m * es := by
      rw [h1, List.length_take, hl]; exact Nat.min_eq_left (Nat.mul_le_mul_right _ hm)
    have hrun := run_loadCells_list (P := P) (w := w) ad us h2
    rw [hlen] at hrun
    exact ⟨us, hlen, h3, by simp [Builtin.firstCells, hrun]⟩
  cases x <;> simp only [srcL] at h <;> try cases h
  · -- a string
    rename_i s
    split at h <;> cases h
    rename_i he
    subst he
    simp only [VRel] at hx; subst hx
    have hsz : s.data.toList.length = s.size := by rw [Array.length_toList]; rfl
    refine ⟨by rw [List.length_map, hsz, Nat.mul_one], ?_, by simp [Builtin.lenOf], fun m hm => ?_⟩
    · rw [List.all_eq_true]; intro y hy
      obtain ⟨b, _, rfl⟩ := List.mem_map.1 hy; rfl
    refine ⟨(s.data.toList.take m).map fun b => .int .u8 b.toNat, ?_, ?_, ?_⟩
    · rw [List.length_map, List.length_take, hsz]; omega
    · refine CRel.mk fun j v hv => ?_
      rw [Nat.mul_one, ← List.map_take, List.getElem?_map] at hv
      cases hb : (s.data.toList.take m)[j]? with
      | none => rw [hb] at hv; cases hv
      | some b =>
        rw [hb] at hv; cases hv
        exact ⟨.int .u8 b.toNat, by rw [List.getElem?_map, hb]; rfl, by simp only [VRel]⟩
    · have : ((s.extract 0 m).data.map fun b => (Value.int .u8 b.toNat)) = ((s.data.toList.take m).map fun b => (Value.int .u8 b.toNat)).toArray := by
        apply Array.ext'
        simp only [ByteArray.data_extract, Array.toList_map, Array.toList_extract, List.extract_eq_take_drop, Nat.sub_zero, List.drop_zero]
      simp only [Builtin.firstCells, Sem.run_pure, this]
  · -- a slice that may be written
    rename_i a o len cap tg
    simp only [VRel] at hx
    obtain ⟨p, ad, cap', hρ, rfl, g1, g2, g3, g4, g5, g6⟩ := hx
    have kk : ∀ {b : Blk} {vals : List AVal}, σ.mem.get a = some b → b.vals? = some vals → o + len * es ≤ vals.length → cs = (vals.drop o).take (len * es) → n = len →
        cs.length = n * es ∧ cs.all AVal.one = true ∧ (Builtin.lenOf (.slice (some ad) len cap')).run P w = .ok n w ∧
        ∀ m, m ≤ n → ∃ us : List Value, us.length = m * es ∧ CRel ρ I (cs.take (m * es)) (fun j => us[j]?) ∧ (Builtin.firstCells es m (.slice (some ad) len cap')).run P w = .ok us.toArray w := by
      intro b vals hm hb hle hcs hn
      subst hn
      have hl : cs.length = n * es := by rw [hcs, List.length_take, List.length_drop]; omega
      refine ⟨hl, hcs ▸ all_take (all_drop (r.valsOne hρ hm hb) _) _, by simp [Builtin.lenOf], ?_⟩
      refine key rfl hl ?_
      have hc := (((r.cell hρ hm hb).drop o).take (n * es))
      rw [← hcs] at hc
      refine hc.congr fun j hj => ?_
      have hc0 : cap' ≠ 0 := by
        intro h0
        have : n = 0 := by omega
        subst this
        simp at hl; rw [hl] at hj; simp at hj
      rw [g5.resolve_left hc0, addr_add, Nat.add_assoc]
    cases hm : σ.mem.get a with
    | none => rw [hm] at h; cases h
    | some b =>
      rw [hm] at h
      cases b with
      | cells e' vals =>
        simp only at h; split at h <;> cases h
        exact kk hm rfl (by assumption) rfl rfl
      | ro e' vals =>
        simp only at h; split at h <;> cases h
        exact kk hm rfl (by assumption) rfl rfl
      | map _ _ => cases h
      | iter _ _ _ _ => cases h
      | loop _ => cases h
  · -- the nil slice
    simp only [VRel] at hx; subst hx
    refine ⟨by simp, rfl, by simp [Builtin.lenOf], fun m hm => ⟨[], by simp at hm ⊢; simp [hm], by simp [CRel], by simp [Builtin.firstCells]⟩⟩
  · -- an unchanging one
    rename_i c0 len tg
    split at h <;> cases h
    rename_i hl
    simp only [VRel] at hx
    obtain ⟨ad, cap', rfl, g1, g2, g3, g4, g5⟩ := hx
    exact ⟨hl, g4, by simp [Builtin.lenOf], key rfl hl (g5.mono (RLe.refl _) (ILe.refl _) _ _ _ fun j u hu => r.icell hu)⟩

set_option maxHeartbeats 4000000 in
theorem run_append_room' (sT xT ty e : TypeId) (i : TypeInfo) (dx : TypeDesc) (ht : P.underlying sT = some (.slice e)) (hi : P.info? e = some i) (hxT : P.underlying xT = some dx) (hdx : isIntD dx = false)
    (base : Option Addr) (sLen sCap n : Nat) (x : Value) (news : List Value) (w : World) (hlen : (Builtin.lenOf x).run P w = .ok n w) (hnew : (Builtin.firstCells i.size n x).run P w = .ok news.toArray w) (hroom : sLen + n ≤ sCap) :
    (Builtin.append_ #[sT, xT] ty #[.slice base sLen sCap, x]).run P w =
      match base with
      | none => .ok (.slice base (sLen + n) sCap) w
      | some a => ((storeCells (a.add (sLen * i.size)) news).run P w).andThen fun _ w' => .ok (.slice base (sLen + n) sCap) w' := by
  have hu : (underlying sT).run P w = .ok (.slice e) w := by simp [underlying, ht]
  have hux : (underlying xT).run P w = .ok dx w := by simp [underlying, hxT]
  have hs : (sizeOf e).run P w = .ok i.size w := by simp [sizeOf, typeInfo, hi]
  cases dx <;> first | (simp [isIntD] at hdx; done) | skip
  all_goals
    cases base <;> simp [Builtin.append_, hu, hux, hs, hlen, hroom, hnew]

set_option maxHeartbeats 4000000 in
theorem run_append_grow' (sT xT ty e : TypeId) (i : TypeInfo) (zv : Value) (dx : TypeDesc) (ht : P.underlying sT = some (.slice e)) (hi : P.info? e = some i) (hz : i.zero = some zv) (hxT : P.underlying xT = some dx) (hdx : isIntD dx = false)
    (base : Option Addr) (sLen sCap n : Nat) (x : Value) (news olds : List Value) (w : World) (hlen : (Builtin.lenOf x).run P w = .ok n w) (hnew : (Builtin.firstCells i.size n x).run P w.drew = .ok news.toArray w.drew)
    (hold : (Builtin.firstCells i.size sLen (.slice base sLen sCap)).run P w.drew = .ok olds.toArray w.drew) (hroom : sCap < sLen + n) (h1 : (sLen + n) * i.bytes ≤ 140737488355328) (h2 : sLen + n ≤ 9223372036854775807) :
    (Builtin.append_ #[sT, xT] ty #[.slice base sLen sCap, x]).run P w =
      .ok (.slice (some ⟨w.heap.size, 0, none⟩) (sLen + n) (grownCap w (sLen + n) sCap e)) (w.drew.alloc (.cells (olds.toArray ++ news.toArray ++ Builtin.zeroCells zv.cells (grownCap w (sLen + n) sCap e - (sLen + n))) e)) := by
  have hu : (underlying sT).run P w = .ok (.slice e) w := by simp [underlying, ht]
  have hux : (underlying xT).run P w = .ok dx w := by simp [underlying, hxT]
  have hs : (sizeOf e).run P w = .ok i.size w := by simp [sizeOf, typeInfo, hi]
  have hti : ∀ w', (typeInfo e).run P w' = .ok i w' := fun w' => by simp [typeInfo, hi]
  have hzv : ∀ w', (zeroValue e).run P w' = .ok zv w' := fun w' => by simp [zeroValue, typeInfo, hi, hz]
  have hnr : ¬ sLen + n ≤ sCap := by omega
  have hfit := growslice_fits (need := sLen + n) (old := sCap) (bytes := i.bytes) hroom h1
  have hfit' : ¬ Builtin.nextslicecap (sLen + n) sCap * i.bytes > 2 ^ 48 := by omega
  have hmax : ¬ (((sLen + n : Nat) : Int) > IntKind.i64.max) := by
    have : IntKind.i64.max = 9223372036854775807 := rfl
    rw [this]; omega
  have hmax' : ¬ (9223372036854775807 < (sLen : Int) + n) := by omega
  have hq : Question.forced (.appendCap (sLen + n) sCap e) = false := rfl
  cases dx <;> first | (simp [isIntD] at hdx; done) | skip
  all_goals
    simp only [Builtin.append_]
    simp [hu, hux, hs, hti, hzv, hlen, hnr, hmax', hfit', hq, hnew, hold, newRow, grownCap]
    congr 2; apply Array.ext'; simp [List.append_assoc]


end
end Go.Proofs.Ytopagbaokokjdaa.AM

/- The abstract machine: append. -/
namespace Go.Proofs.Ytopagbaokokjdaa.AM
open Go.RowKit
set_option linter.unusedVariables false
set_option linter.unusedSimpArgs false

section
variable {P : Program} {B : Nat} {w0 : Root} {w : World} {ρ : Rho} {I : Imm} {σ : St}

theorem storeCells_raw {b o : Nat} {e : TypeId} {fr : Nat × Nat} : ∀ (us : List Value) (i : Nat) (c : Array Value) (w : World), w.heap[b]? = some (.cells c e fr) → (∀ o, o < c.size → w.frozen? ⟨b, o, none⟩ = false) → o + i + us.length ≤ c.size → (∀ u ∈ us, u.oneCell' = true) →
    ∃ w' c', (storeCells ⟨b, o, none⟩ us i).run P w = .ok () w' ∧ w'.heap[b]? = some (.cells c' e fr) ∧ c'.size = c.size ∧ (∀ j, c'[j]? = if o + i ≤ j ∧ j < o + i + us.length then us[j - (o + i)]? else c[j]?) ∧
      w'.heap.size = w.heap.size ∧ (∀ k, k ≠ b → w'.heap[k]? = w.heap[k]?) ∧ w'.os = w.os ∧ w'.tape = w.tape ∧ w'.output = w.output ∧ (∀ o, o < c.size → w'.frozen? ⟨b, o, none⟩ = false) ∧ w'.drawn = w.drawn := by
  intro us
  induction us with
  | nil => intro i c w hg hf hl h1; exact ⟨w, c, by simp [storeCells], hg, rfl, fun j => by rw [if_neg (by simp only [List.length_nil]; omega)], rfl, fun _ _ => rfl, rfl, rfl, rfl, hf, rfl⟩
  | cons u us ih =>
    intro i c w hg hf hl h1
    simp only [List.length_cons] at hl
    have hadd : (⟨b, o, none⟩ : Addr).add i = ⟨b, o + i, none⟩ := addr_add _ _ _
    have hcell : w.cell? ⟨b, o + i, none⟩ = some c[o + i] := by rw [cell_of_row w _ _ _ _ _ hg]; exact Array.getElem?_eq_getElem (by omega)
    obtain ⟨w', c', a1, a2, a3, a4, a5, a6, a7, a8, a9, a10, a11⟩ := ih (i + 1) (c.setIfInBounds (o + i) u) (w.setCell ⟨b, o + i, none⟩ u) (heap_setCell_at w _ _ _ _ _ _ hg) (fun x hx => by rw [World.frozen?_setCell]; exact hf x (by simpa using hx)) (by simp; omega) (fun x hx => h1 x (by simp [hx]))
    refine ⟨w', c', ?_, a2, by simpa using a3, fun j => ?_, by simpa using a5, fun k hk => (a6 k hk).trans (heap_setCell_other w _ _ _ hk), a7, a8, a9, fun x hx => a10 x (by simpa using hx), a11⟩
    · simp only [storeCells, Sem.run_bind, hadd, run_store P w _ _ .plain (h1 u (by simp)), hcell, hf (o + i) (by omega)]
      simpa using a1
    · rw [a4 j]
      simp only [List.length_cons]
      by_cases hj : o + (i + 1) ≤ j ∧ j < o + (i + 1) + us.length
      · rw [if_pos hj, if_pos (by omega)]
        have : j - (o + i) = (j - (o + (i + 1))) + 1 := by omega
        rw [this, List.getElem?_cons_succ]
      · rw [if_neg hj]
        by_cases he : o + i = j
        · subst he
          rw [if_pos (by omega), Array.getElem?_setIfInBounds_self]
          simp; omega
        · rw [if_neg (by omega), Array.getElem?_setIfInBounds_ne (by omega)]

/-- A block goes on under a new name, from some place in it on. -/
theorem Rel.move (r : Rel B w0 ρ I σ w) {a : Nat} {p p' : Place} {b bk : Blk} {w' : World} (hρ : ρ a = some p) (hm : σ.mem.get a = some b) (hrw : b.rw = true) (hp : p'.b = p.b)
    (h1 : w'.heap.size = w.heap.size) (h2 : ∀ k, k ≠ p.b → w'.heap[k]? = w.heap[k]?) (h3 : w'.os = w.os) (h4 : w'.tape = w.tape) (h5 : w'.output = w.output) (h6 : w.drawn ≤ w'.drawn)
    (hbk : ∀ ρ', RLe ρ ρ' → BRel ρ' I w' p' bk) :
    Rel B w0 (upd ρ σ.next p') I ⟨(σ.mem.del a).set σ.next bk, σ.next + 1⟩ w' ∧ Ext ρ I σ (upd ρ σ.next p') I ⟨(σ.mem.del a).set σ.next bk, σ.next + 1⟩ := by
  have hle := upd_le r p'
  have halt := r.rlt hρ
  have g : ∀ {x : Nat} {c : Blk}, x ≠ σ.next → ((σ.mem.del a).set σ.next bk).get x = some c → x ≠ a ∧ σ.mem.get x = some c := fun {x c} hx hc => by
    rw [Mem.get_set_ne _ _ hx, Mem.get_del] at hc
    split at hc
    · cases hc
    · exact ⟨by assumption, hc⟩
  have hB := r.new a p b hρ hm hrw
  refine ⟨⟨r.low.upd hB (Nat.le_of_eq h1.symm) (fun k hk _ => h2 k hk) h3 h4 h5 r.base h6, by rw [h1]; exact r.base, ?_, ?_, ?_, ?_, ?_, ?_, ?_, ?_, r.ilow⟩, ⟨fun x hx => upd_ne _ _ (by omega), ILe.refl _, Nat.le_succ _, fun x hx hn => ?_⟩⟩
  · intro x q c e1 e2
    by_cases h : x = σ.next
    · subst h; simp at e1 e2; subst e1; subst e2; exact hbk _ hle
    · rw [upd_ne _ _ h] at e1
      obtain ⟨e3, e4⟩ := g h e2
      exact (r.blk x q c e1 e4).world hle (ILe.refl _) (h2 _ fun e => r.inj a x p q b c hρ e1 hm e4 hrw (fun e => e3 e.symm) e.symm)
  · intro x y q q' c c' e1 e1' e2 e2' hw hn
    by_cases h : x = σ.next
    · subst h
      have hy : y ≠ σ.next := fun e => hn e.symm
      simp at e1; subst e1
      rw [upd_ne _ _ hy] at e1'
      obtain ⟨e3, e4⟩ := g hy e2'
      rw [hp]
      exact r.inj a y p q' b c' hρ e1' hm e4 hrw (fun e => e3 e.symm)
    · rw [upd_ne _ _ h] at e1
      obtain ⟨e3, e4⟩ := g h e2
      by_cases hy : y = σ.next
      · subst hy
        simp at e1'; subst e1'
        rw [hp]
        exact fun e => r.inj a x p q b c hρ e1 hm e4 hrw (fun e => e3 e.symm) e.symm
      · rw [upd_ne _ _ hy] at e1'
        obtain ⟨e3', e4'⟩ := g hy e2'
        exact r.inj x y q q' c c' e1 e1' e4 e4' hw hn
  · refine ⟨?_, r.gok⟩
    intro k c hk
    obtain ⟨e, fr, e1⟩ := r.imm k c hk
    exact ⟨e, fr, (h2 k fun e => by rw [e, r.sep a p b hρ hm hrw] at hk; cases hk).trans e1⟩
  · intro x q c e1 e2 hw
    by_cases h : x = σ.next
    · subst h; simp at e1; subst e1; rw [hp]; exact r.sep a p b hρ hm hrw
    · rw [upd_ne _ _ h] at e1
      exact r.sep x q c e1 (g h e2).2 hw
  · intro x q c e1 e2 hw
    by_cases h : x = σ.next
    · subst h; simp at e1; subst e1; rw [hp]; exact hB
    · rw [upd_ne _ _ h] at e1
      exact r.new x q c e1 (g h e2).2 hw
  · intro x q e1
    rw [h1]
    by_cases h : x = σ.next
    · subst h; simp at e1; subst e1; rw [hp]; exact r.lt a p hρ
    · rw [upd_ne _ _ h] at e1; exact r.lt x q e1
  · intro x hx; dsimp at hx; rw [upd_ne _ _ (by omega)]; exact r.dom x (by omega)
  · intro x hx; dsimp at hx ⊢; rw [Mem.get_set_ne _ _ (by omega), Mem.get_del]; split
    · rfl
    · exact r.memdom x (by omega)
  · dsimp
    rw [Mem.get_set_ne _ _ (by omega), Mem.get_del, if_neg (fun e => by rw [e, hρ] at hn; cases hn)]

set_option maxHeartbeats 4000000 in
/-- append. -/
theorem append_sound (r : Rel B w0 ρ I σ w) {s x v : AVal} {cs' cx : Value} {es by_ : Nat} {σ' : St} (h : evalV σ (.append es by_ s x) = some (v, σ')) (hs : VRel ρ I s cs') (hx : VRel ρ I x cx) (sT xT ty e : TypeId) (i : TypeInfo) (zv : Value) (dx : TypeDesc)
    (ht : P.underlying sT = some (.slice e)) (hi : P.info? e = some i) (hz : i.zero = some zv) (hes : i.size = es) (hby : i.bytes = by_) (hzs : zv.cells.size = es) (hxT : P.underlying xT = some dx) (hdx : isIntD dx = false) :
    Good B w0 ρ I σ ((Builtin.append_ #[sT, xT] ty #[cs', cx]).run P w) v σ' := by
  subst hes; subst hby
  simp only [evalV] at h
  split at h
  · cases h
  · rename_i hes0
    cases hsrc : srcL σ i.size x with
    | none => rw [hsrc] at h; cases h
    | some q =>
      obtain ⟨cs, n⟩ := q
      rw [hsrc] at h; simp only [Option.bind_some] at h
      obtain ⟨x1, x2, x3, x4⟩ := srcL_sound (P := P) r hsrc hx
      obtain ⟨news, n1, n2, n3⟩ := x4 n (Nat.le_refl _)
      rw [List.take_of_length_le (by omega)] at n2
      obtain ⟨_, _, _, x4'⟩ := srcL_sound (P := P) r.drew hsrc hx
      obtain ⟨news', n1', n2', n3'⟩ := x4' n (Nat.le_refl _)
      rw [List.take_of_length_le (by omega)] at n2'
      have grow : ∀ (base : Option Addr) (sLen sCap : Nat) (old : List AVal) (olds : List Value) (σ1 : St), Rel B w0 ρ I σ1 w → σ1.next = σ.next → old.length = sLen * i.size → old.all AVal.one = true → olds.length = sLen * i.size → CRel ρ I old (fun j => olds[j]?) →
          (Builtin.firstCells i.size sLen (.slice base sLen sCap)).run P w.drew = .ok olds.toArray w.drew → sCap < sLen + n → (sLen + n) * i.bytes ≤ 140737488355328 → sLen + n ≤ 9223372036854775807 →
          Good B w0 ρ I σ1 ((Builtin.append_ #[sT, xT] ty #[.slice base sLen sCap, cx]).run P w) (.sl σ1.next 0 (sLen + n) (sLen + n) false) ⟨σ1.mem.set σ1.next (.cells i.size (old ++ cs)), σ1.next + 1⟩ := by
        intro base sLen sCap old olds σ1 r1 hnx o1 o2 o3 o4 o5 hroom hb hm
        have hrun := run_append_grow' sT xT ty e i zv dx ht hi hz hxT hdx base sLen sCap n cx news' olds w x3 n3' o5 hroom hb hm
        have hge := grownCap_ge w (sLen + n) sCap e
        have hle := grownCap_le_maxLen w (sLen + n) sCap e (by unfold maxLen; omega)
        have hl : (old ++ cs).length = (sLen + n) * i.size := by rw [List.length_append, o1, x1, Nat.add_mul]
        have hgc : (grownCap w (sLen + n) sCap e - (sLen + n)) * i.size + (sLen + n) * i.size = grownCap w (sLen + n) sCap e * i.size := by
          rw [← Nat.add_mul]; congr 1; omega
        have g := newRow_good (es := i.size) (vals := old ++ cs) (len := sLen + n) (capA := sLen + n) (cap := grownCap w (sLen + n) sCap e) (tight := false) (res := (Builtin.append_ #[sT, xT] ty #[.slice base sLen sCap, cx]).run P w) r1.drew e
          (by rw [List.all_append, o2, x2]; rfl) (arr := olds.toArray ++ news'.toArray ++ Builtin.zeroCells zv.cells (grownCap w (sLen + n) sCap e - (sLen + n)))
          (by simp [size_zeroCells, o3, n1', hl, Nat.add_mul]) ?_ (Nat.le_refl _) hge hle (fun hh => by cases hh) (by simp [size_zeroCells, o3, n1', hzs]; rw [Nat.add_mul] at hgc; omega) hrun
        · obtain ⟨cv, w', ρ', I', a1, a2, a3, a4⟩ := g
          exact ⟨cv, w', ρ', I', a1, a2, a3, ⟨a4.rho, a4.imm, a4.next, a4.keep⟩⟩
        · refine CRel.mk fun j y hy => ?_
          by_cases hj : j < old.length
          · rw [List.getElem?_append_left hj] at hy
            obtain ⟨u, u1, u2⟩ := o4.get j y hy
            refine ⟨u, ?_, u2⟩
            have hjo : j < olds.length := by omega
            rw [Array.append_assoc, Array.getElem?_append_left (by simpa using hjo)]; simpa using u1
          · rw [List.getElem?_append_right (by omega)] at hy
            obtain ⟨u, u1, u2⟩ := n2'.get _ y hy
            refine ⟨u, ?_, u2⟩
            have hlt := (List.getElem?_eq_some_iff.1 u1).1
            rw [Array.append_assoc, Array.getElem?_append_right (by simp; omega), Array.getElem?_append_left (by simp; omega)]
            simp only [List.size_toArray, List.getElem?_toArray]
            rw [← u1]; congr 1; omega
      split at h
      · -- onto nil
        simp only [VRel] at hs; subst hs
        by_cases hn : n = 0
        · rw [if_pos hn] at h; cases h
          refine .quiet r (cv := .slice none 0 0) ?_ (by simp only [VRel])
          have := run_append_room' sT xT ty e i dx ht hi hxT hdx none 0 0 n cx news w x3 n3 (by omega)
          rw [this, hn]
        · rw [if_neg hn] at h
          split at h <;> cases h
          rename_i hc
          have g := grow none 0 0 [] [] σ r rfl (by simp) rfl (by simp) trivial (by simp [Builtin.firstCells]) (by omega) (by simpa using hc.1) (by simpa using hc.2)
          simpa using g
      · -- onto an unchanging one
        rename_i old len tg
        simp only [VRel] at hs
        obtain ⟨ad, cap', rfl, g1, g2, g3, g4, g5⟩ := hs
        by_cases hn : n = 0
        · rw [if_pos hn] at h; cases h
          subst hn
          have hnews : news = [] := List.eq_nil_of_length_eq_zero (by simpa using n1)
          refine .quiet r (cv := .slice (some ad) len cap') ?_ ?_
          · rw [run_append_room' sT xT ty e i dx ht hi hxT hdx (some ad) len cap' 0 cx news w x3 n3 (by omega), hnews]
            simp [storeCells]
          · simp only [VRel]; exact ⟨_, _, rfl, g1, g2, g3, g4, g5⟩
        · rw [if_neg hn] at h
          split at h <;> cases h
          rename_i hc
          obtain ⟨c1, c2, c3, c4⟩ := hc
          have hcap := g3 c1
          rw [hcap]
          have hold : CRel ρ I old (fun j => w.cell? (ad.add j)) := CRel.mono (RLe.refl _) (ILe.refl _) old _ _ (fun j u hu => r.icell hu) g5
          obtain ⟨olds, o1, o2, o3⟩ := hold.list
          have hrun := run_loadCells_list (P := P) (w := w.drew) ad olds (fun j u hu => by rw [World.cell?_drew]; exact o2 j u hu)
          exact grow (some ad) len len old olds σ r rfl c2 g4 (by rw [o1, c2]) o3 (by simp only [Builtin.firstCells]; rw [o1, c2] at hrun; exact hrun) (by omega) c3 c4
      · -- onto one that may be written
        rename_i a o len cap tg
        have hs0 := hs
        simp only [VRel] at hs
        obtain ⟨p, ad, cap', hρ, rfl, g1, g2, g3, g4, g5, g6⟩ := hs
        have olds : ∀ {b : Blk} {vals : List AVal}, σ.mem.get a = some b → b.vals? = some vals → o + len * i.size ≤ vals.length →
            ∃ us : List Value, us.length = len * i.size ∧ CRel ρ I ((vals.drop o).take (len * i.size)) (fun j => us[j]?) ∧ (Builtin.firstCells i.size len (.slice (some ad) len cap')).run P w.drew = .ok us.toArray w.drew ∧ ((vals.drop o).take (len * i.size)).all AVal.one = true := by
          intro b vals hm hb hle
          have hsr : srcL σ i.size (.sl a o len cap tg) = some ((vals.drop o).take (len * i.size), len) := by
            simp only [srcL, hm]
            cases b <;> cases hb <;> simp [hle]
          obtain ⟨y1, y2, _, y4⟩ := srcL_sound (P := P) r.drew hsr hs0
          obtain ⟨us, z1, z2, z3⟩ := y4 len (Nat.le_refl _)
          rw [List.take_of_length_le (by omega)] at z2
          exact ⟨us, z1, z2, z3, y2⟩
        cases hm : σ.mem.get a with
        | none => rw [hm] at h; cases h
        | some b =>
          rw [hm] at h
          cases b with
          | map _ _ => cases h
          | iter _ _ _ _ => cases h
          | loop _ => cases h
          | ro es' vals =>
            simp only at h
            by_cases hn : n = 0
            · rw [if_pos hn] at h; cases h
              subst hn
              have hnews : news = [] := List.eq_nil_of_length_eq_zero (by simpa using n1)
              refine .quiet r (cv := .slice (some ad) len cap') ?_ ?_
              · rw [run_append_room' sT xT ty e i dx ht hi hxT hdx (some ad) len cap' 0 cx news w x3 n3 (by omega), hnews]
                simp [storeCells]
              · simp only [VRel]; exact ⟨p, _, _, hρ, rfl, g1, g2, g3, g4, g5, g6⟩
            · rw [if_neg hn] at h
              split at h <;> cases h
              rename_i hc
              obtain ⟨c1, c2, c3, c4, c5, c6⟩ := hc
              have hcap := g4 c2
              obtain ⟨us, z1, z2, z3, z4⟩ := olds hm rfl c4
              exact grow (some ad) len cap' _ us σ r rfl (by rw [List.length_take, List.length_drop]; omega) z4 z1 z2 z3 (by omega) c5 c6
          | cells es' vals =>
            simp only at h
            have hbr := r.blk a p _ hρ hm
            obtain ⟨q1, q2, q3, q4⟩ := hbr
            split at h
            · rename_i he
              split at h
              · -- room
                rename_i hroom
                split at h <;> cases h
                rename_i hfit
                have hfit' : o + len * i.size + cs.length ≤ vals.length := by rw [x1]; rw [Nat.add_mul] at hfit; omega
                by_cases hc0 : cap' = 0
                · -- nothing is written
                  have hn : n = 0 := by omega
                  have hl0 : len = 0 := by omega
                  subst hn
                  have hcs : cs = [] := List.eq_nil_of_length_eq_zero (by simpa using x1)
                  subst hcs
                  have hnews : news = [] := List.eq_nil_of_length_eq_zero (by simpa using n1)
                  subst hnews
                  have hg : ∀ x, (σ.mem.set a (.cells i.size (storeL vals (o + len * i.size) []))).get x = σ.mem.get x := fun x => by
                    by_cases hh : x = a
                    · subst hh; simp [hm, storeL, he]
                    · simp [hh]
                  refine ⟨.slice (some ad) (len + 0) cap', w, ρ, I, ?_, ?_, r.memEq hg, ⟨fun _ _ => rfl, ILe.refl _, Nat.le_refl _, fun x _ _ => hg x⟩⟩
                  · rw [run_append_room' sT xT ty e i dx ht hi hxT hdx (some ad) len cap' 0 cx [] w x3 n3 (by omega)]
                    simp [storeCells]
                  · simp only [VRel]; exact ⟨p, _, _, hρ, rfl, by omega, g2, g3, g4, g5, g6⟩
                · have had := g5.resolve_left hc0
                  subst had
                  obtain ⟨w', s1, s2, s3⟩ := storeCells_sound (P := P) hρ (o := o + len * i.size) cs news σ w vals 0 r hm (by rw [n1, x1]) n2 x2 (by omega)
                  refine ⟨.slice (some ⟨p.b, p.base + o, none⟩) (len + n) cap', w', ρ, I, ?_, ?_, ?_, ?_⟩
                  · rw [run_append_room' sT xT ty e i dx ht hi hxT hdx _ len cap' n cx news w x3 n3 (by omega)]
                    simp only [addr_add, Nat.add_assoc]
                    rw [s1]; rfl
                  · simp only [VRel]; exact ⟨p, _, _, hρ, rfl, hroom, g2, g3, g4, .inr rfl, g6⟩
                  · rw [he] at s2; exact s2
                  · rw [he] at s3; exact s3
              · -- no room
                rename_i hroom
                split at h
                · rename_i hc
                  obtain ⟨c1, c2, c3⟩ := hc
                  obtain ⟨us, z1, z2, z3, z4⟩ := olds hm rfl c1
                  have hlo : ((vals.drop o).take (len * i.size)).length = len * i.size := by rw [List.length_take, List.length_drop]; omega
                  split at h
                  · rename_i htg
                    cases h
                    have hcap := g4 htg
                    exact grow (some ad) len cap' _ us σ r rfl hlo z4 z1 z2 z3 (by omega) c2 c3
                  · cases h
                    have hdel := r.del a
                    have edel : Ext ρ I σ ρ I ⟨σ.mem.del a, σ.next⟩ := Ext.del hρ
                    by_cases hcc : len + n ≤ cap'
                    · -- in place
                      have hc0 : cap' ≠ 0 := by omega
                      have had := g5.resolve_left hc0
                      subst had
                      obtain ⟨c, e1, fr, b4, b5, b6, b7⟩ := q4
                      subst he
                      have hmul : (len + n) * i.size ≤ cap' * i.size := Nat.mul_le_mul_right _ hcc
                      have hmul2 := Nat.add_mul len n i.size
                      have hone : ∀ u ∈ news, u.oneCell' = true := n2.one (by rw [n1, x1]) x2
                      rw [q1] at g6
                      obtain ⟨w', c', a1, a2, a3, a4, a5, a6, a7, a8, a9, a10, a11⟩ := storeCells_raw (P := P) (o := p.base + o + len * i.size) news 0 c w b4 (unfrozen b4 b6) (by rw [n1, b5]; omega) hone
                      have mv := r.move (p' := ⟨p.b, p.base + o, p.size - o, i.size⟩) (bk := .cells i.size ((vals.drop o).take (len * i.size) ++ cs)) hρ hm rfl rfl a5 a6 a7 a8 a9 (Nat.le_of_eq a11.symm) fun ρ' hle => by
                        refine ⟨rfl, by rw [List.all_append, z4, x2]; rfl, by rw [List.length_append, hlo, x1]; show _ ≤ p.size - o; omega, c', e1, fr, a2, by rw [a3, b5]; show _ = p.base + o + (p.size - o); omega, by rw [a3]; exact b6, ?_⟩
                        refine CRel.mono hle (ILe.refl _) _ (fun j => c'[p.base + o + j]?) _ (fun _ _ e => e) (CRel.mk fun j y hy => ?_)
                        simp only [a4, Nat.add_zero]
                        by_cases hj : j < len * i.size
                        · rw [List.getElem?_append_left (by rw [hlo]; exact hj)] at hy
                          rw [if_neg (by omega)]
                          have := ((b7.drop o).take (len * i.size)).get j y hy
                          rwa [← Nat.add_assoc] at this
                        · rw [List.getElem?_append_right (by rw [hlo]; omega), hlo] at hy
                          have hlt : j - len * i.size < n * i.size := by rw [← x1]; exact (List.getElem?_eq_some_iff.1 hy).1
                          rw [if_pos (by omega)]
                          have := n2.get _ y hy
                          have he : p.base + o + j - (p.base + o + len * i.size) = j - len * i.size := by omega
                          rw [he]; exact this
                      refine ⟨.slice (some ⟨p.b, p.base + o, none⟩) (len + n) cap', w', _, _, ?_, ?_, mv.1, mv.2⟩
                      · rw [run_append_room' sT xT ty e i dx ht hi hxT hdx _ len cap' n cx news w x3 n3 hcc]
                        simp only [addr_add]
                        rw [a1]; rfl
                      · simp only [VRel]
                        exact ⟨_, _, _, upd_self _ _ _, rfl, Nat.le_refl _, hcc, g3, (fun hh => by cases hh), .inr rfl, by show 0 + cap' * i.size ≤ p.size - o; omega⟩
                    · have g := grow (some ad) len cap' _ us ⟨σ.mem.del a, σ.next⟩ hdel rfl hlo z4 z1 z2 z3 (by omega) c2 c3
                      obtain ⟨cv, w', ρ', I', a1, a2, a3, a4⟩ := g
                      exact ⟨cv, w', ρ', I', a1, a2, a3, edel.trans a4⟩
                · cases h
            · cases h
      · cases h

set_option maxHeartbeats 4000000 in
/-- append of a make, to nil. -/
theorem appendMk_sound (r : Rel B w0 ρ I σ w) {s x v : AVal} {cs' cx : Value} {es by_ : Nat} {z : List AVal} {σ' : St} (h : evalV σ (.appendMk es by_ z s x) = some (v, σ')) (hs : VRel ρ I s cs') (hx : VRel ρ I x cx) (sT xT ty e : TypeId) (i : TypeInfo) (zv : Value) (dx : TypeDesc)
    (ht : P.underlying sT = some (.slice e)) (hi : P.info? e = some i) (hz : i.zero = some zv) (hes : i.size = es) (hby : i.bytes = by_) (h1 : z.all AVal.one = true) (h2 : KCRel z zv.cells) (hxT : P.underlying xT = some dx) (hdx : isIntD dx = true) :
    Good B w0 ρ I σ ((Builtin.append_ #[sT, xT] ty #[cs', cx]).run P w) v σ' := by
  subst hes; subst hby
  simp only [evalV] at h
  split at h
  · rename_i n
    split at h
    · rename_i hc
      obtain ⟨c1, c2, c3, c4, c5⟩ := hc
      cases h
      simp only [VRel] at hs hx
      subst hs hx
      obtain ⟨N, rfl⟩ : ∃ N : Nat, n = N := ⟨n.toNat, by omega⟩
      simp only [Int.toNat_natCast]
      have c4' : N * i.bytes ≤ 140737488355328 := by omega
      have hzs : zv.cells.size = i.size := by rw [← h2.1, c3]
      have hu : (underlying sT).run P w = .ok (.slice e) w := by simp [underlying, ht]
      have hux : (underlying xT).run P w = .ok dx w := by simp [underlying, hxT]
      have hsz : (sizeOf e).run P w = .ok i.size w := by simp [sizeOf, typeInfo, hi]
      have hti : ∀ w', (typeInfo e).run P w' = .ok i w' := fun w' => by simp [typeInfo, hi]
      have hzv : ∀ w', (zeroValue e).run P w' = .ok zv w' := fun w' => by simp [zeroValue, typeInfo, hi, hz]
      have hN : 0 < N := by omega
      have hnr : ¬ N ≤ 0 := by omega
      have hfit := growslice_fits (need := N) (old := 0) (bytes := i.bytes) hN c4'
      have hfit' : ¬ Builtin.nextslicecap N 0 * i.bytes > 2 ^ 48 := by omega
      have hmax' : ¬ (9223372036854775807 < (N : Int)) := by omega
      have hw : IntKind.i64.wrap (N : Int) = N := IntWalk.i64_in _ ⟨by omega, by omega⟩
      have hneg : ¬ (N : Int) < 0 := by omega
      have hbig : ¬ (N : Int) * i.bytes > 2 ^ 48 := by omega
      have hbig2 : ¬ (281474976710656 < (N : Int) * i.bytes) := by omega
      have hN0 : ¬ N = 0 := by omega
      have hne : ¬ N * i.size = 0 := by
        have := Nat.mul_pos hN c2
        omega
      have hne' : ¬ (N = 0 ∨ i.size = 0) := by omega
      have hq : Question.forced (.appendCap N 0 e) = false := rfl
      have hge := grownCap_ge w N 0 e
      have hle := grownCap_le_maxLen w N 0 e (by unfold maxLen; omega)
      have hrun : (Builtin.append_ #[sT, xT] ty #[.slice none 0 0, .int .i64 (N : Int)]).run P w = .ok (.slice (some ⟨w.heap.size, 0, none⟩) N (grownCap w N 0 e)) (w.drew.alloc (.cells (Builtin.zeroCells zv.cells N ++ Builtin.zeroCells zv.cells (grownCap w N 0 e - N)) e)) := by
        cases dx <;> first | (simp [isIntD] at hdx; done) | skip
        simp only [Builtin.append_]
        simp [hu, hux, hsz, hti, hzv, hnr, hmax', hfit', hq, newRow, grownCap, asInt, run_asIntOf, hw, hneg, hbig, hbig2, hN0, hne, hne', Builtin.firstCells]
      have hgc : (grownCap w N 0 e - N) * i.size + N * i.size = grownCap w N 0 e * i.size := by
        rw [← Nat.add_mul]; congr 1; omega
      have g := newRow_good (es := i.size) (vals := repL N z) (len := N) (capA := N) (cap := grownCap w N 0 e) (tight := false) (res := (Builtin.append_ #[sT, xT] ty #[.slice none 0 0, .int .i64 (N : Int)]).run P w) r.drew e
        (repL_one h1) (arr := Builtin.zeroCells zv.cells N ++ Builtin.zeroCells zv.cells (grownCap w N 0 e - N))
        (by simp [size_zeroCells, hzs, repL_length, c3]) ?_ (Nat.le_refl _) hge hle (fun hh => by cases hh) (by simp [size_zeroCells, hzs]; omega) hrun
      · obtain ⟨cv, w', ρ', I', a1, a2, a3, a4⟩ := g
        exact ⟨cv, w', ρ', I', a1, a2, a3, ⟨a4.rho, a4.imm, a4.next, a4.keep⟩⟩
      · have hcr := repl_crel (ρ := ρ) (I := I) h2 (by omega) N (N * i.size) (by rw [c3])
        refine CRel.mk fun j y hy => ?_
        obtain ⟨u, u1, u2⟩ := hcr.get j y hy
        refine ⟨u, ?_, u2⟩
        have hlt := (Array.getElem?_eq_some_iff.1 u1).1
        rw [Array.getElem?_append_left (by simp [size_zeroCells, hzs] at hlt ⊢; exact hlt)]
        rw [← u1, Builtin.zeroCells, hzs]
    · cases h
  · cases h

end
end Go.Proofs.Ytopagbaokokjdaa.AM

/- The abstract machine: numbers, strings, comparisons, conversions. -/
namespace Go.Proofs.Ytopagbaokokjdaa.AM
open Go.RowKit
set_option linter.unusedVariables false
set_option linter.unusedSimpArgs false

section
variable {P : Program} {B : Nat} {w0 : Root} {w : World} {ρ : Rho} {I : Imm} {σ : St}

theorem binI_run {op : BinOp} {k : IntKind} {a b : Int} {v : AVal} (h : abinI op k a b = some v) (h1 : op ≠ .shl) (h2 : op ≠ .shr) (t : TypeId) : ∃ cv, VRel ρ I v cv ∧ (binOp op t (.int k a) (.int k b)).run P w = .ok cv w := by
  cases op <;> simp only [abinI, abits] at h
  case shl => exact absurd rfl h1
  case shr => exact absurd rfl h2
  case quo =>
    split at h
    · cases h
    · rename_i hb
      injection h with h; subst h
      refine ⟨_, (by simp only [VRel]; rfl), by simp [binOp, Op.intDiv, hb]⟩
  case rem =>
    split at h
    · cases h
    · rename_i hb
      injection h with h; subst h
      refine ⟨_, (by simp only [VRel]; rfl), by simp [binOp, Op.intDiv, hb]⟩
  all_goals
    injection h with h; subst h
    refine ⟨_, (by simp only [VRel]; rfl), ?_⟩
  case eql => simp [binOp, Op.intCmp]; rfl
  case neq => simp [binOp, Op.intCmp]; rfl
  all_goals simp [binOp, Op.intArith, Op.intCmp, Op.intBits]

theorem binS_run {op : BinOp} {a b : ByteArray} {v : AVal} (h : abinS op a b = some v) (t : TypeId) : ∃ cv, VRel ρ I v cv ∧ (binOp op t (.string a) (.string b)).run P w = .ok cv w := by
  cases op <;> simp only [abinS] at h
  case add =>
    split at h
    · cases h
    · rename_i hb
      injection h with h; subst h
      refine ⟨_, (by simp only [VRel]; rfl), ?_⟩
      simp only [binOp, Op.stringOp]
      rw [if_neg hb]; rfl
  all_goals
    first
      | (cases h; done)
      | (injection h with h; subst h
         refine ⟨_, (by simp only [VRel]; rfl), ?_⟩
         rfl)

theorem bin_sound (r : Rel B w0 ρ I σ w) {op : BinOp} {x y v : AVal} {cx cy : Value} (h : abin op x y = some v) (hx : VRel ρ I x cx) (hy : VRel ρ I y cy) (t : TypeId) (ox oy : Operand) :
    Good B w0 ρ I σ ((do eqGuard op t ox oy cx cy; binOp op t cx cy : Sem Value).run P w) v σ := by
  unfold abin at h
  split at h
  · rename_i k a k' b
    simp only [VRel] at hx hy; subst hx hy
    have hg : (eqGuard op t ox oy (.int k a) (.int k' b)).run P w = .ok () w := by cases op <;> simp [eqGuard]
    split at h
    · simp only [ashift] at h
      split at h
      · cases h
      · rename_i hb
        injection h with h; subst h
        exact .quiet r (cv := .int k (k.wrap (a * 2 ^ min b.toNat k.bits))) (by simp [hg, binOp, Op.shift, hb]) (by simp only [VRel])
    · simp only [ashift] at h
      split at h
      · cases h
      · rename_i hb
        injection h with h; subst h
        exact .quiet r (cv := .int k (a.fdiv (2 ^ min b.toNat k.bits))) (by simp [hg, binOp, Op.shift, hb]) (by simp only [VRel])
    · rename_i h1 h2
      split at h
      · rename_i hk
        subst hk
        obtain ⟨cv, g1, g2⟩ := binI_run (P := P) (w := w) (ρ := ρ) (I := I) h h1 h2 t
        exact .quiet r (cv := cv) (by simp [hg, g2]) g1
      · cases h
  · rename_i a b
    simp only [VRel] at hx hy; subst hx hy
    have hg : (eqGuard op t ox oy (.string a) (.string b)).run P w = .ok () w := by cases op <;> simp [eqGuard]
    obtain ⟨cv, g1, g2⟩ := binS_run (P := P) (w := w) (ρ := ρ) (I := I) h t
    exact .quiet r (cv := cv) (by simp [hg, g2]) g1
  · cases h

theorem eqb_sound (r : Rel B w0 ρ I σ w) {g : Bool} {a b : Bool} (t : TypeId) (ht : P.underlying t = some .bool) (ox oy : Operand) :
    Good B w0 ρ I σ ((do eqGuard (if g then .neq else .eql) t ox oy (.bool a) (.bool b); binOp (if g then .neq else .eql) t (.bool a) (.bool b) : Sem Value).run P w) (.bool (g != (a == b))) σ := by
  cases g
  · exact .quiet r (cv := .bool (a == b)) (by simp [eqGuard, run_eql_bool w t a b ht]) (by simp [VRel])
  · exact .quiet r (cv := .bool (!(a == b))) (by simp [eqGuard, run_neq_bool w t a b ht]) (by simp [VRel])

/-- The kinds of types whose values may be nil. -/
def nilKind : TypeDesc → Option Nat
  | .pointer _ => some 0
  | .slice _ => some 1
  | .map _ _ => some 2
  | .func .. => some 3
  | _ => none

theorem eqn_sound (r : Rel B w0 ρ I σ w) {g : Bool} {k : Nat} {x y : AVal} {cx cy : Value} {b : Bool} (h : aeqn k x y = some b) (hx : VRel ρ I x cx) (hy : VRel ρ I y cy) (t : TypeId) (d : TypeDesc) (ht : P.underlying t = some d) (hd : nilKind d = some k) (ox oy : Operand) :
    Good B w0 ρ I σ ((do eqGuard (if g then .neq else .eql) t ox oy cx cy; binOp (if g then .neq else .eql) t cx cy : Sem Value).run P w) (.bool (g != b)) σ := by
  have hu : (underlying t).run P w = .ok d w := by simp [underlying, ht]
  have key : (eqGuard (if g then .neq else .eql) t ox oy cx cy).run P w = .ok () w ∧ (∀ D, (Op.equalIn (D + 1) t cx cy).run P w = .ok b w) ∧ binOp (if g then .neq else .eql) t cx cy = (do pure (.bool (g != (← Op.equal t cx cy))) : Sem Value) := by
    have hne : ∀ {z : AVal} {q : Bool} {cz : Value}, isNil k z = some q → VRel ρ I z cz →
        (k = 0 ∧ ∃ o : Option Addr, cz = .pointer o ∧ o.isNone = q) ∨ (k = 1 ∧ ∃ o n m, cz = .slice o n m ∧ o.isNone = q) ∨ (k = 2 ∧ ∃ o, cz = .map o ∧ o.isNone = q) ∨ (k = 3 ∧ ((q = true ∧ cz = .nilFunc) ∨ (q = false ∧ ∃ f a b, cz = .func f a b))) := by
      intro z q cz hz hv
      unfold isNil at hz
      split at hz <;> (try (cases hz; done)) <;> (injection hz with hz; subst hz) <;> simp only [VRel] at hv
      · exact .inl ⟨rfl, _, hv, rfl⟩
      · obtain ⟨p, _, hv⟩ := hv; exact .inl ⟨rfl, _, hv, rfl⟩
      · obtain ⟨p, hv, _⟩ := hv; exact .inl ⟨rfl, _, hv, rfl⟩
      · exact .inr (.inl ⟨rfl, _, _, _, hv, rfl⟩)
      · obtain ⟨p, ad, c, _, hv, _⟩ := hv; exact .inr (.inl ⟨rfl, _, _, _, hv, rfl⟩)
      · obtain ⟨ad, c, hv, _⟩ := hv; exact .inr (.inl ⟨rfl, _, _, _, hv, rfl⟩)
      · exact .inr (.inr (.inl ⟨rfl, _, hv, rfl⟩))
      · obtain ⟨p, _, hv⟩ := hv; exact .inr (.inr (.inl ⟨rfl, _, hv, rfl⟩))
      · exact .inr (.inr (.inr ⟨rfl, .inl ⟨rfl, hv⟩⟩))
      · obtain ⟨a, b, hv, _⟩ := hv; exact .inr (.inr (.inr ⟨rfl, .inr ⟨rfl, _, _, _, hv⟩⟩))
    have hgd : ∀ {cx cy : Value}, (cx ≠ .nilIface ∧ ∀ a, cx ≠ .agg a) → (eqGuard (if g then .neq else .eql) t ox oy cx cy).run P w = .ok () w := by
      intro cx cy ⟨n1, n2⟩
      cases cx <;> first | (exact absurd rfl n1) | (exact absurd rfl (n2 _)) | (cases g <;> simp [eqGuard])
    have hbo : ∀ {cx cy : Value}, (∀ k n, cx ≠ .int k n) → (∀ s, cx ≠ .string s) → (∀ k n, cx ≠ .float k n) → (∀ k n m, cx ≠ .complex k n m) → binOp (if g then .neq else .eql) t cx cy = (do pure (.bool (g != (← Op.equal t cx cy))) : Sem Value) := by
      intro cx cy n1 n2 n3 n4
      cases g <;> cases cx <;> first | (exact absurd rfl (n1 _ _)) | (exact absurd rfl (n2 _)) | (exact absurd rfl (n3 _ _)) | (exact absurd rfl (n4 _ _ _)) | (simp [binOp])
    have hxy : ∃ qx qy, isNil k x = some qx ∧ isNil k y = some qy ∧ (qx = true ∧ b = qy ∨ qy = true ∧ b = qx) := by
      unfold aeqn at h
      split at h
      · rename_i a e1 e2; injection h with h; subst h; exact ⟨_, _, e1, e2, .inr ⟨rfl, rfl⟩⟩
      · rename_i a _ e1 e2; injection h with h; subst h; exact ⟨_, _, e1, e2, .inl ⟨rfl, rfl⟩⟩
      · cases h
    obtain ⟨qx, qy, e1, e2, e3⟩ := hxy
    rcases hne e1 hx with ⟨k0, o, rfl, rfl⟩ | ⟨k0, o, n, m, rfl, rfl⟩ | ⟨k0, o, rfl, rfl⟩ | ⟨k0, hf⟩
    · subst k0
      rcases hne e2 hy with ⟨_, o', rfl, rfl⟩ | ⟨k1, _⟩ | ⟨k1, _⟩ | ⟨k1, _⟩
      · cases d <;> simp [nilKind] at hd
        refine ⟨hgd ⟨by simp, by simp⟩, ?_, hbo (by simp) (by simp) (by simp) (by simp)⟩
        cases o <;> cases o' <;> simp at e3 <;> subst e3 <;> (intro D; simp [Op.equalIn, hu])
      all_goals cases k1
    · subst k0
      rcases hne e2 hy with ⟨k1, _⟩ | ⟨_, o', n', m', rfl, rfl⟩ | ⟨k1, _⟩ | ⟨k1, _⟩
      · cases k1
      · cases d <;> simp [nilKind] at hd
        refine ⟨hgd ⟨by simp, by simp⟩, ?_, hbo (by simp) (by simp) (by simp) (by simp)⟩
        cases o <;> cases o' <;> simp at e3 <;> subst e3 <;> (intro D; simp [Op.equalIn, hu])
      all_goals cases k1
    · subst k0
      rcases hne e2 hy with ⟨k1, _⟩ | ⟨k1, _⟩ | ⟨_, o', rfl, rfl⟩ | ⟨k1, _⟩
      · cases k1
      · cases k1
      · cases d <;> simp [nilKind] at hd
        refine ⟨hgd ⟨by simp, by simp⟩, ?_, hbo (by simp) (by simp) (by simp) (by simp)⟩
        cases o <;> cases o' <;> simp at e3 <;> subst e3 <;> (intro D; simp [Op.equalIn, hu])
      · cases k1
    · subst k0
      rcases hne e2 hy with ⟨k1, _⟩ | ⟨k1, _⟩ | ⟨k1, _⟩ | ⟨_, hf'⟩
      · cases k1
      · cases k1
      · cases k1
      · cases d <;> simp [nilKind] at hd
        rcases hf with ⟨rfl, rfl⟩ | ⟨rfl, f, a1, a2, rfl⟩ <;> rcases hf' with ⟨rfl, rfl⟩ | ⟨rfl, f', a1', a2', rfl⟩ <;> simp at e3 <;> subst e3 <;>
          exact ⟨hgd ⟨by simp, by simp⟩, fun D => by simp [Op.equalIn, hu], hbo (by simp) (by simp) (by simp) (by simp)⟩
  obtain ⟨k1, k2, k3⟩ := key
  refine .quiet r (cv := .bool (g != b)) ?_ (by simp only [VRel])
  have k2' : (Op.equal t cx cy).run P w = .ok b w := k2 9999
  simp [k1, k3, k2']

end
end Go.Proofs.Ytopagbaokokjdaa.AM

/- The abstract machine: conversions, lengths, small operations. -/
namespace Go.Proofs.Ytopagbaokokjdaa.AM
open Go.RowKit
set_option linter.unusedVariables false
set_option linter.unusedSimpArgs false

section
variable {P : Program} {B : Nat} {w0 : Root} {w : World} {ρ : Rho} {I : Imm} {σ : St}

theorem toInt_sound (r : Rel B w0 ρ I σ w) {cx : Value} {k k' : IntKind} {n : Int} (hx : VRel ρ I (.int k' n) cx) (s t : TypeId) (ds : TypeDesc) (hs : P.underlying s = some ds) (ht : P.underlying t = some (.int k)) :
    Good B w0 ρ I σ ((convert s t cx).run P w) (.int k (k.wrap n)) σ := by
  simp only [VRel] at hx; subst hx
  refine .quiet r (cv := .int k (k.wrap n)) ?_ (by simp only [VRel])
  have hu : (underlying s).run P w = .ok ds w := by simp [underlying, hs]
  have hu2 : (underlying t).run P w = .ok (.int k) w := by simp [underlying, ht]
  simp only [convert, Sem.run_bind, hu, Result.andThen_ok, hu2]
  cases ds <;> rfl

theorem freeze_alloc (w : World) (arr : Array Value) (e : TypeId) (n : Nat) (hn : n = arr.size) : (w.alloc (.cells arr e)).freeze ⟨w.heap.size, n, none⟩ 1 = w.alloc (.cells arr e (n, n + 1)) := by
  unfold World.freeze World.alloc
  simp only [Nat.one_ne_zero, if_false]
  congr 1
  apply Array.ext_getElem?
  intro i
  rw [Array.getElem?_modify]
  by_cases h : i = w.heap.size
  · subst h; simp
  · simp only [Array.getElem?_push, if_neg (fun e => h e.symm : ¬ w.heap.size = i), if_neg h]

theorem strBytes_at (r : Rel B w0 ρ I σ w) {id : Nat} (hid : ρ id = none) {s : ByteArray} (hm : σ.mem.get id = some (.cells 1 (s.data.toList.map fun b => .int .u8 b.toNat))) (hl : s.size ≤ 140737488355328) (src t e : TypeId) (ds : TypeDesc) (hs : P.underlying src = some ds) (ht : P.underlying t = some (.slice e)) (he : P.underlying e = some (.int .u8)) :
    GoodAt B w0 ρ I σ id ((convert src t (.string s)).run P w) (.sl id 0 s.size s.size false) := by
  have hu : (underlying src).run P w = .ok ds w := by simp [underlying, hs]
  have hu2 : (underlying t).run P w = .ok (.slice e) w := by simp [underlying, ht]
  have hu3 : (underlying e).run P w = .ok (.int .u8) w := by simp [underlying, he]
  have hsz : s.data.toList.length = s.size := by rw [Array.length_toList]; rfl
  have hge := grownCap_ge w s.size 0 e
  have hle := grownCap_le_maxLen w s.size 0 e (by unfold maxLen; omega)
  obtain ⟨arr, harr⟩ : ∃ arr : Array Value, arr = (s.data.map fun b => (Value.int .u8 b.toNat)) ++ Array.replicate (grownCap w s.size 0 e - s.size) (.int .u8 0) := ⟨_, rfl⟩
  have has : arr.size = grownCap w s.size 0 e := by
    rw [harr]; simp; have : s.data.size = s.size := rfl; omega
  have hrun : (convert src t (.string s)).run P w = .ok (.slice (some ⟨w.heap.size, 0, none⟩) s.size (grownCap w s.size 0 e)) (w.drew.alloc (.cells arr e (arr.size, arr.size + 1))) := by
    have hq : Question.forced (.appendCap s.size 0 e) = false := rfl
    have h0 : (convert src t (.string s)).run P w = (Conv.stringToBytes e s).run P w := by
      simp only [convert, Sem.run_bind, hu, Result.andThen_ok, hu2]
      cases ds <;> simp [hu3]
    rw [h0]
    have h1 : (Conv.stringToBytes e s).run P w = (do
        let a ← newRow e arr
        markStringish a
        pure (.slice (some a) s.size (grownCap w s.size 0 e)) : Sem Value).run P w.drew := by
      simp [Conv.stringToBytes, hq, grownCap, harr]
    rw [h1]
    have hsh : (w.drew.alloc (.cells arr e)).shape? w.heap.size = some (e, arr.size) := by
      have := heap_alloc_new w.drew (.cells arr e)
      simp only [World.size_drew] at this
      simp only [World.shape?, this]
    simp only [newRow, Sem.run_bind, run_newObj, Result.andThen_ok, World.alloc_eq, Sem.run_pure, World.size_drew, markStringish, run_shape, hsh, run_freeze]
    rw [show (w.drew.alloc (.cells arr e)).freeze ⟨w.heap.size, arr.size, none⟩ 1 = _ from freeze_alloc w.drew arr e arr.size rfl]
  have hcrel : CRel ρ I (s.data.toList.map fun b => .int .u8 b.toNat) (fun j => arr[j]?) := CRel.mk fun j v hv => by
    rw [List.getElem?_map] at hv
    cases hb : s.data.toList[j]? with
    | none => rw [hb] at hv; cases hv
    | some b =>
      rw [hb] at hv; cases hv
      refine ⟨.int .u8 b.toNat, ?_, by simp only [VRel]⟩
      have hj := (List.getElem?_eq_some_iff.1 hb).1
      rw [harr, Array.getElem?_append_left (by simpa using hj), Array.getElem?_map]
      rw [Array.getElem?_toList] at hb
      rw [hb]; rfl
  have hone : (s.data.toList.map fun b => AVal.int .u8 b.toNat).all AVal.one = true := by
    rw [List.all_eq_true]; intro y hy; obtain ⟨b, _, rfl⟩ := List.mem_map.1 hy; rfl
  have r2 := r.drew.alloc_at hid hm (.cells arr e (arr.size, arr.size + 1)) ⟨w.heap.size, 0, arr.size, 1⟩ rfl rfl fun ρ' hle' =>
    ⟨rfl, hone, by simp [hsz, has, hge], arr, e, (arr.size, arr.size + 1), heap_alloc_new w.drew _, by simp, .inr (Nat.le_refl _), by simpa using hcrel.mono hle' (ILe.refl _) _ _ _ (fun _ _ e => e)⟩
  refine ⟨_, _, _, hrun, ?_, r2⟩
  simp only [VRel]
  exact ⟨_, _, _, upd_self _ _ _, rfl, Nat.le_refl _, hge, hle, (fun hh => by cases hh), .inr rfl, by simp [has]⟩

theorem heap_freeze (w : World) (b n : Nat) (c : Array Value) (e : TypeId) (lo hi : Nat) (hb : w.heap[b]? = some (.cells c e (lo, hi))) : (w.freeze ⟨b, n, none⟩ 1).heap[b]? = some (.cells c e (if lo == hi then (n, n + 1) else (min lo n, max hi (n + 1)))) := by
  simp [World.freeze, Array.getElem?_modify, hb]

theorem heap_freeze_other (w : World) (b n k : Nat) (h : k ≠ b) : (w.freeze ⟨b, n, none⟩ 1).heap[k]? = w.heap[k]? := by
  simp only [World.freeze, Nat.one_ne_zero, if_false, Array.getElem?_modify]
  rw [if_neg (fun e => h e.symm)]

theorem mark_sound (r : Rel B w0 ρ I σ w) {x v : AVal} {cx : Value} {σ' : St} (h : evalV σ (.mark x) = some (v, σ')) (hx : VRel ρ I x cx) (t e : TypeId) (ht : P.underlying t = some (.slice e)) (he : P.underlying e = some (.int .u8)) :
    Good B w0 ρ I σ ((convert t t cx).run P w) v σ' := by
  simp only [evalV] at h
  split at h
  · rename_i a o len cap tg
    split at h
    · rename_i es vals hm
      split at h
      · rename_i hl
        cases h
        have hx0 := hx
        simp only [VRel] at hx
        obtain ⟨p, ad, cap', hρ, rfl, g1, g2, g3, g4, g5, g6⟩ := hx
        have hc0 : cap' ≠ 0 := by omega
        have had := g5.resolve_left hc0
        subst had
        obtain ⟨b1, b2, b3, c, et, fr, b4, b5, b6, b7⟩ := r.blk a p _ hρ hm
        obtain ⟨lo, hi⟩ := fr
        have hu : (underlying t).run P w = .ok (.slice e) w := by simp [underlying, ht]
        have hu2 : (underlying e).run P w = .ok (.int .u8) w := by simp [underlying, he]
        have hsh : w.shape? p.b = some (et, c.size) := by simp only [World.shape?, b4]
        have hrun : (convert t t (.slice (some ⟨p.b, p.base + o, none⟩) len cap')).run P w = .ok (.slice (some ⟨p.b, p.base + o, none⟩) len cap') (w.freeze ⟨p.b, c.size, none⟩ 1) := by
          simp [convert, hu, hu2, markStringish, hsh]
        refine ⟨_, _, ρ, I, hrun, hx0, ?_, Ext.refl _ _ _⟩
        have hB := r.new a p _ hρ hm rfl
        have hh := heap_freeze w p.b c.size c et lo hi b4
        have hnew : BRel ρ I (w.freeze ⟨p.b, c.size, none⟩ 1) p (.cells es vals) := by
          refine ⟨b1, b2, b3, c, et, _, hh, b5, ?_, b7⟩
          dsimp only at b6
          split
          · exact .inr (Nat.le_refl _)
          · rename_i hne
            have : lo ≠ hi := by simpa using hne
            right
            show c.size ≤ min lo c.size
            rcases b6 with b6 | b6
            · exact absurd b6 this
            · omega
        refine ⟨r.low.upd hB (by simp [World.freeze]) (fun k hk _ => heap_freeze_other w _ _ _ hk) rfl rfl rfl r.base (Nat.le_refl _), by simpa [World.freeze] using r.base, ?_, r.inj, ?_, r.sep, r.new, fun a' p' h' => by simpa [World.freeze] using r.lt a' p' h', r.dom, r.memdom, r.ilow⟩
        · intro a' p' b' h1 h2
          by_cases haa : a' = a
          · subst haa; rw [hρ] at h1; cases h1; rw [hm] at h2; cases h2; exact hnew
          · exact (r.blk a' p' b' h1 h2).world (RLe.refl _) (ILe.refl _) (heap_freeze_other w _ _ _ fun e => r.inj a a' p p' _ b' hρ h1 hm h2 rfl (fun e => haa e.symm) e.symm)
        · refine ⟨?_, r.gok⟩
          intro b' c' hb'
          obtain ⟨e', fr', h1⟩ := r.imm b' c' hb'
          exact ⟨e', fr', (heap_freeze_other w _ _ _ fun e => by rw [e, r.sep a p _ hρ hm rfl] at hb'; cases hb').trans h1⟩
      · cases h
    · cases h
  · cases h

theorem foldl_push (l : List UInt8) : ∀ (acc : ByteArray), l.foldl (fun r b => r.push b) acc = ⟨acc.data ++ l.toArray⟩ := by
  induction l with
  | nil => intro acc; simp
  | cons b l ih =>
    intro acc
    rw [List.foldl_cons, ih]
    congr 1
    apply Array.ext'
    simp [ByteArray.push]

theorem listM_bytes : ∀ {cs : List AVal} {l : List UInt8}, listM byteOfA cs = some l → ∃ ns : List Int, cs = ns.map (AVal.int .u8) ∧ l = ns.map fun n => UInt8.ofNat n.toNat
  | [], l, h => by simp only [listM, Option.some.injEq] at h; subst h; exact ⟨[], rfl, rfl⟩
  | c :: cs, l, h => by
    simp only [listM] at h
    cases hc : byteOfA c with
    | none => rw [hc] at h; cases h
    | some b =>
      rw [hc] at h; simp only [Option.bind_some] at h
      cases hr : listM byteOfA cs with
      | none => rw [hr] at h; cases h
      | some l' =>
        rw [hr] at h; simp only [Option.map_some, Option.some.injEq] at h; subst h
        obtain ⟨ns, h1, h2⟩ := listM_bytes hr
        unfold byteOfA at hc
        split at hc
        · rename_i n
          injection hc with hc
          exact ⟨n :: ns, by simp [h1], by simp [h2, hc]⟩
        · cases hc

theorem bytesStr_sound (r : Rel B w0 ρ I σ w) {x : AVal} {cx : Value} {cs : List AVal} {n : Nat} {l : List UInt8} (h1 : ∀ s, x ≠ .str s) (h2 : srcL σ 1 x = some (cs, n)) (h3 : listM byteOfA cs = some l) (hx : VRel ρ I x cx)
    (src t e : TypeId) (hs : P.underlying src = some (.slice e)) (he : P.underlying e = some (.int .u8)) (ht : P.underlying t = some .string) :
    Good B w0 ρ I σ ((convert src t cx).run P w) (.str ⟨l.toArray⟩) σ := by
  obtain ⟨x1, x2, x3, x4⟩ := srcL_sound (P := P) r h2 hx
  obtain ⟨us, u1, u2, u3⟩ := x4 n (Nat.le_refl _)
  rw [List.take_of_length_le (by omega)] at u2
  obtain ⟨ns, n1, n2⟩ := listM_bytes h3
  have hus : us = ns.map (Value.int .u8) := by
    apply List.ext_getElem?
    intro j
    by_cases hj : j < cs.length
    · have hjn : j < ns.length := by rw [n1] at hj; simpa using hj
      obtain ⟨u, a, b⟩ := u2.get j (.int .u8 ns[j]) (by rw [n1, List.getElem?_map, List.getElem?_eq_getElem hjn]; rfl)
      simp only [VRel] at b; subst b
      rw [a, List.getElem?_map, List.getElem?_eq_getElem hjn]; rfl
    · rw [List.getElem?_eq_none (by omega), List.getElem?_eq_none (by rw [List.length_map]; have := congrArg List.length n1; simp at this; omega)]
  subst hus
  refine .quiet r (cv := .string ⟨l.toArray⟩) ?_ (by simp only [VRel])
  have hsl : ∃ o a c, cx = .slice o a c ∧ (o = none → l = []) ∧ (∀ ad, o = some ad → a = n) := by
    cases x <;> simp only [srcL] at h2 <;> try cases h2
    · exact absurd rfl (h1 _)
    · rename_i a o len cap tg
      simp only [VRel] at hx
      obtain ⟨p, ad, cap', _, rfl, _⟩ := hx
      refine ⟨_, _, _, rfl, (fun h => by cases h), fun _ _ => ?_⟩
      split at h2
      · split at h2 <;> cases h2; rfl
      · split at h2 <;> cases h2; rfl
      · cases h2
    · simp only [VRel] at hx; subst hx
      exact ⟨_, _, _, rfl, (fun _ => by simpa [listM] using h3.symm), (fun _ h => by cases h)⟩
    · simp only [VRel] at hx
      obtain ⟨ad, cap', rfl, _⟩ := hx
      split at h2 <;> cases h2
      exact ⟨_, _, _, rfl, (fun h => by cases h), fun _ _ => rfl⟩
  obtain ⟨o, a, c, rfl, hnil, hsome⟩ := hsl
  rw [run_convert_bytes_string w src t e o a c hs he ht]
  cases o with
  | none =>
    rw [hnil rfl]
    simp only [Conv.bytesToString, Sem.run_pure]; rfl
  | some ad =>
    have ha := hsome ad rfl
    subst ha
    simp only [Builtin.firstCells, Nat.mul_one] at u3
    rw [run_bytesToString w ad a c ns u3]
    have : ns.foldl (fun r n => r.push (UInt8.ofNat n.toNat)) ByteArray.empty = l.foldl (fun r b => r.push b) ByteArray.empty := by
      rw [n2, List.foldl_map]
    rw [this, foldl_push]
    congr 2
    show ByteArray.mk (#[] ++ l.toArray) = _
    simp

theorem idxStr_sound (r : Rel B w0 ρ I σ w) {s : ByteArray} {k : IntKind} {i : Int} {b : UInt8} (h0 : 0 ≤ i) (hb : s.data.toList[i.toNat]? = some b) (t : TypeId) (ht : P.underlying t = some .string) :
    Good B w0 ρ I σ ((Instr.index t (.string s) (.int k i)).run P w) (.int .u8 b.toNat) σ := by
  have hu : (underlying t).run P w = .ok .string w := by simp [underlying, ht]
  refine .quiet r (cv := .int .u8 b.toNat) ?_ (by simp only [VRel])
  have hs : s[i.toNat]? = some b := by
    rw [Array.getElem?_toList] at hb
    have hj := (Array.getElem?_eq_some_iff.1 hb).1
    have : i.toNat < s.size := hj
    rw [getElem?_pos s i.toNat this]
    obtain ⟨_, h⟩ := Array.getElem?_eq_some_iff.1 hb
    exact congrArg some h
  simp [Instr.index, run_asIntOf, hu, h0, hs]

theorem len_sound (r : Rel B w0 ρ I σ w) {k : Nat} {x v : AVal} {cx : Value} {σ' : St} (h : evalV σ (.len k x) = some (v, σ')) (hx : VRel ρ I x cx) (t ty : TypeId) (d : TypeDesc) (ht : P.underlying t = some d)
    (hd : (d = .string ∧ k = 9) ∨ ((∃ e, d = .slice e) ∧ k = 1) ∨ ((∃ k e, d = .map k e) ∧ k = 2)) :
    Good B w0 ρ I σ ((Builtin.len_ #[t] ty #[cx]).run P w) v σ' := by
  have hu : (underlying t).run P w = .ok d w := by simp [underlying, ht]
  rcases hd with ⟨rfl, rfl⟩ | ⟨⟨e, rfl⟩, rfl⟩ | ⟨⟨k, e, rfl⟩, rfl⟩
  · cases x <;> simp [evalV] at h
    obtain ⟨rfl, rfl⟩ := h
    simp only [VRel] at hx; subst hx
    exact .quiet r (cv := .int .i64 _) (by simp [Builtin.len_, hu, goInt]; rfl) (by simp only [VRel])
  · cases x <;> simp [evalV] at h <;> obtain ⟨rfl, rfl⟩ := h <;> simp only [VRel] at hx
    · obtain ⟨p, ad, c, _, rfl, _⟩ := hx
      exact .quiet r (cv := .int .i64 _) (by simp [Builtin.len_, hu, goInt]; rfl) (by simp only [VRel])
    · subst hx
      exact .quiet r (cv := .int .i64 0) (by simp [Builtin.len_, hu, goInt]) (by simp only [VRel])
    · obtain ⟨ad, c, rfl, _⟩ := hx
      exact .quiet r (cv := .int .i64 _) (by simp [Builtin.len_, hu, goInt]; rfl) (by simp only [VRel])
  · cases x <;> simp only [evalV] at h <;> (try (cases h; done))
    all_goals first
      | (simp at h; done)
      | simp only [if_true] at h
    · rename_i a
      cases hm : σ.mem.get a with
      | none => rw [hm] at h; cases h
      | some b =>
        rw [hm] at h
        cases b <;> simp only at h <;> cases h
        rename_i clock ents
        simp only [VRel] at hx
        obtain ⟨p, hρ, rfl⟩ := hx
        obtain ⟨arr, h1, h2, _⟩ := r.blk a p _ hρ hm
        have hg : (getObj p.b).run P w = .ok (.map arr clock) w := by simp [getObj, Sem.run, h1]
        exact .quiet r (cv := .int .i64 arr.size) (by simp [Builtin.len_, hu, goInt, hg]) (by simp only [VRel, h2])
    · cases h
      simp only [VRel] at hx; subst hx
      exact .quiet r (cv := .int .i64 0) (by simp [Builtin.len_, hu, goInt]) (by simp only [VRel])

theorem cap_sound (r : Rel B w0 ρ I σ w) {x v : AVal} {cx : Value} {σ' : St} (h : evalV σ (.cap x) = some (v, σ')) (hx : VRel ρ I x cx) (t ty e : TypeId) (ht : P.underlying t = some (.slice e)) :
    Good B w0 ρ I σ ((Builtin.cap_ #[t] ty #[cx]).run P w) v σ' := by
  have hu : (underlying t).run P w = .ok (.slice e) w := by simp [underlying, ht]
  simp only [evalV] at h
  split at h <;> cases h <;> simp only [VRel] at hx
  · subst hx; exact .quiet r (cv := .int .i64 0) (by simp [Builtin.cap_, hu, goInt]) (by simp only [VRel])
  · obtain ⟨p, ad, c, _, rfl, _, _, _, h4, _⟩ := hx
    rw [← h4 trivial]
    exact .quiet r (cv := .int .i64 _) (by simp [Builtin.cap_, hu, goInt]; rfl) (by simp only [VRel])
  · obtain ⟨ad, c, rfl, _, _, h4, _⟩ := hx
    rw [← h4 trivial]
    exact .quiet r (cv := .int .i64 _) (by simp [Builtin.cap_, hu, goInt]; rfl) (by simp only [VRel])

theorem minmax_sound (r : Rel B w0 ρ I σ w) {b : Bool} {k k' : IntKind} {x y : Int} (ts : Array TypeId) (ty : TypeId) :
    Good B w0 ρ I σ ((if b then Builtin.max_ ts ty #[.int k x, .int k' y] else Builtin.min_ ts ty #[.int k x, .int k' y]).run P w) (.int k (if b then (if y > x then y else x) else (if y < x then y else x))) σ := by
  cases b
  · exact .quiet r (cv := .int k _) (run_min_int2 w ts ty k k' x y) (by simp only [VRel]; rfl)
  · exact .quiet r (cv := .int k _) (run_max_int2 w ts ty k k' x y) (by simp only [VRel]; rfl)

theorem un_sound (r : Rel B w0 ρ I σ w) {op : UnOp} {x v : AVal} {cx : Value} {σ' : St} (h : evalV σ (.un op x) = some (v, σ')) (hx : VRel ρ I x cx) : Good B w0 ρ I σ ((Op.unary op cx).run P w) v σ' := by
  simp only [evalV] at h
  split at h
  · cases h; simp only [VRel] at hx; subst hx
    exact .quiet r (cv := .int _ _) (by simp [Op.unary, Op.intArith]; exact ⟨rfl, rfl⟩) (by simp [VRel])
  · rename_i k n
    simp only [abits, Option.map_some] at h
    injection h with h; injection h with h1 h2; subst h1; subst h2
    simp only [VRel] at hx; subst hx
    refine ⟨_, w, ρ, I, ?_, (by simp only [VRel]; rfl), r, Ext.refl _ _ _⟩
    simp [Op.unary, Op.intBits]
  · cases h; simp only [VRel] at hx; subst hx
    refine ⟨_, w, ρ, I, ?_, (by simp only [VRel]; rfl), r, Ext.refl _ _ _⟩
    simp [Op.unary]
  · cases h

theorem extract_sound (r : Rel B w0 ρ I σ w) {x v : AVal} {cx : Value} {i : Nat} {σ' : St} (h : evalV σ (.extract x i) = some (v, σ')) (hx : VRel ρ I x cx) : Good B w0 ρ I σ ((Instr.extract cx i).run P w) v σ' := by
  simp only [evalV] at h
  split at h
  · rename_i vs
    cases hv : vs[i]? with
    | none => rw [hv] at h; cases h
    | some y =>
      rw [hv] at h; cases h
      simp only [VRel] at hx
      obtain ⟨arr, rfl, h2, h3⟩ := hx
      obtain ⟨u, h4, h5⟩ := h3.get _ _ hv
      exact .quiet r (cv := u) (by simp [Instr.extract, h4]) h5
  · cases h

end
end Go.Proofs.Ytopagbaokokjdaa.AM

/- The abstract machine: the model's operations told as the machine's, and that they do alike. -/
namespace Go.Proofs.Ytopagbaokokjdaa.AM
open Go.RowKit
set_option linter.unusedVariables false
set_option linter.unusedSimpArgs false

def ofVal1 : Value → Option AVal
  | .bool b => some (.bool b)
  | .int k n => some (.int k n)
  | .string s => some (.str s)
  | .pointer none => some .nilp
  | .slice none 0 0 => some .nilsl
  | .map none => some .nilmap
  | .nilFunc => some .nilfn
  | .nilIface => some .niliface
  | _ => none

def ofVal : Value → Option AVal
  | .agg cs => (listM ofVal1 cs.toList).map .agg
  | v => ofVal1 v

theorem ofVal1_rel {v : Value} {a : AVal} (h : ofVal1 v = some a) : KRel a v ∧ a.one = true := by
  unfold ofVal1 at h
  split at h <;> (try (cases h; done)) <;> (injection h with h; subst h) <;> exact ⟨fun ρ I => by simp only [VRel], rfl⟩

theorem listM_get {α β : Type} {f : α → Option β} : ∀ {l : List α} {r : List β}, listM f l = some r → r.length = l.length ∧ ∀ (j : Nat) (y : β), r[j]? = some y → ∃ x, l[j]? = some x ∧ f x = some y
  | [], r, h => by simp only [listM, Option.some.injEq] at h; subst h; exact ⟨rfl, fun j y hy => by simp at hy⟩
  | x :: xs, r, h => by
    simp only [listM] at h
    cases hx : f x with
    | none => rw [hx] at h; cases h
    | some y0 =>
      rw [hx] at h; simp only [Option.bind_some] at h
      cases hr : listM f xs with
      | none => rw [hr] at h; cases h
      | some r' =>
        rw [hr] at h; simp only [Option.map_some, Option.some.injEq] at h; subst h
        obtain ⟨h1, h2⟩ := listM_get hr
        refine ⟨by simp [h1], fun j y hy => ?_⟩
        cases j with
        | zero => simp at hy; subst hy; exact ⟨x, rfl, hx⟩
        | succ j => exact h2 j y (by simpa using hy)

theorem ofVal_rel {v : Value} {a : AVal} (h : ofVal v = some a) : KRel a v := by
  unfold ofVal at h
  split at h
  · rename_i cs
    cases hl : listM ofVal1 cs.toList with
    | none => rw [hl] at h; cases h
    | some l =>
      rw [hl] at h; simp only [Option.map_some, Option.some.injEq] at h; subst h
      obtain ⟨h1, h2⟩ := listM_get hl
      intro ρ I
      simp only [VRel]
      refine ⟨cs, rfl, by simp [h1], ?_, CRel.mk fun j y hy => ?_⟩
      · rw [List.all_eq_true]; intro y hy
        obtain ⟨j, hj, rfl⟩ := List.getElem_of_mem hy
        obtain ⟨x, _, hx⟩ := h2 j _ (List.getElem?_eq_getElem hj)
        exact (ofVal1_rel hx).2
      · obtain ⟨x, hx1, hx⟩ := h2 j y hy
        exact ⟨x, by simpa using hx1, (ofVal1_rel hx).1 ρ I⟩
  · exact (ofVal1_rel h).1

def zeroC (P : Program) (t : TypeId) : Option (List AVal × Nat × Nat) :=
  (P.info? t).bind fun i => i.zero.bind fun z => (ofVal z).bind fun v => if (cellsOf v).length = i.size ∧ (cellsOf v).all AVal.one = true then some (cellsOf v, i.size, i.bytes) else none

theorem zeroC_rel {P : Program} {t : TypeId} {z : List AVal} {n b : Nat} (h : zeroC P t = some (z, n, b)) :
    ∃ i zv, P.info? t = some i ∧ i.zero = some zv ∧ i.size = n ∧ i.bytes = b ∧ z.length = n ∧ z.all AVal.one = true ∧ KCRel z zv.cells := by
  unfold zeroC at h
  cases hi : P.info? t with
  | none => rw [hi] at h; cases h
  | some i =>
    rw [hi] at h; simp only [Option.bind_some] at h
    cases hz : i.zero with
    | none => rw [hz] at h; cases h
    | some zv =>
      rw [hz] at h; simp only [Option.bind_some] at h
      cases hv : ofVal zv with
      | none => rw [hv] at h; cases h
      | some v =>
        rw [hv] at h; simp only [Option.bind_some] at h
        split at h
        · rename_i hc
          simp only [Option.some.injEq, Prod.mk.injEq] at h
          obtain ⟨rfl, rfl, rfl⟩ := h
          have hk := ofVal_rel hv
          refine ⟨i, zv, rfl, hz, rfl, rfl, hc.1, hc.2, ?_, fun ρ I => ?_⟩
          · exact ((hk (fun _ => none) (fun _ => none)).cells hc.2).1.symm
          · simpa using ((hk ρ I).cells hc.2).2
        · cases h

def compOpd : Operand → Option Opd
  | .tmp t => some (.t t)
  | .const v => (ofVal v).map .c
  | .func f => some (.c (.fn f [] []))
  | .global g => (gloTab g).map fun cs => .c (.iptr cs)

def isU8 (P : Program) (t : TypeId) : Bool :=
  match P.underlying t with
  | some (.int .u8) => true
  | _ => false

def compBin (d : TypeDesc) (op : BinOp) (x y : Opd) : Option (AOp Opd) :=
  match d with
  | .bool => match op with
    | .eql => some (.eqb false x y)
    | .neq => some (.eqb true x y)
    | _ => none
  | .int _ => some (.bin op x y)
  | .string => some (.bin op x y)
  | d => (nilKind d).bind fun k => match op with
    | .eql => some (.eqn k false x y)
    | .neq => some (.eqn k true x y)
    | _ => none

def compConv (P : Program) (same : Bool) (ds dd : TypeDesc) (x : Opd) : Option (AOp Opd) :=
  match ds, dd with
  | _, .int k => some (.toInt k x)
  | .string, .string => some (.idStr x)
  | .slice e, .string => if isU8 P e then some (.bytesStr x) else none
  | .string, .slice e => if isU8 P e then some (.strBytes x) else none
  | .slice e, .slice _ => if same && isU8 P e then some (.mark x) else none
  | _, _ => none

def compBuiltin (P : Program) (b : Builtin) (args : List Operand) (ts : List TypeId) : Option (AOp Opd) :=
  match b, args, ts with
  | .len, [x], [t] => (compOpd x).bind fun x => match P.underlying t with
    | some .string => some (.len 9 x)
    | some (.slice _) => some (.len 1 x)
    | some (.map _ _) => some (.len 2 x)
    | _ => none
  | .cap, [x], [t] => (compOpd x).bind fun x => match P.underlying t with
    | some (.slice _) => some (.cap x)
    | _ => none
  | .max, [x, y], _ => (compOpd x).bind fun x => (compOpd y).map fun y => .minmax true x y
  | .min, [x, y], _ => (compOpd x).bind fun x => (compOpd y).map fun y => .minmax false x y
  | .append, [s, x], [t, u] => (compOpd s).bind fun s => (compOpd x).bind fun x => match P.underlying t, P.underlying u with
    | some (.slice e), some d => (zeroC P e).map fun z => if isIntD d then .appendMk z.2.1 z.2.2 z.1 s x else .append z.2.1 z.2.2 s x
    | _, _ => none
  | _, _, _ => none

def compOp (P : Program) : Op → Option (AOp Opd)
  | .move x => (compOpd x).map .mv
  | .assign x => (compOpd x).map .mv
  | .box _ x => (compOpd x).map .box
  | .alloc t => match P.underlying t with
    | some (.array _ _) => none
    | _ => (zeroC P t).map fun z => .alloc z.1
  | .build t parts => match P.underlying t with
    | some (.struct fs) => (zeroC P t).bind fun z => (fs.toList.mapM (fun f => (P.info? f.type).map fun i => (f.offset, i.size))).bind fun places =>
      (listM (fun p : Nat × Operand => (places[p.1]?).bind fun pl => (compOpd p.2).map fun x => (pl.1, pl.2, x)) parts.toList).map (.build z.1)
    | _ => none
  | .buildSlice t n parts => match P.underlying t with
    | some (.slice e) => (zeroC P e).bind fun z => (listM (fun p : Nat × Operand => (compOpd p.2).map fun x => (p.1, x)) parts.toList).map (.buildSl z.2.1 z.1 n)
    | _ => none
  | .load t x => (compOpd x).bind fun x => match P.underlying t with
    | some d => if isAggD d then (P.info? t).map fun i => .ldn i.size x else some (.ld1 x)
    | none => none
  | .store t a v => (compOpd a).bind fun a => (compOpd v).bind fun v => (P.info? t).map fun i => .st i.size a v
  | .nilCheck x => (compOpd x).map .nilCheck
  | .binOp op t x y _ => (compOpd x).bind fun x => (compOpd y).bind fun y => (P.underlying t).bind fun d => compBin d op x y
  | .unOp op _ x => (compOpd x).map (.un op)
  | .convert s t x => (compOpd x).bind fun x => (P.underlying s).bind fun ds => (P.underlying t).bind fun dt => compConv P (s == t) ds dt x
  | .makeInterface t x => (compOpd x).bind fun x => match P.underlying t with
    | some (.interface _) => none
    | some _ => some (.mkIface t x)
    | none => none
  | .makeFunc (.func f) xs ys => (listM compOpd xs.toList).bind fun xs => (listM compOpd ys.toList).map (.mkfn f xs)
  | .makeSlice t l c => (compOpd l).bind fun l => (compOpd c).bind fun c => match P.underlying t with
    | some (.slice e) => (zeroC P e).map fun z => .mkslice z.2.1 z.2.2 z.1 l c
    | _ => none
  | .slice t x lo hi mx => (compOpd x).bind fun x => (optM compOpd lo).bind fun lo => (optM compOpd hi).bind fun hi => (optM compOpd mx).bind fun mx => match P.underlying t with
    | some .string => some (.slice 0 x lo hi mx)
    | some (.slice e) => (P.info? e).bind fun i => if i.size = 0 then none else some (.slice i.size x lo hi mx)
    | _ => none
  | .fieldAddr t x f => (compOpd x).bind fun x => match P.underlying t with
    | some (.struct fs) => (fs[f]?).bind fun fd => (P.info? fd.type).bind fun i => if i.size = 0 then none else some (.fieldAddr fd.offset x)
    | _ => none
  | .field t x f => (compOpd x).bind fun x => match P.underlying t with
    | some (.struct fs) => (fs[f]?).bind fun fd => match P.underlying fd.type with
      | some d => if isAggD d then (P.info? fd.type).map fun i => .fieldn fd.offset i.size x else some (.field1 fd.offset x)
      | none => none
    | _ => none
  | .indexAddr t x i => (compOpd x).bind fun x => (compOpd i).bind fun i => match P.underlying t with
    | some (.slice e) => (P.info? e).map fun inf => .idxAddr inf.size x i
    | _ => none
  | .index t x i => (compOpd x).bind fun x => (compOpd i).bind fun i => match P.underlying t with
    | some .string => some (.idxStr x i)
    | _ => none
  | .extract x i => (compOpd x).map fun x => .extract x i
  | .call { callee := .builtin b, args, argTypes } => compBuiltin P b args.toList argTypes.toList
  | _ => none

abbrev Regs := List (Nat × AVal)

def evalOpd (r : Regs) : Opd → Option AVal
  | .t n => r.lookup n
  | .c v => some v

def RegsRel (ρ : Rho) (I : Imm) (r : Regs) (tmps : Array Value) : Prop := ∀ t v, r.lookup t = some v → ∃ cv, tmps[t]? = some cv ∧ VRel ρ I v cv

theorem opd_sound {ρ : Rho} {I : Imm} {r : Regs} {a : Act} (hG : GOk I) (hr : RegsRel ρ I r a.tmps) {x : Operand} {x' : Opd} {v : AVal} (h : compOpd x = some x') (hv : evalOpd r x' = some v) : VRel ρ I v (a.eval x) := by
  cases x <;> simp only [compOpd] at h
  · injection h with h; subst h
    obtain ⟨cv, h1, h2⟩ := hr _ _ hv
    simp only [Act.eval]
    rw [Array.getD_eq_getD_getElem?, h1]; exact h2
  · rename_i c
    cases hc : ofVal c with
    | none => rw [hc] at h; cases h
    | some a' =>
      rw [hc] at h; simp only [Option.map_some, Option.some.injEq] at h; subst h
      simp only [evalOpd, Option.some.injEq] at hv; subst hv
      exact ofVal_rel hc ρ I
  · rename_i g
    cases hg : gloTab g with
    | none => rw [hg] at h; cases h
    | some cs =>
      rw [hg] at h; simp only [Option.map_some, Option.some.injEq] at h; subst h
      simp only [evalOpd, Option.some.injEq] at hv; subst hv
      exact hG.at ρ hg
  · injection h with h; subst h
    simp only [evalOpd, Option.some.injEq] at hv; subst hv
    simp only [VRel, Act.eval]
    exact ⟨#[], #[], rfl, rfl, rfl, trivial, trivial⟩

end Go.Proofs.Ytopagbaokokjdaa.AM

/- The abstract machine: an operation of the model does what the machine's does. -/
namespace Go.Proofs.Ytopagbaokokjdaa.AM
open Go.RowKit
set_option linter.unusedVariables false
set_option linter.unusedSimpArgs false

def AOp.isSt {α : Type} : AOp α → Bool
  | .st .. => true
  | .mapSet .. => true
  | _ => false

def GoodN (B : Nat) (w0 : Root) (ρ : Rho) (I : Imm) (σ : St) (res : Result Next) (st : Bool) (v : AVal) (σ' : St) : Prop :=
  ∃ w' ρ' I', Rel B w0 ρ' I' σ' w' ∧ Ext ρ I σ ρ' I' σ' ∧ ((∃ cv, res = .ok (.value cv) w' ∧ VRel ρ' I' v cv) ∨ (st = true ∧ res = .ok .skip w'))

section
variable {P : Program} {B : Nat} {w0 : Root} {w : World} {ρ : Rho} {I : Imm} {σ : St}

theorem Good.next {s : Sem Value} {st : Bool} {v : AVal} {σ' : St} (h : Good B w0 ρ I σ (s.run P w) v σ') : GoodN B w0 ρ I σ ((do pure (.value (← s)) : Sem Next).run P w) st v σ' := by
  obtain ⟨cv, w', ρ', I', h1, h2, h3, h4⟩ := h
  exact ⟨w', ρ', I', h3, h4, .inl ⟨cv, by simp [h1], h2⟩⟩

theorem GoodU.next {s : Sem Unit} {v : AVal} {σ' : St} (h : GoodU B w0 ρ I σ (s.run P w) σ') : GoodN B w0 ρ I σ ((do s; pure .skip : Sem Next).run P w) true v σ' := by
  obtain ⟨w', ρ', I', h1, h2, h3⟩ := h
  exact ⟨w', ρ', I', h2, h3, .inr ⟨rfl, by simp [h1]⟩⟩

theorem optM_rel {regs : Regs} {a : Act} (hG : GOk I) (hr : RegsRel ρ I regs a.tmps) {x : Option Operand} {x' : Option Opd} {v : Option AVal} (h : optM compOpd x = some x') (hv : optM (evalOpd regs) x' = some v) :
    (∀ y, v = some y → ∃ z, x.map a.eval = some z ∧ VRel ρ I y z) ∧ (v = none → x.map a.eval = none) := by
  cases x with
  | none =>
    simp only [optM, Option.some.injEq] at h; subst h
    simp only [optM, Option.some.injEq] at hv; subst hv
    exact ⟨fun y hy => (by cases hy), fun _ => rfl⟩
  | some x =>
    simp only [optM, Option.map_eq_some_iff] at h
    obtain ⟨x1, h1, rfl⟩ := h
    simp only [optM, Option.map_eq_some_iff] at hv
    obtain ⟨v1, h2, rfl⟩ := hv
    exact ⟨fun y hy => by cases hy; exact ⟨_, rfl, opd_sound hG hr h1 h2⟩, fun h => (by cases h)⟩

theorem listM_rel {regs : Regs} {a : Act} (hG : GOk I) (hr : RegsRel ρ I regs a.tmps) {xs : List Operand} {xs' : List Opd} {vs : List AVal} (h : listM compOpd xs = some xs') (hv : listM (evalOpd regs) xs' = some vs) :
    vs.length = xs.length ∧ CRel ρ I vs (fun j => (xs.map a.eval)[j]?) := by
  obtain ⟨h1, h2⟩ := listM_get h
  obtain ⟨h3, h4⟩ := listM_get hv
  refine ⟨by omega, CRel.mk fun j v hj => ?_⟩
  obtain ⟨x', e1, e2⟩ := h4 j v hj
  obtain ⟨x, e3, e4⟩ := h2 j x' e1
  exact ⟨a.eval x, by rw [List.getElem?_map, e3]; rfl, opd_sound hG hr e4 e2⟩

theorem builtin_sound {b : Builtin} {args : Array Operand} {ts : Array TypeId} {ao : AOp Opd} {av : AOp AVal} {regs : Regs} {a : Act} {v : AVal} {σ' : St} (hc : compBuiltin P b args.toList ts.toList = some ao) (hm : ao.mapM (evalOpd regs) = some av) (he : evalV σ av = some (v, σ'))
    (hr : RegsRel ρ I regs a.tmps) (r : Rel B w0 ρ I σ w) (ty : TypeId) (cs : Array Bool) : GoodN B w0 ρ I σ ((builtin b ts ty cs (args.map a.eval)).run P w) false v σ' := by
  obtain ⟨args⟩ := args
  obtain ⟨ts⟩ := ts
  simp only at hc
  unfold compBuiltin at hc
  split at hc
  · -- len
    rename_i x t
    simp only [Option.bind_eq_some_iff] at hc
    obtain ⟨x', h1, hc⟩ := hc
    have key : ∀ k d, P.underlying t = some d → ((d = .string ∧ k = 9) ∨ ((∃ e, d = .slice e) ∧ k = 1) ∨ ((∃ k e, d = .map k e) ∧ k = 2)) → ao = .len k x' → GoodN B w0 ρ I σ ((builtin .len #[t] ty cs (#[x].map a.eval)).run P w) false v σ' := by
      intro k d h2 h3 h4
      subst h4
      simp only [AOp.mapM, Option.map_eq_some_iff] at hm
      obtain ⟨xv, h5, rfl⟩ := hm
      simp only [builtin, List.map_toArray, List.map_cons, List.map_nil]
      exact (len_sound (P := P) r he (opd_sound r.gok hr h1 h5) t ty d h2 h3).next
    split at hc <;> (try (cases hc; done)) <;> (injection hc with hc)
    · exact key 9 _ (by assumption) (.inl ⟨rfl, rfl⟩) hc.symm
    · exact key 1 _ (by assumption) (.inr (.inl ⟨⟨_, rfl⟩, rfl⟩)) hc.symm
    · exact key 2 _ (by assumption) (.inr (.inr ⟨⟨_, _, rfl⟩, rfl⟩)) hc.symm
  · -- cap
    rename_i x t
    simp only [Option.bind_eq_some_iff] at hc
    obtain ⟨x', h1, hc⟩ := hc
    split at hc <;> (try (cases hc; done))
    injection hc with hc; subst hc
    simp only [AOp.mapM, Option.map_eq_some_iff] at hm
    obtain ⟨xv, h5, rfl⟩ := hm
    simp only [builtin, List.map_toArray, List.map_cons, List.map_nil]
    exact (cap_sound (P := P) r he (opd_sound r.gok hr h1 h5) t ty _ (by assumption)).next
  · -- max
    rename_i x y _
    simp only [Option.bind_eq_some_iff, Option.map_eq_some_iff] at hc
    obtain ⟨x', h1, y', h2, rfl⟩ := hc
    simp only [AOp.mapM, Option.bind_eq_some_iff, Option.map_eq_some_iff] at hm
    obtain ⟨xv, h3, yv, h4, rfl⟩ := hm
    have e1 := opd_sound r.gok hr h1 h3
    have e2 := opd_sound r.gok hr h2 h4
    simp only [evalV] at he
    split at he <;> cases he
    simp only [VRel] at e1 e2
    simp only [builtin, List.map_toArray, List.map_cons, List.map_nil, e1, e2]
    exact Good.next (by simpa using minmax_sound (P := P) r (b := true) ts.toArray ty)
  · -- min
    rename_i x y _
    simp only [Option.bind_eq_some_iff, Option.map_eq_some_iff] at hc
    obtain ⟨x', h1, y', h2, rfl⟩ := hc
    simp only [AOp.mapM, Option.bind_eq_some_iff, Option.map_eq_some_iff] at hm
    obtain ⟨xv, h3, yv, h4, rfl⟩ := hm
    have e1 := opd_sound r.gok hr h1 h3
    have e2 := opd_sound r.gok hr h2 h4
    simp only [evalV] at he
    split at he <;> cases he
    simp only [VRel] at e1 e2
    simp only [builtin, List.map_toArray, List.map_cons, List.map_nil, e1, e2]
    exact Good.next (by simpa using minmax_sound (P := P) r (b := false) ts.toArray ty)
  · -- append
    rename_i s x t u
    simp only [Option.bind_eq_some_iff] at hc
    obtain ⟨s', h1, x', h2, hc⟩ := hc
    split at hc <;> (try (cases hc; done))
    rename_i e d ht hu
    simp only [Option.map_eq_some_iff] at hc
    obtain ⟨⟨z, n, b⟩, hz, hc⟩ := hc
    obtain ⟨i, zv, z1, z2, z3, z4, z5, z6, z7⟩ := zeroC_rel hz
    split at hc
    · rename_i hd
      subst hc
      simp only [AOp.mapM, Option.bind_eq_some_iff, Option.map_eq_some_iff] at hm
      obtain ⟨sv, h3, xv, h4, rfl⟩ := hm
      simp only [builtin, List.map_toArray, List.map_cons, List.map_nil]
      exact (appendMk_sound (P := P) r he (opd_sound r.gok hr h1 h3) (opd_sound r.gok hr h2 h4) t u ty e i zv d ht z1 z2 z3 z4 z6 z7 hu hd).next
    · rename_i hd
      subst hc
      simp only [AOp.mapM, Option.bind_eq_some_iff, Option.map_eq_some_iff] at hm
      obtain ⟨sv, h3, xv, h4, rfl⟩ := hm
      simp only [builtin, List.map_toArray, List.map_cons, List.map_nil]
      exact (append_sound (P := P) r he (opd_sound r.gok hr h1 h3) (opd_sound r.gok hr h2 h4) t u ty e i zv d ht z1 z2 z3 z4 (by rw [← z7.1, z5]) hu (by simpa using hd)).next
  · cases hc

theorem GoodAt.next {id : Nat} {s : Sem Value} {v : AVal} (h : GoodAt B w0 ρ I σ id (s.run P w) v) : ∃ cv w' p, (do pure (.value (← s)) : Sem Next).run P w = .ok (.value cv) w' ∧ VRel (upd ρ id p) I v cv ∧ Rel B w0 (upd ρ id p) I σ w' := by
  obtain ⟨cv, w', p, h1, h2, h3⟩ := h
  exact ⟨cv, w', p, by simp [h1], h2, h3⟩

set_option maxHeartbeats 2000000 in
/-- An operation that makes a block, done when its name is given already. -/
theorem alloc_op_sound {o : Oper} {ao : AOp Opd} {av : AOp AVal} {regs : Regs} {a : Act} {v : AVal} {bk : Blk} {id : Nat} (hc : compOp P o.op = some ao) (hA : ao.isA = true) (hm : ao.mapM (evalOpd regs) = some av) (he : allocV id av = some (v, bk))
    (hr : RegsRel ρ I regs a.tmps) (hid : ρ id = none) (hmem : σ.mem.get id = some bk) (r : Rel B w0 ρ I σ w) :
    ∃ cv w' p, (execOp a.eval o).run P w = .ok (.value cv) w' ∧ VRel (upd ρ id p) I v cv ∧ Rel B w0 (upd ρ id p) I σ w' := by
  obtain ⟨dst, op, type, pos, after, guard⟩ := o
  simp only at hc
  unfold compOp at hc
  split at hc
  case h_3 =>
    simp only [Option.map_eq_some_iff] at hc
    obtain ⟨x', h1, rfl⟩ := hc
    simp only [AOp.mapM, Option.map_eq_some_iff] at hm
    obtain ⟨xv, h2, rfl⟩ := hm
    simp only [allocV] at he
    split at he <;> cases he
    exact (newVar_at (P := P) r hid hmem (by assumption) (opd_sound r.gok hr h1 h2) _).next
  case h_4 =>
    split at hc
    · cases hc
    simp only [Option.map_eq_some_iff] at hc
    obtain ⟨⟨z, n, b⟩, hz, rfl⟩ := hc
    obtain ⟨i, zv, z1, z2, z3, z4, z5, z6, z7⟩ := zeroC_rel hz
    simp only [AOp.mapM, Option.some.injEq] at hm; subst hm
    simp only [allocV] at he; cases he
    exact (alloc_at (P := P) r hid hmem _ i z1 z2 z6 z7).next
  case h_6 =>
    rename_i t n parts
    split at hc
    · rename_i e ht
      simp only [Option.bind_eq_some_iff, Option.map_eq_some_iff] at hc
      obtain ⟨⟨z, m, b⟩, hz, ps, hps, rfl⟩ := hc
      obtain ⟨i, zv, z1, z2, z3, z4, z5, z6, z7⟩ := zeroC_rel hz
      simp only [AOp.mapM, Option.map_eq_some_iff] at hm
      obtain ⟨vs, hvs, rfl⟩ := hm
      obtain ⟨l1, l2⟩ := listM_get hps
      obtain ⟨l3, l4⟩ := listM_get hvs
      refine (buildSl_at (P := P) r hid (ps := vs) (qs := parts.map fun (i, x) => (i, a.eval x)) he hmem t e ht i z1 z2 z3 z6 z7 (by rw [Array.size_map, ← Array.length_toList]; omega) ?_).next
      intro k x y hx hy
      obtain ⟨x1, e1, e2⟩ := l4 k x hx
      obtain ⟨x2, e3, e4⟩ := l2 k x1 e1
      simp only [Option.map_eq_some_iff] at e2 e4
      obtain ⟨v1, e5, rfl⟩ := e2
      obtain ⟨x3, e7, rfl⟩ := e4
      rw [Array.getElem?_map] at hy
      rw [Array.getElem?_toList] at e3
      rw [e3] at hy; cases hy
      exact ⟨rfl, opd_sound r.gok hr e7 e5⟩
    · cases hc
  case h_12 =>
    rename_i s t x
    simp only [Option.bind_eq_some_iff] at hc
    obtain ⟨x', h1, ds, hs, dt, ht, hc⟩ := hc
    unfold compConv at hc
    split at hc
    · injection hc with hc; subst hc; cases hA
    · injection hc with hc; subst hc; cases hA
    · split at hc <;> (try (cases hc; done))
      injection hc with hc; subst hc; cases hA
    · split at hc <;> (try (cases hc; done))
      rename_i e hu8
      injection hc with hc; subst hc
      simp only [AOp.mapM, Option.map_eq_some_iff] at hm
      obtain ⟨xv, h2, rfl⟩ := hm
      have hx := opd_sound r.gok hr h1 h2
      have hu : P.underlying e = some (.int .u8) := by
        unfold isU8 at hu8
        split at hu8
        · assumption
        · cases hu8
      simp only [allocV] at he
      split at he
      · split at he <;> cases he
        simp only [VRel] at hx
        simp only [execOp, hx]
        exact (strBytes_at (P := P) r hid hmem (by assumption) s t e _ hs ht hu).next
      · cases he
    · split at hc <;> (try (cases hc; done))
      injection hc with hc; subst hc; cases hA
    · cases hc
  case h_15 =>
    rename_i t l c
    simp only [Option.bind_eq_some_iff] at hc
    obtain ⟨l', h1, c', h2, hc⟩ := hc
    split at hc <;> (try (cases hc; done))
    rename_i e ht
    simp only [Option.map_eq_some_iff] at hc
    obtain ⟨⟨z, n, b⟩, hz, rfl⟩ := hc
    obtain ⟨i, zv, z1, z2, z3, z4, z5, z6, z7⟩ := zeroC_rel hz
    simp only [AOp.mapM, Option.bind_eq_some_iff, Option.map_eq_some_iff] at hm
    obtain ⟨lv, h3, cv, h4, rfl⟩ := hm
    exact (mkslice_at (P := P) r hid he hmem (opd_sound r.gok hr h1 h3) (opd_sound r.gok hr h2 h4) t e ht i z1 z2 z3 z4 z6 z7).next
  all_goals exfalso
  all_goals (try unfold compBin at hc)
  all_goals (try unfold compBuiltin at hc)
  all_goals
    repeat' first
      | (cases hc; done)
      | (cases hA; done)
      | (injection hc with hc; subst hc; cases hA; done)
      | (subst hc; cases hA; done)
      | (obtain ⟨_, _, hc⟩ := hc)
      | (split at hc)
      | (simp only [Option.bind_eq_some_iff, Option.map_eq_some_iff] at hc)
      | (unfold compBin at hc)

theorem made_sound {o : Oper} {ao : AOp Opd} {av : AOp AVal} {regs : Regs} {a : Act} {v : AVal} {σ' : St} (hc : compOp P o.op = some ao) (hA : ao.isA = true) (hm : ao.mapM (evalOpd regs) = some av) (he : made σ (allocV σ.next av) = some (v, σ'))
    (hr : RegsRel ρ I regs a.tmps) (r : Rel B w0 ρ I σ w) : GoodN B w0 ρ I σ ((execOp a.eval o).run P w) ao.isSt v σ' := by
  simp only [made, Option.map_eq_some_iff] at he
  obtain ⟨⟨v1, bk⟩, h1, h2⟩ := he
  cases h2
  obtain ⟨cv, w', p, g1, g2, g3⟩ := alloc_op_sound (P := P) (σ := ⟨σ.mem.set σ.next bk, σ.next + 1⟩) hc hA hm h1 hr r.fresh (by simp) (r.addAbs bk)
  exact ⟨w', _, _, g3, ⟨fun a ha => upd_ne _ _ (by omega), ILe.refl _, Nat.le_succ _, fun a ha hn => by dsimp; rw [Mem.get_set_ne _ _ (by omega)]⟩, .inl ⟨cv, g1, g2⟩⟩

set_option maxHeartbeats 2000000 in
theorem op_sound {o : Oper} {ao : AOp Opd} {av : AOp AVal} {regs : Regs} {a : Act} {v : AVal} {σ' : St} (hc : compOp P o.op = some ao) (hm : ao.mapM (evalOpd regs) = some av) (he : evalV σ av = some (v, σ'))
    (hr : RegsRel ρ I regs a.tmps) (r : Rel B w0 ρ I σ w) : GoodN B w0 ρ I σ ((execOp a.eval o).run P w) ao.isSt v σ' := by
  obtain ⟨dst, op, type, pos, after, guard⟩ := o
  simp only at hc
  unfold compOp at hc
  split at hc
  · -- move
    simp only [Option.map_eq_some_iff] at hc
    obtain ⟨x', h1, rfl⟩ := hc
    simp only [AOp.mapM, Option.map_eq_some_iff] at hm
    obtain ⟨xv, h2, rfl⟩ := hm
    simp only [evalV] at he; cases he
    exact ⟨w, ρ, I, r, Ext.refl _ _ _, .inl ⟨_, by simp [execOp], opd_sound r.gok hr h1 h2⟩⟩
  · -- assign
    simp only [Option.map_eq_some_iff] at hc
    obtain ⟨x', h1, rfl⟩ := hc
    simp only [AOp.mapM, Option.map_eq_some_iff] at hm
    obtain ⟨xv, h2, rfl⟩ := hm
    simp only [evalV] at he; cases he
    exact ⟨w, ρ, I, r, Ext.refl _ _ _, .inl ⟨_, by simp [execOp], opd_sound r.gok hr h1 h2⟩⟩
  · -- box
    have hc' := hc
    simp only [Option.map_eq_some_iff] at hc
    obtain ⟨x', h1, rfl⟩ := hc
    have hm' := hm
    simp only [AOp.mapM, Option.map_eq_some_iff] at hm
    obtain ⟨xv, h2, rfl⟩ := hm
    exact made_sound (o := ⟨dst, .box _ _, type, pos, after, guard⟩) (by unfold compOp; exact hc') rfl hm' he hr r
  · -- alloc
    have hc' := hc
    split at hc
    · cases hc
    simp only [Option.map_eq_some_iff] at hc
    obtain ⟨⟨z, n, b⟩, hz, rfl⟩ := hc
    have hm' := hm
    simp only [AOp.mapM, Option.some.injEq] at hm; subst hm
    exact made_sound (o := ⟨dst, .alloc _, type, pos, after, guard⟩) (by unfold compOp; exact hc') rfl hm' he hr r
  · -- build
    rename_i t parts
    split at hc
    · rename_i fs ht
      simp only [Option.bind_eq_some_iff, Option.map_eq_some_iff] at hc
      obtain ⟨⟨z, n, b⟩, hz, places, hp, ps, hps, rfl⟩ := hc
      obtain ⟨i, zv, z1, z2, z3, z4, z5, z6, z7⟩ := zeroC_rel hz
      simp only [AOp.mapM, Option.map_eq_some_iff] at hm
      obtain ⟨vs, hvs, rfl⟩ := hm
      simp only [evalV, Option.map_eq_some_iff] at he
      obtain ⟨cs, hf, he⟩ := he
      cases he
      obtain ⟨l1, l2⟩ := listM_get hps
      obtain ⟨l3, l4⟩ := listM_get hvs
      refine (build_sound (P := P) r (ps := vs) (qs := parts.map fun (i, x) => (i, a.eval x)) hf t fs ht i z1 z2 z6 z7 (by rw [Array.size_map, ← Array.length_toList]; omega) places hp ?_).next
      intro k x y hx hy
      obtain ⟨x1, e1, e2⟩ := l4 k x hx
      obtain ⟨x2, e3, e4⟩ := l2 k x1 e1
      simp only [Option.bind_eq_some_iff, Option.map_eq_some_iff] at e2 e4
      obtain ⟨v1, e5, rfl⟩ := e2
      obtain ⟨pl, e6, x3, e7, rfl⟩ := e4
      rw [Array.getElem?_map] at hy
      rw [Array.getElem?_toList] at e3
      rw [e3] at hy; cases hy
      exact ⟨e6, opd_sound r.gok hr e7 e5⟩
    · cases hc
  · -- buildSlice
    rename_i t n parts
    have hc' := hc
    split at hc
    · rename_i e ht
      simp only [Option.bind_eq_some_iff, Option.map_eq_some_iff] at hc
      obtain ⟨⟨z, m, b⟩, hz, ps, hps, rfl⟩ := hc
      have hm' := hm
      simp only [AOp.mapM, Option.map_eq_some_iff] at hm
      obtain ⟨vs, hvs, rfl⟩ := hm
      exact made_sound (o := ⟨dst, .buildSlice t n parts, type, pos, after, guard⟩) (by unfold compOp; exact hc') rfl hm' he hr r
    · cases hc
  · -- load
    rename_i t x
    simp only [Option.bind_eq_some_iff] at hc
    obtain ⟨x', h1, hc⟩ := hc
    split at hc
    · rename_i d ht
      split at hc
      · rename_i hd
        simp only [Option.map_eq_some_iff] at hc
        obtain ⟨i, hi, rfl⟩ := hc
        simp only [AOp.mapM, Option.map_eq_some_iff] at hm
        obtain ⟨xv, h2, rfl⟩ := hm
        simp only [evalV, Option.map_eq_some_iff] at he
        obtain ⟨cs, hl, he⟩ := he
        cases he
        obtain ⟨cv, e1, e2⟩ := ldn_sound (P := P) r hl (opd_sound r.gok hr h1 h2) t d ht hd i hi rfl
        exact (Good.quiet r e1 e2).next
      · rename_i hd
        injection hc with hc; subst hc
        simp only [AOp.mapM, Option.map_eq_some_iff] at hm
        obtain ⟨xv, h2, rfl⟩ := hm
        simp only [evalV, Option.map_eq_some_iff] at he
        obtain ⟨cs, hl, he⟩ := he
        cases he
        obtain ⟨cv, e1, e2⟩ := ld1_sound (P := P) r hl (opd_sound r.gok hr h1 h2) t d ht (by simpa using hd)
        exact (Good.quiet r e1 e2).next
    · cases hc
  · -- store
    rename_i t x y
    simp only [Option.bind_eq_some_iff, Option.map_eq_some_iff] at hc
    obtain ⟨x', h1, y', h2, i, hi, rfl⟩ := hc
    simp only [AOp.mapM, Option.bind_eq_some_iff, Option.map_eq_some_iff] at hm
    obtain ⟨xv, h3, yv, h4, rfl⟩ := hm
    exact (st_sound (P := P) r he (opd_sound r.gok hr h1 h3) (opd_sound r.gok hr h2 h4) t i hi rfl).next
  · -- nilCheck
    rename_i x
    simp only [Option.map_eq_some_iff] at hc
    obtain ⟨x', h1, rfl⟩ := hc
    simp only [AOp.mapM, Option.map_eq_some_iff] at hm
    obtain ⟨xv, h2, rfl⟩ := hm
    have hx := opd_sound r.gok hr h1 h2
    simp only [evalV] at he
    split at he <;> cases he
    · have hx0 := hx
      simp only [VRel] at hx
      obtain ⟨p, _, hx⟩ := hx
      exact ⟨w, ρ, I, r, Ext.refl _ _ _, .inl ⟨_, by simp only [execOp, hx]; rfl, by rw [← hx]; exact hx0⟩⟩
    · have hx0 := hx
      simp only [VRel] at hx
      obtain ⟨p, hx, _⟩ := hx
      exact ⟨w, ρ, I, r, Ext.refl _ _ _, .inl ⟨_, by simp only [execOp, hx]; rfl, by rw [← hx]; exact hx0⟩⟩
    · have hx0 := hx
      simp only [VRel] at hx
      obtain ⟨p, q, hx, _⟩ := hx
      exact ⟨w, ρ, I, r, Ext.refl _ _ _, .inl ⟨_, by simp only [execOp, hx]; rfl, by rw [← hx]; exact hx0⟩⟩
  · -- binOp
    rename_i op t x y yT
    simp only [Option.bind_eq_some_iff] at hc
    obtain ⟨x', h1, y', h2, d, ht, hc⟩ := hc
    have hbin : ao = .bin op x' y' → GoodN B w0 ρ I σ ((execOp a.eval ⟨dst, .binOp op t x y yT, type, pos, after, guard⟩).run P w) ao.isSt v σ' := by
      intro h; subst h
      simp only [AOp.mapM, Option.bind_eq_some_iff, Option.map_eq_some_iff] at hm
      obtain ⟨xv, h3, yv, h4, rfl⟩ := hm
      simp only [evalV, Option.map_eq_some_iff] at he
      obtain ⟨z, hb, he⟩ := he
      cases he
      exact (bin_sound (P := P) r hb (opd_sound r.gok hr h1 h3) (opd_sound r.gok hr h2 h4) t x y).next
    have heqb : ∀ g, ao = .eqb g x' y' → d = .bool → op = (if g then .neq else .eql) → GoodN B w0 ρ I σ ((execOp a.eval ⟨dst, .binOp op t x y yT, type, pos, after, guard⟩).run P w) ao.isSt v σ' := by
      intro g h hd ho; subst h hd ho
      simp only [AOp.mapM, Option.bind_eq_some_iff, Option.map_eq_some_iff] at hm
      obtain ⟨xv, h3, yv, h4, rfl⟩ := hm
      have e1 := opd_sound r.gok hr h1 h3
      have e2 := opd_sound r.gok hr h2 h4
      simp only [evalV] at he
      split at he <;> cases he
      simp only [VRel] at e1 e2
      have := eqb_sound (P := P) r (g := g) (a := by assumption) (b := by assumption) t ht x y
      simp only [execOp, e1, e2]
      exact (eqb_sound (P := P) r t ht x y).next
    have heqn : ∀ g k, ao = .eqn k g x' y' → nilKind d = some k → op = (if g then .neq else .eql) → GoodN B w0 ρ I σ ((execOp a.eval ⟨dst, .binOp op t x y yT, type, pos, after, guard⟩).run P w) ao.isSt v σ' := by
      intro g k h hd ho; subst h ho
      simp only [AOp.mapM, Option.bind_eq_some_iff, Option.map_eq_some_iff] at hm
      obtain ⟨xv, h3, yv, h4, rfl⟩ := hm
      simp only [evalV, Option.map_eq_some_iff] at he
      obtain ⟨z, hb, he⟩ := he
      cases he
      exact (eqn_sound (P := P) r hb (opd_sound r.gok hr h1 h3) (opd_sound r.gok hr h2 h4) t d ht hd x y).next
    unfold compBin at hc
    split at hc
    · split at hc <;> (try (cases hc; done)) <;> (injection hc with hc)
      · exact heqb false hc.symm rfl rfl
      · exact heqb true hc.symm rfl rfl
    · injection hc with hc; exact hbin hc.symm
    · injection hc with hc; exact hbin hc.symm
    · simp only [Option.bind_eq_some_iff] at hc
      obtain ⟨k, hk, hc⟩ := hc
      split at hc <;> (try (cases hc; done)) <;> (injection hc with hc)
      · exact heqn false k hc.symm hk rfl
      · exact heqn true k hc.symm hk rfl
  · -- unOp
    simp only [Option.map_eq_some_iff] at hc
    obtain ⟨x', h1, rfl⟩ := hc
    simp only [AOp.mapM, Option.map_eq_some_iff] at hm
    obtain ⟨xv, h2, rfl⟩ := hm
    exact (un_sound (P := P) r he (opd_sound r.gok hr h1 h2)).next
  · -- convert
    rename_i s t x
    have hc0 : compOp P (.convert s t x) = some ao := by unfold compOp; exact hc
    have hm0 := hm
    simp only [Option.bind_eq_some_iff] at hc
    obtain ⟨x', h1, ds, hs, dt, ht, hc⟩ := hc
    unfold compConv at hc
    split at hc
    · injection hc with hc; subst hc
      simp only [AOp.mapM, Option.map_eq_some_iff] at hm
      obtain ⟨xv, h2, rfl⟩ := hm
      have e := opd_sound r.gok hr h1 h2
      simp only [evalV] at he
      split at he <;> cases he
      exact (toInt_sound (P := P) r e s t _ hs ht).next
    · injection hc with hc; subst hc
      simp only [AOp.mapM, Option.map_eq_some_iff] at hm
      obtain ⟨xv, h2, rfl⟩ := hm
      have e := opd_sound r.gok hr h1 h2
      simp only [evalV] at he
      split at he <;> cases he
      have e0 := e
      simp only [VRel] at e
      refine (Good.quiet r (cv := .string _) ?_ (by simp only [VRel]; rfl)).next
      rw [e]
      simp [convert, underlying, hs, ht]
    · split at hc <;> (try (cases hc; done))
      rename_i e hu8
      injection hc with hc; subst hc
      simp only [AOp.mapM, Option.map_eq_some_iff] at hm
      obtain ⟨xv, h2, rfl⟩ := hm
      have hx := opd_sound r.gok hr h1 h2
      have hu : P.underlying e = some (.int .u8) := by
        unfold isU8 at hu8
        split at hu8
        · assumption
        · cases hu8
      simp only [evalV] at he
      split at he
      · cases he
      · rename_i hns
        simp only [Option.bind_eq_some_iff, Option.map_eq_some_iff] at he
        obtain ⟨⟨cs, n⟩, e1, l, e2, he⟩ := he
        cases he
        exact (bytesStr_sound (P := P) r hns e1 e2 hx s t e hs hu ht).next
    · split at hc <;> (try (cases hc; done))
      rename_i e hu8
      injection hc with hc; subst hc
      simp only [AOp.mapM, Option.map_eq_some_iff] at hm
      obtain ⟨xv, h2, rfl⟩ := hm
      have hx := opd_sound r.gok hr h1 h2
      have hu : P.underlying e = some (.int .u8) := by
        unfold isU8 at hu8
        split at hu8
        · assumption
        · cases hu8
      exact made_sound (o := ⟨dst, .convert s t x, type, pos, after, guard⟩) hc0 rfl hm0 he hr r
    · rename_i e _
      split at hc <;> (try (cases hc; done))
      rename_i hsu
      simp only [Bool.and_eq_true, beq_iff_eq] at hsu
      obtain ⟨hst, hu8⟩ := hsu
      subst hst
      injection hc with hc; subst hc
      simp only [AOp.mapM, Option.map_eq_some_iff] at hm
      obtain ⟨xv, h2, rfl⟩ := hm
      have hx := opd_sound r.gok hr h1 h2
      have hu : P.underlying e = some (.int .u8) := by
        unfold isU8 at hu8
        split at hu8
        · assumption
        · cases hu8
      exact (mark_sound (P := P) r he hx s e hs hu).next
    · cases hc
  · -- makeInterface
    rename_i t x
    simp only [Option.bind_eq_some_iff] at hc
    obtain ⟨x', h1, hc⟩ := hc
    split at hc <;> (try (cases hc; done))
    rename_i d hni ht
    injection hc with hc; subst hc
    simp only [AOp.mapM, Option.map_eq_some_iff] at hm
    obtain ⟨xv, h2, rfl⟩ := hm
    have hx := opd_sound r.gok hr h1 h2
    simp only [evalV] at he; cases he
    refine (Good.quiet r (cv := .iface t (a.eval x)) (run_makeInterface w t _ ?_) (by simp only [VRel]; exact ⟨_, rfl, hx⟩)).next
    unfold Program.concrete
    rw [ht]
    cases d <;> first | rfl | exact (hni _ rfl).elim
  · -- makeFunc
    rename_i f xs ys
    simp only [Option.bind_eq_some_iff, Option.map_eq_some_iff] at hc
    obtain ⟨xs', h1, ys', h2, rfl⟩ := hc
    simp only [AOp.mapM, Option.bind_eq_some_iff, Option.map_eq_some_iff] at hm
    obtain ⟨vx, h3, vy, h4, rfl⟩ := hm
    simp only [evalV] at he; cases he
    obtain ⟨e1, e2⟩ := listM_rel r.gok hr h1 h3
    obtain ⟨e3, e4⟩ := listM_rel r.gok hr h2 h4
    refine (Good.quiet r (cv := .func (.func f) (xs.map a.eval) (ys.map a.eval)) rfl ?_).next
    simp only [VRel]
    exact ⟨_, _, rfl, by simpa using e1.symm, by simpa using e3.symm, e2.congr fun j _ => by simp, e4.congr fun j _ => by simp⟩
  · -- makeSlice
    rename_i t l c
    have hc' := hc
    simp only [Option.bind_eq_some_iff] at hc
    obtain ⟨l', h1, c', h2, hc⟩ := hc
    split at hc <;> (try (cases hc; done))
    rename_i e ht
    simp only [Option.map_eq_some_iff] at hc
    obtain ⟨⟨z, n, b⟩, hz, rfl⟩ := hc
    have hm' := hm
    simp only [AOp.mapM, Option.bind_eq_some_iff, Option.map_eq_some_iff] at hm
    obtain ⟨lv, h3, cv, h4, rfl⟩ := hm
    exact made_sound (o := ⟨dst, .makeSlice t l c, type, pos, after, guard⟩) (by unfold compOp; exact hc') rfl hm' he hr r
  · -- slice
    rename_i t x lo hi mx
    simp only [Option.bind_eq_some_iff] at hc
    obtain ⟨x', h1, lo', h2, hi', h3, mx', h4, hc⟩ := hc
    have key : ∀ es, ao = .slice es x' lo' hi' mx' → ((es = 0 ∧ P.underlying t = some .string) ∨ (es ≠ 0 ∧ ∃ e i, P.underlying t = some (.slice e) ∧ P.info? e = some i ∧ i.size = es)) →
        GoodN B w0 ρ I σ ((execOp a.eval ⟨dst, .slice t x lo hi mx, type, pos, after, guard⟩).run P w) ao.isSt v σ' := by
      intro es h hes; subst h
      simp only [AOp.mapM, Option.bind_eq_some_iff, Option.map_eq_some_iff] at hm
      obtain ⟨xv, g1, lv, g2, hv, g3, mv, g4, rfl⟩ := hm
      obtain ⟨a1, a2⟩ := optM_rel r.gok hr h2 g2
      obtain ⟨b1, b2⟩ := optM_rel r.gok hr h3 g3
      obtain ⟨c1, c2⟩ := optM_rel r.gok hr h4 g4
      exact (slice_sound (P := P) r he (opd_sound r.gok hr h1 g1) t hes a1 a2 b1 b2 c1 c2).next
    split at hc
    · injection hc with hc; exact key 0 hc.symm (.inl ⟨rfl, by assumption⟩)
    · simp only [Option.bind_eq_some_iff] at hc
      obtain ⟨i, hi, hc⟩ := hc
      split at hc <;> (try (cases hc; done))
      injection hc with hc
      exact key i.size hc.symm (.inr ⟨by assumption, _, i, by assumption, hi, rfl⟩)
    · cases hc
  · -- fieldAddr
    rename_i t x f
    simp only [Option.bind_eq_some_iff] at hc
    obtain ⟨x', h1, hc⟩ := hc
    split at hc <;> (try (cases hc; done))
    rename_i fs ht
    simp only [Option.bind_eq_some_iff] at hc
    obtain ⟨fd, hf, i, hi, hc⟩ := hc
    split at hc <;> (try (cases hc; done))
    injection hc with hc; subst hc
    simp only [AOp.mapM, Option.map_eq_some_iff] at hm
    obtain ⟨xv, h2, rfl⟩ := hm
    exact (fieldAddr_sound (P := P) r he (opd_sound r.gok hr h1 h2) t f fs fd i ht hf hi (by assumption) rfl).next
  · -- field
    rename_i t x f
    simp only [Option.bind_eq_some_iff] at hc
    obtain ⟨x', h1, hc⟩ := hc
    split at hc <;> (try (cases hc; done))
    rename_i fs ht
    simp only [Option.bind_eq_some_iff] at hc
    obtain ⟨fd, hf, hc⟩ := hc
    split at hc <;> (try (cases hc; done))
    rename_i d hd
    split at hc
    · simp only [Option.map_eq_some_iff] at hc
      obtain ⟨i, hi, rfl⟩ := hc
      simp only [AOp.mapM, Option.map_eq_some_iff] at hm
      obtain ⟨xv, h2, rfl⟩ := hm
      exact (fieldn_sound (P := P) r he (opd_sound r.gok hr h1 h2) t f fs fd d i ht hf hd (by assumption) hi rfl rfl).next
    · rename_i hda
      injection hc with hc; subst hc
      simp only [AOp.mapM, Option.map_eq_some_iff] at hm
      obtain ⟨xv, h2, rfl⟩ := hm
      exact (field1_sound (P := P) r he (opd_sound r.gok hr h1 h2) t f fs fd d ht hf hd (by simpa using hda) rfl).next
  · -- indexAddr
    rename_i t x i
    simp only [Option.bind_eq_some_iff] at hc
    obtain ⟨x', h1, i', h2, hc⟩ := hc
    split at hc <;> (try (cases hc; done))
    rename_i e ht
    simp only [Option.map_eq_some_iff] at hc
    obtain ⟨inf, hi, rfl⟩ := hc
    simp only [AOp.mapM, Option.bind_eq_some_iff, Option.map_eq_some_iff] at hm
    obtain ⟨xv, h3, iv, h4, rfl⟩ := hm
    exact (idxAddr_sound (P := P) r he (opd_sound r.gok hr h1 h3) (opd_sound r.gok hr h2 h4) t e inf ht hi rfl).next
  · -- index
    rename_i t x i
    simp only [Option.bind_eq_some_iff] at hc
    obtain ⟨x', h1, i', h2, hc⟩ := hc
    split at hc <;> (try (cases hc; done))
    rename_i ht
    injection hc with hc; subst hc
    simp only [AOp.mapM, Option.bind_eq_some_iff, Option.map_eq_some_iff] at hm
    obtain ⟨xv, h3, iv, h4, rfl⟩ := hm
    have e1 := opd_sound r.gok hr h1 h3
    have e2 := opd_sound r.gok hr h2 h4
    simp only [evalV] at he
    split at he
    · split at he
      · simp only [Option.map_eq_some_iff] at he
        obtain ⟨b, hb, he⟩ := he
        cases he
        simp only [VRel] at e1 e2
        simp only [execOp, e1, e2]
        exact (idxStr_sound (P := P) r (by assumption) hb t ht).next
      · cases he
    · cases he
  · -- extract
    simp only [Option.map_eq_some_iff] at hc
    obtain ⟨x', h1, rfl⟩ := hc
    simp only [AOp.mapM, Option.map_eq_some_iff] at hm
    obtain ⟨xv, h2, rfl⟩ := hm
    exact (extract_sound (P := P) r he (opd_sound r.gok hr h1 h2)).next
  · -- a builtin
    rename_i b args ts
    have hns : ao.isSt = false := by
      unfold compBuiltin at hc
      split at hc <;> (try (cases hc; done)) <;> simp only [Option.bind_eq_some_iff, Option.map_eq_some_iff] at hc
      · obtain ⟨x', _, hc⟩ := hc
        split at hc <;> (try (cases hc; done)) <;> (injection hc with hc; subst hc; rfl)
      · obtain ⟨x', _, hc⟩ := hc
        split at hc <;> (try (cases hc; done)) <;> (injection hc with hc; subst hc; rfl)
      · obtain ⟨x', _, y', _, rfl⟩ := hc; rfl
      · obtain ⟨x', _, y', _, rfl⟩ := hc; rfl
      · obtain ⟨x', _, y', _, hc⟩ := hc
        split at hc <;> (try (cases hc; done))
        simp only [Option.map_eq_some_iff] at hc
        obtain ⟨z, _, hc⟩ := hc
        split at hc <;> (subst hc; rfl)
    rw [hns]
    simp only [execOp, resolve, Sem.run_bind, Sem.run_pure, Result.andThen_ok, invoke]
    exact builtin_sound (P := P) (args := args) (ts := ts) hc hm he hr r type _
  · cases hc

end
end Go.Proofs.Ytopagbaokokjdaa.AM

/- The abstract machine: structs that are compared, keys of maps. -/
namespace Go.Proofs.Ytopagbaokokjdaa.AM
open Go.RowKit
set_option linter.unusedVariables false
set_option linter.unusedSimpArgs false

def shapeL (P : Program) (g : TypeId → Option (List Nat)) : Nat → List Field → Option (List Nat)
  | _, [] => some []
  | off, f :: fs => if f.name = "_" ∨ f.offset ≠ off then none else
      (g f.type).bind fun s => (P.info? f.type).bind fun i => if i.size = s.length then (shapeL P g (off + i.size) fs).map (s ++ ·) else none

/-- Of what kinds a type's cells are, if all of it may be compared. -/
def shapeT (P : Program) : Nat → TypeId → Option (List Nat)
  | 0, _ => none
  | d + 1, t => match P.underlying t with
    | some .bool => some [3]
    | some (.int _) => some [1]
    | some .string => some [2]
    | some (.struct fs) => if P.stoodInHeld t then none else shapeL P (shapeT P d) 0 fs.toList
    | _ => none

def isStr (P : Program) (t : TypeId) : Bool := match P.underlying t with
  | some (.struct _) => true
  | _ => false

section
variable {P : Program} {ρ : Rho} {I : Imm} {w : World}

/-- A value and its cells. -/
def TV (P : Program) (ρ : Rho) (I : Imm) (t : TypeId) (a : Value) (cs : List AVal) : Prop :=
  if isStr P t = true then ∃ arr, a = .agg arr ∧ CRel ρ I cs (fun j => arr[j]?) else ∃ c, cs = [c] ∧ VRel ρ I c a

theorem shapeOk_len : ∀ {ks : List Nat} {cs : List AVal}, shapeOk ks cs = true → cs.length = ks.length
  | [], [], _ => rfl
  | _ :: _, _ :: _, h => by simp only [shapeOk, Bool.and_eq_true] at h; simp [shapeOk_len h.2]
  | [], _ :: _, h => by cases h
  | _ :: _, [], h => by cases h
theorem shapeOk_append : ∀ {a b : List Nat} {cs : List AVal}, shapeOk (a ++ b) cs = true → shapeOk a (cs.take a.length) = true ∧ shapeOk b (cs.drop a.length) = true
  | [], b, cs, h => by simpa [shapeOk] using h
  | _ :: a, b, [], h => by cases h
  | k :: a, b, c :: cs, h => by
    simp only [List.cons_append, shapeOk, Bool.and_eq_true] at h
    have := shapeOk_append h.2
    simp only [List.length_cons, List.take_succ_cons, List.drop_succ_cons, shapeOk, Bool.and_eq_true]
    exact ⟨⟨h.1, this.1⟩, this.2⟩
theorem keysEq_append : ∀ {a b c d : List AVal} {r : Bool}, a.length = b.length → keysEq (a ++ c) (b ++ d) = some r → (keysEq a b = some false ∧ r = false) ∨ (keysEq a b = some true ∧ keysEq c d = some r)
  | [], [], c, d, r, _, h => .inr ⟨rfl, h⟩
  | x :: a, y :: b, c, d, r, hl, h => by
    simp only [List.cons_append, keysEq] at h ⊢
    split at h
    · exact keysEq_append (by simpa using hl) h
    · cases h; exact .inl ⟨rfl, rfl⟩
    · cases h
  | [], _ :: _, _, _, _, hl, _ => by simp at hl
  | _ :: _, [], _, _, _, hl, _ => by simp at hl

theorem shapeL_len {g : TypeId → Option (List Nat)} : ∀ {fs : List Field} {off : Nat} {s : List Nat}, shapeL P g off fs = some s → True := fun _ => trivial

theorem part_TV {d : Nat} {t : TypeId} {s : List Nat} {i : TypeInfo} (hs : shapeT P d t = some s) (hi : P.info? t = some i) (hsz : i.size = s.length) {off : Nat} {xs : Array Value} {cs : List AVal} (hc : CRel ρ I cs (fun j => xs[off + j]?)) (hl : cs.length = s.length) :
    ∃ a, (part t xs off).run P w = .ok a w ∧ TV P ρ I t a cs := by
  cases d with
  | zero => cases hs
  | succ d =>
    simp only [shapeT] at hs
    have one : ∀ k dsc, P.underlying t = some dsc → isAggD dsc = false → (∀ fs, dsc ≠ .struct fs) → s = [k] → ∃ a, (part t xs off).run P w = .ok a w ∧ TV P ρ I t a cs := by
      intro k dsc hu ha hns hk
      subst hk
      obtain ⟨c, rfl⟩ := List.length_eq_one_iff.1 hl
      obtain ⟨u, h1, h2⟩ := hc.get 0 c rfl
      refine ⟨u, run_part_one hu ha h1, ?_⟩
      have : isStr P t = false := by
        simp only [isStr, hu]
        cases dsc <;> first | rfl | exact absurd rfl (hns _)
      rw [TV, this, if_neg (by simp)]
      exact ⟨c, rfl, h2⟩
    split at hs
    · rename_i hu; cases hs; exact one 3 _ hu rfl (fun _ h => by cases h) rfl
    · rename_i hu; cases hs; exact one 1 _ hu rfl (fun _ h => by cases h) rfl
    · rename_i hu; cases hs; exact one 2 _ hu rfl (fun _ h => by cases h) rfl
    · rename_i fs hu
      have ha : (isAgg t).run P w = .ok true w := run_isAgg_true t _ hu rfl
      have hz : (sizeOf t).run P w = .ok i.size w := by simp [sizeOf, typeInfo, hi]
      refine ⟨.agg (xs.extract off (off + i.size)), by simp [part, ha, hz], ?_⟩
      have : isStr P t = true := by simp [isStr, hu]
      rw [TV, this, if_pos rfl]
      refine ⟨_, rfl, hc.congr fun j hj => ?_⟩
      rw [Array.getElem?_extract]
      by_cases hx : off + j < xs.size
      · rw [if_pos (by omega)]
      · obtain ⟨u, h1, _⟩ := hc.get j cs[j] (List.getElem?_eq_getElem hj)
        have := (Array.getElem?_eq_some_iff.1 h1).1
        omega
    · cases hs

def EqRun (P : Program) (d : Nat) (t : TypeId) (s : List Nat) : Prop :=
  ∀ (ρ : Rho) (I : Imm) (D : Nat) (w : World) (a b : Value) (cs ds : List AVal) (r : Bool), TV P ρ I t a cs → TV P ρ I t b ds → shapeOk s cs = true → ds.length = cs.length → keysEq cs ds = some r → (Op.equalIn (D + d) t a b).run P w = .ok r w
def ChkRun (P : Program) (d : Nat) (t : TypeId) (s : List Nat) : Prop :=
  ∀ (ρ : Rho) (I : Imm) (em : Bool) (D : Nat) (w : World) (a : Value) (cs : List AVal), TV P ρ I t a cs → shapeOk s cs = true → (Instr.checkKey em (D + d) t a).run P w = .ok () w

theorem eqFields_run {d : Nat} (ih : ∀ t s, shapeT P d t = some s → EqRun P d t s) (D : Nat) (xs ys : Array Value) : ∀ (fs : List Field) (off : Nat) (s : List Nat) (cs ds : List AVal) (r : Bool) (w : World), shapeL P (shapeT P d) off fs = some s →
    CRel ρ I cs (fun j => xs[off + j]?) → CRel ρ I ds (fun j => ys[off + j]?) → shapeOk s cs = true → ds.length = cs.length → keysEq cs ds = some r → (Op.eqFields (D + d) xs ys fs).run P w = .ok r w
  | [], off, s, cs, ds, r, w, hs, hx, hy, h1, h2, h3 => by
    simp only [shapeL, Option.some.injEq] at hs; subst hs
    have : cs = [] := List.eq_nil_of_length_eq_zero (shapeOk_len h1)
    subst this
    have : ds = [] := List.eq_nil_of_length_eq_zero h2
    subst this
    simp only [keysEq, Option.some.injEq] at h3; subst h3
    simp [Op.eqFields]
  | f :: fs, off, s, cs, ds, r, w, hs, hx, hy, h1, h2, h3 => by
    simp only [shapeL] at hs
    split at hs
    · cases hs
    · rename_i hf
      simp only [not_or, Decidable.not_not] at hf
      simp only [Option.bind_eq_some_iff] at hs
      obtain ⟨s1, hs1, i, hi, hs⟩ := hs
      split at hs
      · rename_i hsz
        simp only [Option.map_eq_some_iff] at hs
        obtain ⟨s2, hs2, rfl⟩ := hs
        have hlc := shapeOk_len h1
        rw [List.length_append] at hlc
        have hap := shapeOk_append h1
        have hc1 : CRel ρ I (cs.take s1.length) (fun j => xs[off + j]?) := hx.take _
        have hd1 : CRel ρ I (ds.take s1.length) (fun j => ys[off + j]?) := hy.take _
        have hc2 : CRel ρ I (cs.drop s1.length) (fun j => xs[off + i.size + j]?) := (hx.drop s1.length).congr fun j _ => by rw [hsz, Nat.add_assoc]
        have hd2 : CRel ρ I (ds.drop s1.length) (fun j => ys[off + i.size + j]?) := (hy.drop s1.length).congr fun j _ => by rw [hsz, Nat.add_assoc]
        obtain ⟨a, pa, ta⟩ := part_TV (w := w) hs1 hi hsz hc1 (by rw [List.length_take]; omega)
        obtain ⟨b, pb, tb⟩ := part_TV (w := w) hs1 hi hsz hd1 (by rw [List.length_take]; omega)
        rw [← List.take_append_drop s1.length cs, ← List.take_append_drop s1.length ds] at h3
        have hne : f.name ≠ "_" := hf.1
        have ho : f.offset = off := hf.2
        rcases keysEq_append (by rw [List.length_take, List.length_take]; omega) h3 with ⟨e1, rfl⟩ | ⟨e1, e2⟩
        · have := ih f.type s1 hs1 ρ I D w a b _ _ false ta tb hap.1 (by rw [List.length_take, List.length_take]; omega) e1
          simp only [Op.eqFields, hne, ne_eq, not_false_eq_true, if_true, Sem.run_bind, ho, pa, pb, this, Result.andThen_ok]
          simp
        · have := ih f.type s1 hs1 ρ I D w a b _ _ true ta tb hap.1 (by rw [List.length_take, List.length_take]; omega) e1
          simp only [Op.eqFields, hne, ne_eq, not_false_eq_true, if_true, Sem.run_bind, ho, pa, pb, this, Result.andThen_ok]
          simpa using eqFields_run ih D xs ys fs (off + i.size) s2 _ _ r w hs2 hc2 hd2 hap.2 (by rw [List.length_drop, List.length_drop]; omega) e2
      · cases hs

theorem keyEq_int {x y : AVal} {r : Bool} (hx : kShape 1 x = true) (h : keyEq x y = some r) : ∃ k a b, x = .int k a ∧ y = .int k b ∧ r = (a == b) := by
  cases x <;> simp [kShape] at hx
  cases y <;> simp only [keyEq] at h <;> first | (cases h; done) | skip
  split at h
  · rename_i hk; subst hk; cases h; exact ⟨_, _, _, rfl, rfl, rfl⟩
  · cases h
theorem keyEq_str {x y : AVal} {r : Bool} (hx : kShape 2 x = true) (h : keyEq x y = some r) : ∃ a b, x = .str a ∧ y = .str b ∧ r = (a == b) := by
  cases x <;> simp [kShape] at hx
  cases y <;> simp only [keyEq] at h <;> first | (cases h; done) | skip
  cases h; exact ⟨_, _, rfl, rfl, rfl⟩
theorem keyEq_bool {x y : AVal} {r : Bool} (hx : kShape 3 x = true) (h : keyEq x y = some r) : ∃ a b, x = .bool a ∧ y = .bool b ∧ r = (a == b) := by
  cases x <;> simp [kShape] at hx
  cases y <;> simp only [keyEq] at h <;> first | (cases h; done) | skip
  cases h; exact ⟨_, _, rfl, rfl, rfl⟩

theorem keysEq_one {x y : AVal} {r : Bool} (h : keysEq [x] [y] = some r) : keyEq x y = some r := by
  simp only [keysEq] at h
  split at h
  · rename_i e; cases h; exact e
  · rename_i e; cases h; exact e
  · cases h

theorem eqT_run : ∀ (d : Nat) (t : TypeId) (s : List Nat), shapeT P d t = some s → EqRun P d t s
  | 0, t, s, h => by cases h
  | d + 1, t, s, h => by
    intro ρ I D w a b cs ds r ta tb h1 h2 h3
    simp only [shapeT] at h
    have one : ∀ k dsc, P.underlying t = some dsc → (∀ fs, dsc ≠ .struct fs) → s = [k] → ∃ x y, cs = [x] ∧ ds = [y] ∧ VRel ρ I x a ∧ VRel ρ I y b ∧ kShape k x = true ∧ keyEq x y = some r := by
      intro k dsc hu hns hk
      subst hk
      have hst : isStr P t = false := by
        simp only [isStr, hu]
        cases dsc <;> first | rfl | exact absurd rfl (hns _)
      rw [TV, hst, if_neg (by simp)] at ta tb
      obtain ⟨x, rfl, hx⟩ := ta
      obtain ⟨y, rfl, hy⟩ := tb
      simp only [shapeOk, Bool.and_eq_true] at h1
      exact ⟨x, y, rfl, rfl, hx, hy, h1.1, keysEq_one h3⟩
    split at h
    · rename_i hu; cases h
      obtain ⟨x, y, rfl, rfl, hx, hy, hk, he⟩ := one 3 _ hu (fun _ h => by cases h) rfl
      obtain ⟨p, q, rfl, rfl, rfl⟩ := keyEq_bool hk he
      simp only [VRel] at hx hy; subst hx hy
      exact run_equalIn_bool' w (D + d) t p q hu
    · rename_i k hu; cases h
      obtain ⟨x, y, rfl, rfl, hx, hy, hk, he⟩ := one 1 _ hu (fun _ h => by cases h) rfl
      obtain ⟨k', p, q, rfl, rfl, rfl⟩ := keyEq_int hk he
      simp only [VRel] at hx hy; subst hx hy
      exact run_equalIn_int w (D + d) t k' k p q hu
    · rename_i hu; cases h
      obtain ⟨x, y, rfl, rfl, hx, hy, hk, he⟩ := one 2 _ hu (fun _ h => by cases h) rfl
      obtain ⟨p, q, rfl, rfl, rfl⟩ := keyEq_str hk he
      simp only [VRel] at hx hy; subst hx hy
      rw [beq_toListBytes]
      exact run_equalIn_string w (D + d) t p q hu
    · rename_i fs hu
      split at h
      · cases h
      · rename_i hp
        have hst : isStr P t = true := by simp [isStr, hu]
        rw [TV, hst, if_pos rfl] at ta tb
        obtain ⟨xs, rfl, hx⟩ := ta
        obtain ⟨ys, rfl, hy⟩ := tb
        have hf : P.fieldsOf t = fs := by simp [Program.fieldsOf, hu]
        rw [show D + (d + 1) = (D + d) + 1 from rfl, run_equalIn_struct w (D + d) t xs ys (by rw [hf]; exact hu) (by simpa using hp), hf]
        exact eqFields_run (eqT_run d) D xs ys fs.toList 0 s cs ds r w h (hx.congr fun j _ => by rw [Nat.zero_add]) (hy.congr fun j _ => by rw [Nat.zero_add]) h1 h2 h3
    · cases h
end
end Go.Proofs.Ytopagbaokokjdaa.AM
