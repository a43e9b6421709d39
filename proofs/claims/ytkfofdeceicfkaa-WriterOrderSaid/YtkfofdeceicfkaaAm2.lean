/- The abstract machine, part 2 of 2: a small machine of values, blocks and code, and the proof that the model does as it does. -/
import Derived.Test.YtkfofdeceicfkaaAm1
import Derived.Orders
import Derived.Deep.LoopGhost
import Derived.ChangeArms
import Derived.DataReads
import Derived.SizedLaws
import Derived.Carry
import Derived.Deep.Slices
import Derived.ChangeShapes
import Derived.WideShapes
/- The abstract machine: regions whose order is open. -/
namespace Go.Proofs.Ytkfofdeceicfkaa.AM
open Go.RowKit
set_option linter.unusedVariables false
set_option linter.unusedSimpArgs false

/-- The operands. -/
def AOp.opsL {α : Type} : AOp α → List α
  | .mv x | .box x | .ld1 x | .ldn _ x | .nilCheck x | .un _ x | .toInt _ x | .strBytes x | .bytesStr x | .idStr x | .mark x | .mkIface _ x | .fieldAddr _ x | .field1 _ x | .fieldn _ _ x | .extract x _ | .len _ x | .cap x => [x]
  | .alloc _ | .mkmap => []
  | .build _ ps => ps.map (·.2.2)
  | .buildSl _ _ _ ps => ps.map (·.2)
  | .st _ x y | .bin _ x y | .eqb _ x y | .eqn _ _ x y | .eqs _ x y | .mkslice _ _ _ x y | .idxAddr _ x y | .idxStr x y | .lookup _ x y _ | .minmax _ x y | .append _ _ x y | .copy _ x y | .delete x y => [x, y]
  | .mkfn _ xs ys => xs ++ ys
  | .slice _ x lo hi mx => [x] ++ lo.toList ++ hi.toList ++ mx.toList
  | .mapSet m k v => [m, k, v]

theorem listM_congr {α β : Type} {f g : α → Option β} : ∀ {l : List α}, (∀ x ∈ l, f x = g x) → listM f l = listM g l
  | [], _ => rfl
  | x :: xs, h => by simp only [listM, h x (by simp), listM_congr (l := xs) fun y hy => h y (by simp [hy])]

theorem optM_congr {α β : Type} {f g : α → Option β} {o : Option α} (h : ∀ x ∈ o.toList, f x = g x) : optM f o = optM g o := by
  cases o with
  | none => rfl
  | some x => simp only [optM, h x (by simp)]

theorem AOp.mapM_congr {α β : Type} {f g : α → Option β} {o : AOp α} (h : ∀ x ∈ o.opsL, f x = g x) : o.mapM f = o.mapM g := by
  cases o
  case build z ps =>
    simp only [AOp.mapM]
    rw [listM_congr fun p hp => by rw [h p.2.2 (by simp only [AOp.opsL, List.mem_map]; exact ⟨p, hp, rfl⟩)]]
  case buildSl es z n ps =>
    simp only [AOp.mapM]
    rw [listM_congr fun p hp => by rw [h p.2 (by simp only [AOp.opsL, List.mem_map]; exact ⟨p, hp, rfl⟩)]]
  case mkfn q xs ys =>
    simp only [AOp.mapM]
    rw [listM_congr (l := xs) fun x hx => h x (by simp [AOp.opsL, hx]), listM_congr (l := ys) fun x hx => h x (by simp [AOp.opsL, hx])]
  case slice es x lo hi mx =>
    simp only [AOp.mapM]
    rw [h x (by simp [AOp.opsL]), optM_congr (o := lo) fun y hy => h y (by simp only [AOp.opsL, List.mem_append]; exact .inl (.inl (.inr hy))), optM_congr (o := hi) fun y hy => h y (by simp only [AOp.opsL, List.mem_append]; exact .inl (.inr hy)),
      optM_congr (o := mx) fun y hy => h y (by simp only [AOp.opsL, List.mem_append]; exact .inr hy)]
  all_goals
    simp only [AOp.mapM]
    first
      | done
      | (rw [h _ (by simp [AOp.opsL])]; done)
      | (rename_i x y; rw [h x (by simp [AOp.opsL]), h y (by simp [AOp.opsL])]; done)
      | (rename_i x y z; rw [h x (by simp [AOp.opsL]), h y (by simp [AOp.opsL]), h z (by simp [AOp.opsL])]; done)
      | (rename_i x y z; rw [h x (by simp [AOp.opsL]), h y (by simp [AOp.opsL])]; done)

def tmpsOf (l : List Opd) : List Nat := l.filterMap fun
  | .t n => some n
  | .c _ => none

def AIns.opsL : AIns → List Opd
  | .op o => o.opsL
  | .pick c a b => [c, a, b]
  | .call f args => f :: args

/-- What an operation reads of the frame. -/
def AOper.names (a : AOper) : List Nat := tmpsOf a.ins.opsL ++ (match a.guard with
  | some (t, _) => [t]
  | none => [])

theorem mem_tmpsOf {l : List Opd} {n : Nat} (h : Opd.t n ∈ l) : n ∈ tmpsOf l := by
  simp only [tmpsOf, List.mem_filterMap]; exact ⟨_, h, rfl⟩

theorem evalOpd_congr {r r' : Regs} {l : List Opd} (h : ∀ t ∈ tmpsOf l, r.lookup t = r'.lookup t) : ∀ x ∈ l, evalOpd r x = evalOpd r' x := by
  intro x hx
  cases x with
  | t n => exact h n (mem_tmpsOf hx)
  | c v => rfl

theorem AIns.wp_congr {P : Program} {i : AIns} {r r' : Regs} {σ : St} {Q : AVal → St → Prop} (h : ∀ t ∈ tmpsOf i.opsL, r.lookup t = r'.lookup t) (hw : i.wp P r σ Q) : i.wp P r' σ Q := by
  have hc := evalOpd_congr h
  cases i with
  | op o =>
    simp only [AIns.wp] at hw ⊢
    rw [← AOp.mapM_congr (f := evalOpd r) (g := evalOpd r') hc]; exact hw
  | pick c a b =>
    simp only [AIns.wp] at hw ⊢
    rw [← hc c (by simp [AIns.opsL]), ← hc a (by simp [AIns.opsL]), ← hc b (by simp [AIns.opsL])]; exact hw
  | call f args =>
    simp only [AIns.wp] at hw ⊢
    rw [← hc f (by simp [AIns.opsL]), ← listM_congr (f := evalOpd r) (g := evalOpd r') fun x hx => hc x (by simp [AIns.opsL, hx])]; exact hw

theorem norm_lookup {keep : List Nat} {r : Regs} {t : Nat} (h : t ∈ keep) : (norm keep r).lookup t = r.lookup t := by
  induction keep with
  | nil => cases h
  | cons k ks ih =>
    simp only [norm, List.filterMap_cons]
    cases hk : r.lookup k with
    | none =>
      simp only [Option.map_none]
      rcases List.mem_cons.1 h with rfl | h
      · rw [hk]
        cases hl : (norm ks r).lookup t with
        | none => exact hl
        | some v => rw [lookup_norm r t v ks hl] at hk; cases hk
      · exact ih h
    | some u =>
      simp only [Option.map_some, List.lookup]
      by_cases e : t = k
      · subst e; simp [hk]
      · have : (t == k) = false := by simpa using e
        rw [this]
        rcases List.mem_cons.1 h with rfl | h
        · exact absurd rfl e
        · exact ih h

/-! ### Kinds of operations -/

def AOp.isE {α : Type} : AOp α → Bool
  | .st .. | .mapSet .. | .append .. | .copy .. | .delete .. => true
  | _ => false

/-- Does what it gives hang on memory? -/
def AOp.reads {α : Type} : AOp α → Bool
  | .ld1 _ | .ldn .. | .slice .. | .len .. | .bytesStr _ | .mark _ | .lookup .. => true
  | _ => false

def AIns.isE : AIns → Bool
  | .op o => o.isE
  | .pick .. => false
  | .call .. => true

def AIns.reads : AIns → Bool
  | .op o => o.reads
  | _ => false

theorem mapM_isE {f : Opd → Option AVal} {o : AOp Opd} {av : AOp AVal} (h : o.mapM f = some av) : av.isE = o.isE ∧ av.isA = o.isA ∧ av.reads = o.reads := by
  cases o <;> simp only [AOp.mapM, Option.bind_eq_some_iff, Option.map_eq_some_iff, Option.some.injEq] at h
  all_goals
    first
      | (subst h; exact ⟨rfl, rfl, rfl⟩)
      | (obtain ⟨_, _, rfl⟩ := h; exact ⟨rfl, rfl, rfl⟩)
      | (obtain ⟨_, _, _, _, rfl⟩ := h; exact ⟨rfl, rfl, rfl⟩)
      | (obtain ⟨_, _, _, _, _, _, rfl⟩ := h; exact ⟨rfl, rfl, rfl⟩)
      | (obtain ⟨_, _, _, _, _, _, _, _, rfl⟩ := h; exact ⟨rfl, rfl, rfl⟩)

theorem evalV_A {σ : St} {av : AOp AVal} (h : av.isA = true) : evalV σ av = made σ (allocV σ.next av) := by
  cases av <;> first | (cases h; done) | rfl

/-- Memory that has all that was there. -/
def MLe (m m' : Mem) : Prop := ∀ a b, m.get a = some b → m'.get a = some b

theorem srcL_mono {σ σ' : St} (h : MLe σ.mem σ'.mem) {es : Nat} {x : AVal} {q : List AVal × Nat} (hs : srcL σ es x = some q) : srcL σ' es x = some q := by
  cases x <;> simp only [srcL] at hs ⊢ <;> first | exact hs | skip
  split at hs
  · rename_i hm; rw [h _ _ hm]; exact hs
  · rename_i hm; rw [h _ _ hm]; exact hs
  · cases hs

theorem quiet_free {av : AOp AVal} (hE : av.isE = false) (hA : av.isA = false) (hr : av.reads = false) : ∃ f : Option AVal, ∀ σ, evalV σ av = f.map fun v => (v, σ) := by
  refine ⟨(evalV ⟨⟨[]⟩, 0⟩ av).map (·.1), fun σ => ?_⟩
  cases av <;> first | (cases hE; done) | (cases hA; done) | (cases hr; done) | skip
  all_goals simp only [evalV]
  case mv x => rfl
  case build z ps => cases fillL z ps <;> rfl
  case nilCheck x => cases x <;> rfl
  case bin op x y => cases abin op x y <;> rfl
  case eqb g x y => cases x <;> first | rfl | (cases y <;> rfl)
  case eqn k g x y => cases aeqn k x y <;> rfl
  case eqs g x y => cases x <;> first | rfl | (cases y <;> first | rfl | (rename_i a b; dsimp only; cases keysEq a b <;> rfl))
  case un op x => cases op <;> cases x <;> first | rfl | (rename_i k n; dsimp only; cases abits .xor k (if k.signed then -1 else k.max) n <;> rfl)
  case toInt k x => cases x <;> rfl
  case idStr x => cases x <;> rfl
  case mkIface t x => rfl
  case mkfn f xs ys => rfl
  case fieldAddr o x => cases x <;> rfl
  case field1 o x => cases x <;> first | rfl | (rename_i cs; dsimp only; cases cs[o]? <;> rfl)
  case fieldn o n x => cases x <;> first | rfl | (rename_i cs; dsimp only; split <;> rfl)
  case idxAddr es x i => cases x <;> first | rfl | (cases i <;> first | rfl | (dsimp only; split <;> rfl))
  case idxStr x i => cases x <;> first | rfl | (cases i <;> first | rfl | (rename_i s k i; dsimp only; split <;> first | rfl | (cases s.data.toList[i.toNat]? <;> rfl)))
  case extract x i => cases x <;> first | rfl | (rename_i cs; dsimp only; cases cs[i]? <;> rfl)
  case cap x => cases x <;> first | rfl | (rename_i e; cases e <;> rfl)
  case minmax b x y => cases x <;> first | rfl | (cases y <;> rfl)

theorem load1_mono {σ σ' : St} (h : MLe σ.mem σ'.mem) {x v : AVal} (hs : load1 σ x = some v) : load1 σ' x = some v := by
  cases x <;> simp only [load1] at hs ⊢ <;> first | exact hs | skip
  split at hs
  · rename_i hm; rw [h _ _ hm]; exact hs
  · rename_i hm; rw [h _ _ hm]; exact hs
  · cases hs

theorem loadL_mono {σ σ' : St} (h : MLe σ.mem σ'.mem) {n : Nat} {x : AVal} {v : List AVal} (hs : loadL σ n x = some v) : loadL σ' n x = some v := by
  cases x <;> simp only [loadL] at hs ⊢ <;> first | exact hs | skip
  split at hs
  · rename_i hm; rw [h _ _ hm]; exact hs
  · rename_i hm; rw [h _ _ hm]; exact hs
  · cases hs

theorem quiet_reads {σ : St} {av : AOp AVal} {v : AVal} {σ1 : St} (hr : av.reads = true) (h : evalV σ av = some (v, σ1)) : σ1 = σ ∧ ∀ σ', MLe σ.mem σ'.mem → evalV σ' av = some (v, σ') := by
  cases av <;> first | (cases hr; done) | skip
  all_goals simp only [evalV] at h ⊢
  case ld1 x =>
    simp only [Option.map_eq_some_iff] at h ⊢
    obtain ⟨a, h1, h2⟩ := h; cases h2
    exact ⟨rfl, fun σ' hm => ⟨_, load1_mono hm h1, rfl⟩⟩
  case ldn n x =>
    simp only [Option.map_eq_some_iff] at h ⊢
    obtain ⟨a, h1, h2⟩ := h; cases h2
    exact ⟨rfl, fun σ' hm => ⟨_, loadL_mono hm h1, rfl⟩⟩
  case bytesStr x =>
    have key : ∀ y : AVal, ((srcL σ 1 y).bind fun r => (listM byteOfA r.1).map fun l => (AVal.str ⟨l.toArray⟩, σ)) = some (v, σ1) → σ1 = σ ∧ ∀ σ' : St, MLe σ.mem σ'.mem → ((srcL σ' 1 y).bind fun r => (listM byteOfA r.1).map fun l => (AVal.str ⟨l.toArray⟩, σ')) = some (v, σ') := by
      intro y h
      simp only [Option.bind_eq_some_iff, Option.map_eq_some_iff] at h
      obtain ⟨q, h1, l, h2, h3⟩ := h; cases h3
      exact ⟨rfl, fun σ' hm => by rw [srcL_mono hm h1]; simp [h2]⟩
    cases x <;> first | (cases h; done) | exact key _ h
  case mark x =>
    cases x <;> simp only at h ⊢ <;> first | (cases h; done) | skip
    rename_i a o len cap t
    cases hb : σ.mem.get a with
    | none => rw [hb] at h; cases h
    | some b =>
      rw [hb] at h
      cases b <;> simp only at h <;> first | (cases h; done) | skip
      split at h
      · rename_i hl
        cases h
        exact ⟨rfl, fun σ' hm => by simp only [hm _ _ hb, hl, if_true]⟩
      · cases h
  case slice es x lo hi mx =>
    split at h
    · rename_i he
      simp only [if_pos he]
      split at h
      · split at h
        · cases h
        · rename_i hm
          simp only [Option.map_eq_some_iff] at h
          obtain ⟨a, h1, h2⟩ := h; cases h2
          exact ⟨rfl, fun σ' _ => by rw [if_neg hm, h1]; rfl⟩
      · cases h
    · rename_i he
      simp only [if_neg he]
      cases x <;> simp only at h ⊢ <;> first | (cases h; done) | skip
      case nilsl =>
        simp only [Option.map_eq_some_iff] at h ⊢
        obtain ⟨a, h1, h2⟩ := h; cases h2
        exact ⟨rfl, fun σ' _ => ⟨a, h1, rfl⟩⟩
      case isl =>
        simp only [Option.map_eq_some_iff] at h ⊢
        obtain ⟨a, h1, h2⟩ := h; cases h2
        exact ⟨rfl, fun σ' _ => ⟨a, h1, rfl⟩⟩
      case sl a o len cap t =>
        cases hb : σ.mem.get a with
        | none => rw [hb] at h; cases h
        | some b =>
          rw [hb] at h
          cases b <;> simp only at h <;> first | (cases h; done) | skip
          all_goals
            split at h
            · rename_i he'
              simp only [Option.map_eq_some_iff] at h
              obtain ⟨q, h1, h2⟩ := h; cases h2
              refine ⟨rfl, fun σ' hm => ?_⟩
              simp only [hm _ _ hb, he', if_true, Option.map_eq_some_iff]
              exact ⟨q, h1, rfl⟩
            · cases h
  case len k x =>
    cases x <;> simp only at h ⊢ <;> first | (cases h; done) | skip
    case map a =>
      split at h
      · rename_i hk
        cases hb : σ.mem.get a with
        | none => rw [hb] at h; cases h
        | some b =>
          rw [hb] at h
          cases b <;> simp only at h <;> first | (cases h; done) | skip
          cases h
          exact ⟨rfl, fun σ' hm => by simp only [hk, if_true, hm _ _ hb]⟩
      · cases h
    all_goals
      split at h
      · rename_i hk
        cases h
        exact ⟨rfl, fun σ' hm => by simp only [hk, if_true]⟩
      · cases h
  case lookup z x k ok =>
    cases x <;> simp only at h ⊢ <;> first | (cases h; done) | skip
    case map a =>
      cases hb : σ.mem.get a with
      | none => rw [hb] at h; cases h
      | some b =>
        rw [hb] at h
        cases b <;> simp only at h <;> first | (cases h; done) | skip
        rename_i ents
        simp only [Option.map_eq_some_iff] at h
        obtain ⟨q, h1, h2⟩ := h
        have : σ1 = σ := by cases q <;> (cases h2; rfl)
        subst this
        refine ⟨rfl, fun σ' hm => ?_⟩
        simp only [hm _ _ hb, Option.map_eq_some_iff]
        refine ⟨q, h1, ?_⟩
        cases q <;> (cases h2; rfl)
    case nilmap =>
      cases k <;> simp only at h ⊢ <;> first | (cases h; done) | skip
      all_goals (cases h; exact ⟨rfl, fun _ _ => rfl⟩)

theorem quiet_eval {σ : St} {av : AOp AVal} {v : AVal} {σ1 : St} (hE : av.isE = false) (hA : av.isA = false) (h : evalV σ av = some (v, σ1)) :
    σ1 = σ ∧ (∀ σ', MLe σ.mem σ'.mem → evalV σ' av = some (v, σ')) ∧ (av.reads = false → ∀ σ', evalV σ' av = some (v, σ')) ∧ (∀ σ' v' σ2, evalV σ' av = some (v', σ2) → σ2 = σ') := by
  cases hr : av.reads with
  | true => exact ⟨(quiet_reads hr h).1, (quiet_reads hr h).2, (fun h => by cases h), fun σ' v' σ2 h2 => (quiet_reads hr h2).1⟩
  | false =>
    obtain ⟨f, hf⟩ := quiet_free hE hA hr
    have hs : ∀ σ' v' σ2, evalV σ' av = some (v', σ2) → σ2 = σ' ∧ f = some v' := by
      intro σ' v' σ2 h2
      rw [hf] at h2
      cases f with
      | none => cases h2
      | some x => cases h2; exact ⟨rfl, rfl⟩
    obtain ⟨h1, h2⟩ := hs _ _ _ h
    subst h2
    exact ⟨h1, fun σ' _ => hf σ', fun _ σ' => hf σ', fun σ' v' σ2 h3 => (hs _ _ _ h3).1⟩

end Go.Proofs.Ytkfofdeceicfkaa.AM

/- The abstract machine: regions whose order is open: any order does alike. -/
namespace Go.Proofs.Ytkfofdeceicfkaa.AM
open Go.RowKit
set_option linter.unusedVariables false
set_option linter.unusedSimpArgs false

def edgesOf (o : Oper) : List Nat := (o.after.toList.filter (Region.binds .any)).map (·.on)

def orAll (anc : List Nat) : List Nat → Nat
  | [] => 0
  | e :: es => (2 ^ e ||| anc.getD e 0) ||| orAll anc es

def ancL (ops : List Oper) : List Nat := ops.foldl (fun acc o => acc ++ [orAll acc (edgesOf o)]) []

/-- An operation as it is told: its place in the region, what it is, what is to be read again behind it. -/
structure Ent where
  idx : Nat
  a : AOper
  rc : List Nat

def pairOk (anc : List Nat) (x y : Nat × Ent) : Bool :=
  let bit := (anc.getD y.2.idx 0).testBit x.2.idx
  (x.2.idx != y.2.idx) && (!x.2.a.ins.isE || bit) &&
  (!((match x.2.a.dst with
    | some d => y.2.a.names.contains d
    | none => false) || (match y.2.a.dst with
    | some d => x.2.a.names.contains d
    | none => false)) || bit) &&
  (match x.2.a.dst, y.2.a.dst with
    | some d, some e => d != e
    | _, _ => true) &&
  (!(y.2.a.ins.isE && !x.2.a.ins.isE && x.2.a.ins.reads) || bit || y.2.rc.contains x.1)

def allPairs {α : Type} (R : α → α → Bool) : List α → Bool
  | [] => true
  | x :: xs => xs.all (R x) && allPairs R xs

def okEnts (ops : List Oper) (es : List Ent) : Bool :=
  let anc := ancL ops
  (ops.length == es.length) && ((List.range ops.length).all fun i => es.any fun e => e.idx == i) &&
  (ops.zipIdx.all fun (o, j) => (edgesOf o).all (· < j)) &&
  (ops.zipIdx.all fun (o, j) => anc.getD j 0 == orAll anc (edgesOf o)) &&
  allPairs (pairOk anc) (es.zipIdx.map fun (e, p) => (p, e))

theorem allPairs_get {α : Type} {R : α → α → Bool} : ∀ {l : List α}, allPairs R l = true → ∀ (p q : Nat) (x y : α), p < q → l[p]? = some x → l[q]? = some y → R x y = true
  | [], _, p, q, x, y, _, hx, _ => by simp at hx
  | a :: l, h, p, q, x, y, hpq, hx, hy => by
    simp only [allPairs, Bool.and_eq_true, List.all_eq_true] at h
    cases q with
    | zero => omega
    | succ q =>
      cases p with
      | zero =>
        simp at hx hy; subst hx
        exact h.1 y (List.mem_of_getElem? hy)
      | succ p => exact allPairs_get h.2 p q x y (by omega) (by simpa using hx) (by simpa using hy)

theorem orAll_bit {anc : List Nat} {i : Nat} : ∀ {es : List Nat}, (orAll anc es).testBit i = true → ∃ e ∈ es, e = i ∨ (anc.getD e 0).testBit i = true
  | [], h => by simp [orAll] at h
  | e :: es, h => by
    simp only [orAll, Nat.testBit_or, Bool.or_eq_true] at h
    rcases h with (h | h) | h
    · refine ⟨e, by simp, .inl ?_⟩
      rw [Nat.testBit_two_pow] at h
      simpa using h
    · exact ⟨e, by simp, .inr h⟩
    · obtain ⟨x, hx, h⟩ := orAll_bit h
      exact ⟨x, by simp [hx], h⟩

/-- What is done is done with all that stands ahead of it. -/
def DC (ops : List Oper) (D : Array Bool) : Prop := ∀ j o, ops[j]? = some o → D.getD j false = true → ∀ e ∈ edgesOf o, D.getD e false = true

theorem DC.anc {ops : List Oper} {D : Array Bool} (h : DC ops D) (h1 : ∀ j o, ops[j]? = some o → ∀ e ∈ edgesOf o, e < j) (h2 : ∀ j o, ops[j]? = some o → (ancL ops).getD j 0 = orAll (ancL ops) (edgesOf o)) :
    ∀ j o, ops[j]? = some o → (∀ e ∈ edgesOf o, D.getD e false = true) → ∀ i, ((ancL ops).getD j 0).testBit i = true → D.getD i false = true := by
  intro j
  induction j using Nat.strongRecOn with
  | _ j ih =>
    intro o ho hd i hi
    rw [h2 j o ho] at hi
    obtain ⟨e, he, hh⟩ := orAll_bit hi
    rcases hh with rfl | hh
    · exact hd _ he
    · have hlt := h1 j o ho e he
      have hel : e < ops.length := by
        have := (List.getElem?_eq_some_iff.1 ho).1; omega
      exact ih e hlt ops[e] (List.getElem?_eq_getElem hel) (fun e' he' => h e _ (List.getElem?_eq_getElem hel) (hd e he) e' he') i hh


structure OkE (ops : List Oper) (es : List Ent) : Prop where
  len : ops.length = es.length
  surj : ∀ i, i < ops.length → ∃ (p : Nat) (e : Ent), es[p]? = some e ∧ e.idx = i
  edge : ∀ j o, ops[j]? = some o → ∀ e ∈ edgesOf o, e < j
  anc : ∀ j o, ops[j]? = some o → (ancL ops).getD j 0 = orAll (ancL ops) (edgesOf o)
  ne : ∀ (p q : Nat) (x y : Ent), p < q → es[p]? = some x → es[q]? = some y → x.idx ≠ y.idx
  eff : ∀ (p q : Nat) (x y : Ent), p < q → es[p]? = some x → es[q]? = some y → x.a.ins.isE = true → ((ancL ops).getD y.idx 0).testBit x.idx = true
  conf : ∀ (p q : Nat) (x y : Ent) (d : Nat), p < q → es[p]? = some x → es[q]? = some y → (x.a.dst = some d ∧ d ∈ y.a.names ∨ y.a.dst = some d ∧ d ∈ x.a.names) → ((ancL ops).getD y.idx 0).testBit x.idx = true
  dst : ∀ (p q : Nat) (x y : Ent) (d : Nat), p < q → es[p]? = some x → es[q]? = some y → x.a.dst = some d → y.a.dst ≠ some d
  rc : ∀ (p q : Nat) (x y : Ent), p < q → es[p]? = some x → es[q]? = some y → y.a.ins.isE = true → x.a.ins.isE = false → x.a.ins.reads = true → ((ancL ops).getD y.idx 0).testBit x.idx = true ∨ p ∈ y.rc

theorem OkE.of {ops : List Oper} {es : List Ent} (h : okEnts ops es = true) : OkE ops es := by
  simp only [okEnts, Bool.and_eq_true, beq_iff_eq] at h
  obtain ⟨⟨⟨⟨h1, h2⟩, h3⟩, h4⟩, h5⟩ := h
  have pr : ∀ (p q : Nat) (x y : Ent), p < q → es[p]? = some x → es[q]? = some y → pairOk (ancL ops) (p, x) (q, y) = true := by
    intro p q x y hpq hx hy
    refine allPairs_get h5 p q _ _ hpq ?_ ?_
    · rw [List.getElem?_map, List.getElem?_zipIdx, hx]; simp
    · rw [List.getElem?_map, List.getElem?_zipIdx, hy]; simp
  refine ⟨h1, ?_, ?_, ?_, ?_, ?_, ?_, ?_, ?_⟩
  · intro i hi
    have := List.all_eq_true.1 h2 i (List.mem_range.2 hi)
    obtain ⟨e, he, hh⟩ := List.any_eq_true.1 this
    obtain ⟨p, hp, rfl⟩ := List.getElem_of_mem he
    exact ⟨p, _, List.getElem?_eq_getElem hp, by simpa using hh⟩
  · intro j o ho e he
    have := List.all_eq_true.1 h3 (o, j) (List.mem_of_getElem? (by rw [List.getElem?_zipIdx, ho]; simp : ops.zipIdx[j]? = some (o, j)))
    simpa using List.all_eq_true.1 this e he
  · intro j o ho
    have := List.all_eq_true.1 h4 (o, j) (List.mem_of_getElem? (by rw [List.getElem?_zipIdx, ho]; simp : ops.zipIdx[j]? = some (o, j)))
    simpa using this
  · intro p q x y hpq hx hy
    have := pr p q x y hpq hx hy
    simp only [pairOk, Bool.and_eq_true, bne_iff_ne] at this
    exact this.1.1.1.1
  · intro p q x y hpq hx hy he
    have := pr p q x y hpq hx hy
    simp only [pairOk, Bool.and_eq_true, Bool.or_eq_true, he] at this
    rcases this.1.1.1.2 with h | h
    · cases h
    · exact h
  · intro p q x y d hpq hx hy hc
    have := pr p q x y hpq hx hy
    simp only [pairOk, Bool.and_eq_true, Bool.or_eq_true] at this
    rcases this.1.1.2 with h | h
    · simp only [Bool.not_eq_true', Bool.or_eq_false_iff] at h
      rcases hc with ⟨c1, c2⟩ | ⟨c1, c2⟩
      · rw [c1] at h; simp at h; exact absurd c2 h.1
      · rw [c1] at h; simp at h; exact absurd c2 h.2
    · exact h
  · intro p q x y d hpq hx hy hd hd'
    have := pr p q x y hpq hx hy
    simp only [pairOk, Bool.and_eq_true, hd, hd'] at this
    simp at this
  · intro p q x y hpq hx hy h1 h2 h3
    have := pr p q x y hpq hx hy
    simp only [pairOk, Bool.and_eq_true, Bool.or_eq_true, h1, h2, h3] at this
    rcases this.2 with (h | h) | h
    · simp at h
    · exact .inl h
    · exact .inr (by simpa using h)

/-- What an operation gives that is told already, and is not done yet. -/
inductive Val (i : AIns) (rp : Regs) (σ : St) (ρ : Rho) (id : Option Nat) (f : Option (St → Prop)) (v : AVal) : Prop where
  | alloc (ao : AOp Opd) (av : AOp AVal) (bk : Blk) (k : Nat) (h0 : id = some k) (h1 : i = .op ao) (h2 : ao.isA = true) (h3 : ao.mapM (evalOpd rp) = some av) (h4 : allocV k av = some (v, bk)) (h5 : ρ k = none) (h6 : σ.mem.get k = some bk)
  | quiet (ao : AOp Opd) (av : AOp AVal) (h1 : i = .op ao) (h2 : ao.isE = false) (h3 : ao.isA = false) (h4 : ao.mapM (evalOpd rp) = some av) (h5 : evalV σ av = some (v, σ)) (h6 : ao.reads = true → ∃ g, f = some g ∧ ∀ σ', g σ' → evalV σ' av = some (v, σ'))
  | pick (c x y : Opd) (b : Bool) (h1 : i = .pick c x y) (h2 : evalOpd rp c = some (.bool b)) (h3 : (if b then evalOpd rp x else evalOpd rp y) = some v)

structure Pend (es : List Ent) (D : Array Bool) (p : Nat) (e : Ent) (c : Nat) (r : Regs) (σ : St) (ρ : Rho) (I : Imm) (id : Option Nat) (h : Hist) (a : Act) : Prop where
  mk ::
  out : ∃ rp : Regs, (∀ t ∈ e.a.names, ∀ v, rp.lookup t = some v → (∀ q x, q < p → es[q]? = some x → x.a.dst = some t → D.getD x.idx false = true) → ∃ cv, a.tmps[t]? = some cv ∧ VRel ρ I v cv) ∧
    (∀ t ∈ e.a.names, (∀ s x, p ≤ s → s < c → es[s]? = some x → x.a.dst ≠ some t) → rp.lookup t = r.lookup t) ∧
    ((∃ t want b, e.a.guard = some (t, want) ∧ rp.lookup t = some (.bool b) ∧ b ≠ want ∧ ∀ d, e.a.dst = some d → r.lookup d = none) ∨
     ((e.a.guard = none ∨ ∃ t want, e.a.guard = some (t, want) ∧ rp.lookup t = some (.bool want)) ∧ ∃ v, (∀ d, e.a.dst = some d → r.lookup d = some v) ∧ Val e.a.ins rp σ ρ id h[p]? v))

structure DInv (nt : Nat) (B : Nat) (w0 : Root) (ρ0 : Rho) (I0 : Imm) (σ0 : St) (ops : List Oper) (es : List Ent) (c : Nat) (D : Array Bool) (r : Regs) (σ : St) (h : Hist) (ρ : Rho) (I : Imm) (ids : Nat → Option Nat) (a : Act) (w : World) : Prop where
  dc : DC ops D
  eff1 : ∀ p e, p < c → es[p]? = some e → e.a.ins.isE = true → D.getD e.idx false = true
  eff2 : ∀ p e, c ≤ p → es[p]? = some e → D.getD e.idx false = false
  dsz : D.size = ops.length
  rel : Rel B w0 ρ I σ w
  ext : Ext ρ0 I0 σ0 ρ I σ
  regs : ∀ t v, r.lookup t = some v → (∀ q x, q < c → es[q]? = some x → x.a.dst = some t → D.getD x.idx false = true) → ∃ cv, a.tmps[t]? = some cv ∧ VRel ρ I v cv
  pend : ∀ p e, p < c → es[p]? = some e → D.getD e.idx false = false → Pend es D p e c r σ ρ I (ids p) h a
  ids1 : ∀ p k, p < c → ids p = some k → k < σ.next ∧ σ0.next ≤ k
  ids2 : ∀ p q k, p < q → q < c → ids p = some k → ids q ≠ some k
  defers : a.defers = []
  size : a.tmps.size = nt
  hlen : h.length = c
  cle : c ≤ es.length

end Go.Proofs.Ytkfofdeceicfkaa.AM

/- The abstract machine: regions whose order is open: the steps. -/
namespace Go.Proofs.Ytkfofdeceicfkaa.AM
open Go.RowKit
set_option linter.unusedVariables false
set_option linter.unusedSimpArgs false

section
variable {P : Program} {nt : Nat} {B : Nat} {w0 : Root} {ρ0 : Rho} {I0 : Imm} {σ0 : St} {ops : List Oper} {es : List Ent}

theorem lookup_setR_ne {r : Regs} {d : Option Nat} {v : AVal} {t : Nat} (h : d ≠ some t) : (setR r d v).lookup t = r.lookup t := by
  cases d with
  | none => rfl
  | some x =>
    simp only [setR, List.lookup]
    have : (t == x) = false := by simp; intro e; exact h (by rw [e])
    rw [this]

theorem lookup_setR_self {r : Regs} {d : Nat} {v : AVal} : (setR r (some d) v).lookup d = some v := by simp [setR]

theorem lookup_delR_ne {r : Regs} {d : Option Nat} {t : Nat} (h : d ≠ some t) : (delR r d).lookup t = r.lookup t := by
  cases d with
  | none => rfl
  | some x => simp only [delR]; rw [lookup_filter_ne, if_neg (fun e => h (by rw [e]))]

theorem lookup_delR_self {r : Regs} {d : Nat} : (delR r (some d)).lookup d = none := by simp only [delR]; rw [lookup_filter_ne, if_pos rfl]

theorem MLe.refl (m : Mem) : MLe m m := fun _ _ h => h

theorem Val.mem {i : AIns} {rp : Regs} {σ σ' : St} {ρ : Rho} {id : Option Nat} {f : Option (St → Prop)} {v : AVal} (h : Val i rp σ ρ id f v) (hm : MLe σ.mem σ'.mem) : Val i rp σ' ρ id f v := by
  cases h with
  | alloc ao av bk k h0 h1 h2 h3 h4 h5 h6 => exact .alloc ao av bk k h0 h1 h2 h3 h4 h5 (hm _ _ h6)
  | quiet ao av h1 h2 h3 h4 h5 h6 =>
    obtain ⟨e1, e2, e3⟩ := mapM_isE h4
    exact .quiet ao av h1 h2 h3 h4 ((quiet_eval (by rw [e1, h2]) (by rw [e2, h3]) h5).2.1 σ' hm) h6
  | pick c x y b h1 h2 h3 => exact .pick c x y b h1 h2 h3

theorem hist_append {h : Hist} {f : St → Prop} {p : Nat} (hp : p < h.length) : (h ++ [f])[p]? = h[p]? := List.getElem?_append_left hp

/-- An operation that does no more than read, or make a block, is told ahead of its time. -/
theorem DInv.sat {c : Nat} {D : Array Bool} {r : Regs} {σ : St} {h : Hist} {ρ : Rho} {I : Imm} {ids : Nat → Option Nat} {a : Act} {w : World} {Q : Regs → St → Prop} (ok : OkE ops es) (iv : DInv nt B w0 ρ0 I0 σ0 ops es c D r σ h ρ I ids a w) {e : Ent} (he : es[c]? = some e) (hE : e.a.ins.isE = false)
    (hw : dwp P ((es.drop c).map fun e => (e.a, e.rc)) r σ h Q) :
    ∃ r' σ' h' ids', DInv nt B w0 ρ0 I0 σ0 ops es (c + 1) D r' σ' h' ρ I ids' a w ∧ dwp P ((es.drop (c + 1)).map fun e => (e.a, e.rc)) r' σ' h' Q := by
  have hc : c < es.length := (List.getElem?_eq_some_iff.1 he).1
  have hdrop : es.drop c = e :: es.drop (c + 1) := by
    rw [List.drop_eq_getElem_cons hc]; congr 1; exact (List.getElem?_eq_some_iff.1 he).2
  rw [hdrop] at hw
  simp only [List.map_cons, dwp] at hw
  have hnD : D.getD e.idx false = false := iv.eff2 c e (Nat.le_refl _) he
  -- what is common
  have common : ∀ (r' : Regs) (σ' : St) (ids' : Nat → Option Nat) (f : St → Prop), (∀ t, e.a.dst ≠ some t → r'.lookup t = r.lookup t) → Rel B w0 ρ I σ' w → Ext ρ0 I0 σ0 ρ I σ' → MLe σ.mem σ'.mem →
      (∀ p, p < c → ids' p = ids p) → (∀ p k, p < c + 1 → ids' p = some k → k < σ'.next ∧ σ0.next ≤ k) → (∀ p q k, p < q → q < c + 1 → ids' p = some k → ids' q ≠ some k) →
      (((∃ t want b, e.a.guard = some (t, want) ∧ r.lookup t = some (.bool b) ∧ b ≠ want ∧ ∀ d, e.a.dst = some d → r'.lookup d = none) ∨
        ((e.a.guard = none ∨ ∃ t want, e.a.guard = some (t, want) ∧ r.lookup t = some (.bool want)) ∧ ∃ v, (∀ d, e.a.dst = some d → r'.lookup d = some v) ∧ Val e.a.ins r σ' ρ (ids' c) (some f) v))) →
      DInv nt B w0 ρ0 I0 σ0 ops es (c + 1) D r' σ' (h ++ [f]) ρ I ids' a w := by
    intro r' σ' ids' f hr hrel hext hm hi1 hi2 hi3 hout
    refine ⟨iv.dc, ?_, ?_, iv.dsz, hrel, hext, ?_, ?_, hi2, hi3, iv.defers, iv.size, by simp [iv.hlen], hc⟩
    · intro p x hp hx hxE
      rcases Nat.lt_succ_iff_lt_or_eq.1 hp with hp | rfl
      · exact iv.eff1 p x hp hx hxE
      · rw [he] at hx; cases hx; rw [hE] at hxE; cases hxE
    · intro p x hp hx; exact iv.eff2 p x (by omega) hx
    · intro t v hv hall
      have ht : e.a.dst ≠ some t := fun hd => by
        have := hall c e (Nat.lt_succ_self _) he hd
        rw [hnD] at this; cases this
      rw [hr t ht] at hv
      exact iv.regs t v hv fun q x hq hx hd => hall q x (by omega) hx hd
    · intro p x hp hx hD
      rcases Nat.lt_succ_iff_lt_or_eq.1 hp with hp | rfl
      · obtain ⟨rp, g1, g2, g3⟩ := (iv.pend p x hp hx hD).out
        have hdne : ∀ d, x.a.dst = some d → e.a.dst ≠ some d := fun d hd => ok.dst p c x e d hp hx he hd
        refine ⟨rp, g1, fun t ht hs => ?_, ?_⟩
        · have h1 := g2 t ht fun s y hs1 hs2 hy => hs s y hs1 (by omega) hy
          rw [h1, hr t (hs c e (by omega) (Nat.lt_succ_self _) he)]
        · rcases g3 with ⟨t, want, b, k1, k2, k3, k4⟩ | ⟨k1, v, k2, k3⟩
          · exact .inl ⟨t, want, b, k1, k2, k3, fun d hd => by rw [hr d (hdne d hd)]; exact k4 d hd⟩
          · refine .inr ⟨k1, v, fun d hd => by rw [hr d (hdne d hd)]; exact k2 d hd, ?_⟩
            rw [hist_append (by rw [iv.hlen]; exact hp), hi1 p hp]
            exact k3.mem hm
      · rw [he] at hx; cases hx
        refine ⟨r, fun t ht v hv hall => ?_, fun t ht hs => ?_, ?_⟩
        · exact iv.regs t v hv fun q y hq hy hd => hall q y hq hy hd
        · rw [hr t (hs p e (Nat.le_refl _) (Nat.lt_succ_self _) he)]
        · have hl : (h ++ [f])[p]? = some f := by rw [List.getElem?_append_right (by rw [iv.hlen]; exact Nat.le_refl _), iv.hlen]; simp
          rw [hl]; exact hout
  let idn : Nat → Option Nat := fun p => if p = c then none else ids p
  have idnn : ∀ p, p < c → idn p = ids p := fun p hp => if_neg (by omega)
  have idn1 : ∀ p k, p < c + 1 → idn p = some k → k < σ.next ∧ σ0.next ≤ k := fun p k hp hk => by
    by_cases hpc : p = c
    · simp [idn, hpc] at hk
    · exact iv.ids1 p k (by omega) (by rw [← idnn p (by omega)]; exact hk)
  have idn2 : ∀ p q k, p < q → q < c + 1 → idn p = some k → idn q ≠ some k := fun p q k hpq hq hk => by
    by_cases hqc : q = c
    · simp [idn, hqc]
    · rw [idnn q (by omega)]; exact iv.ids2 p q k hpq (by omega) (by rw [← idnn p (by omega)]; exact hk)
  -- carried out
  have exec : (e.a.guard = none ∨ ∃ t want, e.a.guard = some (t, want) ∧ r.lookup t = some (.bool want)) →
      (e.a.ins.wp P r σ fun v σ' => again h σ' e.rc ∧ dwp P ((es.drop (c + 1)).map fun e => (e.a, e.rc)) (setR r e.a.dst v) σ' (h ++ [histOf e.a.ins r σ]) Q) →
      ∃ r' σ' h' ids', DInv nt B w0 ρ0 I0 σ0 ops es (c + 1) D r' σ' h' ρ I ids' a w ∧ dwp P ((es.drop (c + 1)).map fun e => (e.a, e.rc)) r' σ' h' Q := by
    intro hg hw
    cases hi : e.a.ins with
    | call f args => rw [hi] at hE; cases hE
    | pick cc x y =>
      rw [hi] at hw
      simp only [AIns.wp] at hw
      split at hw
      · rename_i b hb
        split at hw
        · rename_i v hv
          refine ⟨_, _, _, idn, common (setR r e.a.dst v) σ idn (histOf (.pick cc x y) r σ) (fun t ht => lookup_setR_ne ht) iv.rel iv.ext (MLe.refl _) idnn idn1 idn2 (.inr ⟨hg, v, fun d hd => by rw [hd]; exact lookup_setR_self, ?_⟩), hw.2⟩
          rw [hi]; exact .pick cc x y b rfl hb hv
        · exact hw.elim
      · exact hw.elim
    | op ao =>
      have hE' : ao.isE = false := by rw [hi] at hE; exact hE
      rw [hi] at hw
      simp only [AIns.wp] at hw
      split at hw
      · rename_i v σ1 hev
        simp only [Option.bind_eq_some_iff] at hev
        obtain ⟨av, hm, hv⟩ := hev
        obtain ⟨e1, e2, e3⟩ := mapM_isE hm
        cases hA : ao.isA with
        | true =>
          rw [evalV_A (by rw [e2, hA])] at hv
          simp only [made, Option.map_eq_some_iff] at hv
          obtain ⟨⟨v', bk⟩, ha, hv⟩ := hv
          cases hv
          have hmle : MLe σ.mem (σ.mem.set σ.next bk) := fun x b hb => by
            rw [Mem.get_set_ne _ _ (fun e => by rw [e, iv.rel.memfresh] at hb; cases hb)]; exact hb
          refine ⟨_, _, _, fun p => if p = c then some σ.next else ids p, common (setR r e.a.dst v') ⟨σ.mem.set σ.next bk, σ.next + 1⟩ (fun p => if p = c then some σ.next else ids p) (histOf (.op ao) r σ) (fun t ht => lookup_setR_ne ht) (iv.rel.addAbs bk) (iv.ext.trans (Ext.addAbs bk)) hmle
            (fun p hp => if_neg (by omega)) ?_ ?_ (.inr ⟨hg, v', fun d hd => by rw [hd]; exact lookup_setR_self, ?_⟩), hw.2⟩
          · intro p k hp hk
            by_cases hpc : p = c
            · rw [if_pos hpc] at hk; cases hk; exact ⟨Nat.lt_succ_self _, iv.ext.next⟩
            · rw [if_neg hpc] at hk
              have := iv.ids1 p k (by omega) hk
              exact ⟨Nat.lt_succ_of_lt this.1, this.2⟩
          · intro p q k hpq hq hk
            rw [if_neg (by omega)] at hk
            by_cases hqc : q = c
            · rw [if_pos hqc]
              have := iv.ids1 p k (by omega) hk
              intro hh; cases hh; omega
            · rw [if_neg hqc]
              exact iv.ids2 p q k hpq (by omega) hk
          · rw [hi]; simp only [if_true]
            exact .alloc ao av bk _ rfl rfl hA hm ha iv.rel.fresh (by simp)
        | false =>
          obtain ⟨q1, q2, q3, q4⟩ := quiet_eval (by rw [e1, hE']) (by rw [e2, hA]) hv
          subst q1
          refine ⟨_, _, _, idn, common (setR r e.a.dst v) σ1 idn (histOf (.op ao) r σ1) (fun t ht => lookup_setR_ne ht) iv.rel iv.ext (MLe.refl _) idnn idn1 idn2 (.inr ⟨hg, v, fun d hd => by rw [hd]; exact lookup_setR_self, ?_⟩), hw.2⟩
          · rw [hi]
            refine .quiet ao av rfl hE' hA hm hv fun _ => ⟨_, rfl, fun σ' hg' => ?_⟩
            simp only [histOf, hm, hv, Option.map_some, Option.map_eq_some_iff] at hg'
            obtain ⟨⟨v2, σ2⟩, k1, k2⟩ := hg'
            dsimp only at k2; subst k2
            have := q4 σ' _ σ2 k1
            rw [k1, this]
      · exact hw.elim
  cases hgd : e.a.guard with
  | none =>
    rw [hgd] at hw
    exact exec (.inl hgd) hw
  | some g =>
    obtain ⟨t, want⟩ := g
    rw [hgd] at hw
    simp only at hw
    split at hw
    · rename_i b hb
      by_cases hbw : b = want
      · rw [if_pos hbw] at hw
        exact exec (.inr ⟨t, want, hgd, by rw [hb, hbw]⟩) hw
      · rw [if_neg hbw] at hw
        exact ⟨_, _, _, idn, common (delR r e.a.dst) σ idn (fun _ => True) (fun t ht => lookup_delR_ne ht) iv.rel iv.ext (MLe.refl _) idnn idn1 idn2 (.inl ⟨t, want, b, hgd, hb, hbw, fun d hd => by rw [hd]; exact lookup_delR_self⟩), hw⟩
    · exact hw.elim

end
end Go.Proofs.Ytkfofdeceicfkaa.AM

/- The abstract machine: regions whose order is open: an effect; what is told already. -/
namespace Go.Proofs.Ytkfofdeceicfkaa.AM
open Go.RowKit
set_option linter.unusedVariables false
set_option linter.unusedSimpArgs false

section
variable {P : Program} {nt : Nat} {B : Nat} {w0 : Root} {ρ0 : Rho} {I0 : Imm} {σ0 : St} {A : Array Oper} {es : List Ent}

theorem getD_set (D : Array Bool) (i j : Nat) (hi : i < D.size) : (D.setIfInBounds i true).getD j false = if j = i then true else D.getD j false := by
  simp only [Array.getD_eq_getD_getElem?]
  by_cases h : j = i
  · subst h; rw [Array.getElem?_setIfInBounds_self]; simp [hi]
  · rw [Array.getElem?_setIfInBounds_ne (fun e => h e.symm), if_neg h]

theorem compOper_spec {ops : List Oper} {o : Oper} {a : AOper} (h : compOper P nt ops o = some a) : ∃ ins, compIns P o = some ins ∧ a.ins = ins ∧ a.dst = o.dst ∧ (∀ x, o.dst = some x → x < nt) ∧
    ((o.guard = none ∧ a.guard = none) ∨ ∃ j w t, o.guard = some (j, w) ∧ (ops[j]?).bind (·.dst) = some t ∧ a.guard = some (t, w)) := by
  simp only [compOper, Option.bind_eq_some_iff, Option.ite_none_right_eq_some] at h
  obtain ⟨ins, h1, h2, h3⟩ := h
  refine ⟨ins, h1, ?_⟩
  have hd : ∀ x, o.dst = some x → x < nt := by
    intro x hx; rw [hx] at h2; simpa using h2
  split at h3
  · rename_i hg
    injection h3 with h3; subst h3
    exact ⟨rfl, rfl, hd, .inl ⟨hg, rfl⟩⟩
  · rename_i j w hg
    simp only [Option.map_eq_some_iff] at h3
    obtain ⟨t, h4, h3⟩ := h3
    subst h3
    exact ⟨rfl, rfl, hd, .inr ⟨j, w, t, hg, h4, rfl⟩⟩

/-- The parts of what is still to be done, when one more is done. -/
theorem DInv.done {c c' : Nat} {D : Array Bool} {r : Regs} {σ : St} {h : Hist} {ρ : Rho} {I : Imm} {ids : Nat → Option Nat} {a : Act} {w : World} (ok : OkE A.toList es) (iv : DInv nt B w0 ρ0 I0 σ0 A.toList es c D r σ h ρ I ids a w) {p : Nat} {e : Ent} (he : es[p]? = some e) (hp : p < c') (hpc : p ≤ c)
    {o : Oper} (ho : A.toList[e.idx]? = some o) (hready : ∀ x ∈ edgesOf o, D.getD x false = true) :
    DC A.toList (D.setIfInBounds e.idx true) ∧ (∀ j, (D.setIfInBounds e.idx true).getD j false = if j = e.idx then true else D.getD j false) ∧ (D.setIfInBounds e.idx true).size = A.toList.length ∧
    (∀ i, ((ancL A.toList).getD e.idx 0).testBit i = true → D.getD i false = true) ∧ (∀ q x, q ≠ p → es[q]? = some x → x.idx ≠ e.idx) := by
  have hlt : e.idx < D.size := by rw [iv.dsz]; exact (List.getElem?_eq_some_iff.1 ho).1
  have hg := fun j => getD_set D e.idx j hlt
  refine ⟨?_, hg, by rw [Array.size_setIfInBounds]; exact iv.dsz, fun i hi => iv.dc.anc ok.edge ok.anc e.idx o ho hready i hi, ?_⟩
  · intro j o' ho' hj x hx
    rw [hg] at hj ⊢
    by_cases hje : j = e.idx
    · subst hje
      rw [ho] at ho'; cases ho'
      split
      · rfl
      · exact hready x hx
    · rw [if_neg hje] at hj
      split
      · rfl
      · exact iv.dc j o' ho' hj x hx
  · intro q x hq hx
    rcases Nat.lt_or_gt_of_ne hq with hq | hq
    · exact ok.ne q p x e hq hx he
    · exact fun hh => ok.ne p q e x hq he hx hh.symm

/-- An effect is done at its time. -/
theorem DInv.eff {c : Nat} {D : Array Bool} {r : Regs} {σ : St} {h : Hist} {ρ : Rho} {I : Imm} {ids : Nat → Option Nat} {a : Act} {w : World} {Q : Regs → St → Prop} (ok : OkE A.toList es) (iv : DInv nt B w0 ρ0 I0 σ0 A.toList es c D r σ h ρ I ids a w) {e : Ent} (he : es[c]? = some e) (hE : e.a.ins.isE = true)
    (hw : dwp P ((es.drop c).map fun e => (e.a, e.rc)) r σ h Q) {o : Oper} (ho : A.toList[e.idx]? = some o) (hcp : compOper P nt A.toList o = some e.a) (hready : ∀ x ∈ edgesOf o, D.getD x false = true) {K : Act → World → Prop} {E : Exit → Act → World → Prop}
    (hK : ∀ r' σ' h' ρ' I' a' w', DInv nt B w0 ρ0 I0 σ0 A.toList es (c + 1) (D.setIfInBounds e.idx true) r' σ' h' ρ' I' (fun p => if p = c then none else ids p) a' w' → dwp P ((es.drop (c + 1)).map fun e => (e.a, e.rc)) r' σ' h' Q → K a' w') : wpOp P A E e.idx K a w := by
  have hc : c < es.length := (List.getElem?_eq_some_iff.1 he).1
  have hdrop : es.drop c = e :: es.drop (c + 1) := by
    rw [List.drop_eq_getElem_cons hc]; congr 1; exact (List.getElem?_eq_some_iff.1 he).2
  rw [hdrop] at hw
  simp only [List.map_cons, dwp] at hw
  obtain ⟨g1, g2, g3, g4, g5⟩ := iv.done ok he (Nat.lt_succ_self c) (Nat.le_refl _) ho hready
  obtain ⟨ins, k1, k2, k3, k4, k5⟩ := compOper_spec hcp
  have hoA : A[e.idx]? = some o := by rw [← Array.getElem?_toList]; exact ho
  -- its operands are there
  have hreg : RegsRel ρ I (norm e.a.names r) a.tmps := by
    intro t v hv
    have hmem : t ∈ e.a.names := by
      simp only [norm] at hv
      have := List.lookup_isSome_iff.1 (by rw [hv]; rfl : (List.lookup t (List.filterMap (fun t => Option.map (fun v => (t, v)) (List.lookup t r)) e.a.names)).isSome = true)
      obtain ⟨x, hx, hxt⟩ := this
      simp only [List.mem_filterMap, Option.map_eq_some_iff] at hx
      obtain ⟨t', ht', v', _, rfl⟩ := hx
      simp at hxt; subst hxt; exact ht'
    rw [norm_lookup hmem] at hv
    refine iv.regs t v hv fun q x hq hx hd => ?_
    exact g4 _ (ok.conf q c x e t hq hx he (.inl ⟨hd, hmem⟩))
  let idn : Nat → Option Nat := fun p => if p = c then none else ids p
  have idnn : ∀ p, p < c → idn p = ids p := fun p hp => if_neg (by omega)
  -- what is common
  have common : ∀ (r' : Regs) (σ' : St) (ρ' : Rho) (I' : Imm) (a' : Act) (w' : World) (f : St → Prop), (∀ t, e.a.dst ≠ some t → r'.lookup t = r.lookup t) → (∀ t, e.a.dst ≠ some t → a'.tmps[t]? = a.tmps[t]?) → (∀ t v, e.a.dst = some t → r'.lookup t = some v → ∃ cv, a'.tmps[t]? = some cv ∧ VRel ρ' I' v cv) →
      Rel B w0 ρ' I' σ' w' → Ext ρ I σ ρ' I' σ' → (∀ p x, p < c → es[p]? = some x → D.getD x.idx false = false → ∀ rp v, Val x.a.ins rp σ ρ (ids p) h[p]? v → Val x.a.ins rp σ' ρ' (ids p) h[p]? v) → a'.defers = [] → a'.tmps.size = nt →
      DInv nt B w0 ρ0 I0 σ0 A.toList es (c + 1) (D.setIfInBounds e.idx true) r' σ' (h ++ [f]) ρ' I' idn a' w' := by
    intro r' σ' ρ' I' a' w' f hr ha hdst hrel hext hval hd hs
    have hrle : RLe ρ ρ' := hext.rle iv.rel
    refine ⟨g1, ?_, ?_, g3, hrel, iv.ext.trans hext, ?_, ?_, ?_, ?_, hd, hs, by simp [iv.hlen], hc⟩
    · intro p x hp hx hxE
      rw [g2]
      split
      · rfl
      · rename_i hne
        rcases Nat.lt_succ_iff_lt_or_eq.1 hp with hp | rfl
        · exact iv.eff1 p x hp hx hxE
        · rw [he] at hx; cases hx; exact absurd rfl hne
    · intro p x hp hx
      rw [g2, if_neg (g5 p x (by omega) hx)]
      exact iv.eff2 p x (by omega) hx
    · intro t v hv hall
      by_cases ht : e.a.dst = some t
      · exact hdst t v ht hv
      · rw [hr t ht] at hv
        obtain ⟨cv, c1, c2⟩ := iv.regs t v hv fun q x hq hx hdd => by
          have := hall q x (by omega) hx hdd
          rw [g2, if_neg (g5 q x (by omega) hx)] at this; exact this
        exact ⟨cv, by rw [ha t ht]; exact c1, c2.mono hrle hext.imm⟩
    · intro p x hp hx hD
      rw [g2] at hD
      split at hD
      · cases hD
      · rename_i hne
        have hp : p < c := by
          rcases Nat.lt_succ_iff_lt_or_eq.1 hp with hp | rfl
          · exact hp
          · rw [he] at hx; cases hx; exact absurd rfl hne
        obtain ⟨rp, q1, q2, q3⟩ := (iv.pend p x hp hx hD).out
        have hnames : ∀ t ∈ x.a.names, e.a.dst ≠ some t := fun t ht hd => by
          have := g4 _ (ok.conf p c x e t hp hx he (.inr ⟨hd, ht⟩))
          rw [hD] at this; cases this
        have hdne : ∀ d, x.a.dst = some d → e.a.dst ≠ some d := fun d hd => ok.dst p c x e d hp hx he hd
        refine ⟨rp, fun t ht v hv hall => ?_, fun t ht hs => ?_, ?_⟩
        · obtain ⟨cv, c1, c2⟩ := q1 t ht v hv fun q y hq hy hdd => by
            have := hall q y hq hy hdd
            rw [g2, if_neg (g5 q y (by omega) hy)] at this; exact this
          exact ⟨cv, by rw [ha t (hnames t ht)]; exact c1, c2.mono hrle hext.imm⟩
        · rw [q2 t ht fun s y hs1 hs2 hy => hs s y hs1 (by omega) hy, hr t (hnames t ht)]
        · rcases q3 with ⟨t, want, b, m1, m2, m3, m4⟩ | ⟨m1, v, m2, m3⟩
          · exact .inl ⟨t, want, b, m1, m2, m3, fun d hd => by rw [hr d (hdne d hd)]; exact m4 d hd⟩
          · refine .inr ⟨m1, v, fun d hd => by rw [hr d (hdne d hd)]; exact m2 d hd, ?_⟩
            rw [hist_append (by rw [iv.hlen]; exact hp), idnn p hp]
            exact hval p x hp hx hD rp v m3
    · intro p k hp hk
      by_cases hpc : p = c
      · simp [idn, hpc] at hk
      · rw [idnn p (by omega)] at hk
        have := iv.ids1 p k (by omega) hk
        exact ⟨Nat.lt_of_lt_of_le this.1 hext.next, this.2⟩
    · intro p q k hpq hq hk
      by_cases hqc : q = c
      · simp [idn, hqc]
      · rw [idnn q (by omega)]; exact iv.ids2 p q k hpq (by omega) (by rw [← idnn p (by omega)]; exact hk)
  have hput : ∀ (cv : Value) (t : Nat), e.a.dst ≠ some t → (a.put o.dst cv).tmps[t]? = a.tmps[t]? := by
    intro cv t ht
    rw [k3] at ht
    cases hd : o.dst with
    | none => rfl
    | some d => simp only [Act.put]; rw [Array.getElem?_setIfInBounds_ne (fun hh => ht (by rw [hd, hh]))]
  -- carried out
  have exec : (e.a.ins.wp P r σ fun v σ' => again h σ' e.rc ∧ dwp P ((es.drop (c + 1)).map fun e => (e.a, e.rc)) (setR r e.a.dst v) σ' (h ++ [histOf e.a.ins r σ]) Q) → o.wp P a w K E := by
    intro hw
    have hwn : e.a.ins.wp P (norm e.a.names r) σ fun v σ' => again h σ' e.rc ∧ dwp P ((es.drop (c + 1)).map fun e => (e.a, e.rc)) (setR r e.a.dst v) σ' (h ++ [histOf e.a.ins r σ]) Q :=
      AIns.wp_congr (fun t ht => (norm_lookup (by simp only [AOper.names, List.mem_append]; exact .inl ht)).symm) hw
    -- what was told, behind the effect
    have hval : ∀ σ' ρ' I', again h σ' e.rc → Ext ρ I σ ρ' I' σ' → ∀ p x, p < c → es[p]? = some x → D.getD x.idx false = false → ∀ rp v, Val x.a.ins rp σ ρ (ids p) h[p]? v → Val x.a.ins rp σ' ρ' (ids p) h[p]? v := by
      intro σ' ρ' I' hag hext p x hp hx hD rp v' hv
      cases hv with
      | alloc ao av bk k h0 h1 h2 h3 h4 h5 h6 =>
        have hk := (iv.ids1 p k hp h0).1
        exact .alloc ao av bk k h0 h1 h2 h3 h4 (by rw [hext.rho k hk]; exact h5) (by rw [hext.keep k hk h5]; exact h6)
      | quiet ao av h1 h2 h3 h4 h5 h6 =>
        obtain ⟨e1, e2, e3⟩ := mapM_isE h4
        refine .quiet ao av h1 h2 h3 h4 ?_ h6
        cases hr : ao.reads with
        | false => exact (quiet_eval (by rw [e1, h2]) (by rw [e2, h3]) h5).2.2.1 (by rw [e3, hr]) σ'
        | true =>
          obtain ⟨g, hg1, hg2⟩ := h6 hr
          rcases ok.rc p c x e hp hx he hE (by rw [h1]; exact h2) (by rw [h1]; exact hr) with hb | hb
          · have := g4 _ hb; rw [hD] at this; cases this
          · refine hg2 σ' ?_
            have : ∀ l : List Nat, again h σ' l → p ∈ l → g σ' := by
              intro l
              induction l with
              | nil => intro _ hm; cases hm
              | cons y ys ih =>
                intro hl hm
                simp only [again] at hl
                rcases List.mem_cons.1 hm with rfl | hm
                · rw [hg1] at hl; exact hl.1
                · exact ih hl.2 hm
            exact this _ hag hb
      | pick cc xx y b h1 h2 h3 => exact .pick cc xx y b h1 h2 h3
    refine ins_sound (k2 ▸ k1) hwn hreg iv.rel ?_ ?_
    · intro v σ' ρ' I' cv w' hq hv rl' ex
      refine hK _ _ _ _ _ _ _ (common (setR r e.a.dst v) σ' ρ' I' (a.put o.dst cv) w' (histOf e.a.ins r σ) (fun t ht => lookup_setR_ne ht) (hput cv) ?_ rl' ex (hval σ' ρ' I' hq.1 ex) (by rw [defers_put]; exact iv.defers) (by rw [size_put]; exact iv.size)) hq.2
      intro t u ht hu
      rw [ht, lookup_setR_self] at hu; cases hu
      refine ⟨cv, ?_, hv⟩
      rw [← k3, ht]
      simp only [Act.put]
      rw [Array.getElem?_setIfInBounds_self]
      have := k4 t (by rw [← k3]; exact ht)
      rw [iv.size]; simp [this]
    · intro v σ' ρ' I' w' hdn hq rl' ex
      have hdn' : e.a.dst = none := by rw [k3]; exact hdn
      refine hK _ _ _ _ _ _ _ (common (setR r e.a.dst v) σ' ρ' I' a w' (histOf e.a.ins r σ) (fun t ht => lookup_setR_ne ht) (fun _ _ => rfl) (fun t u ht => by rw [hdn'] at ht; cases ht) rl' ex (hval σ' ρ' I' hq.1 ex) iv.defers iv.size) hq.2
  unfold wpOp
  rw [hoA]
  simp only
  rcases k5 with ⟨q1, q2⟩ | ⟨j, wt, t, q1, q2, q3⟩
  · rw [q2] at hw
    rw [if_pos (by simp [Region.wanted, q1])]
    exact .inl (exec hw)
  · rw [q3] at hw
    simp only at hw
    split at hw
    · rename_i b hb
      have hnt : t ∈ e.a.names := by simp only [AOper.names, q3, List.mem_append]; exact .inr (by simp)
      have hy := yielded_eq (ops := A) (j := j) q2 (by rw [norm_lookup hnt]; exact hb) hreg
      by_cases hbw : b = wt
      · rw [if_pos hbw] at hw
        rw [if_pos (by simp [Region.wanted, q1, hy, hbw])]
        exact .inl (exec hw)
      · rw [if_neg hbw] at hw
        rw [if_neg (by simp [Region.wanted, q1, hy, hbw])]
        refine hK _ _ _ _ _ _ _ (common (delR r e.a.dst) σ ρ I (a.put o.dst undef) w (fun _ => True) (fun t ht => lookup_delR_ne ht) (hput undef) (fun t u ht hu => by rw [ht, lookup_delR_self] at hu; cases hu) iv.rel (Ext.refl _ _ _) (fun p x hp hx hD rp v hv => hv) (by rw [defers_put]; exact iv.defers) (by rw [size_put]; exact iv.size)) hw
    · exact hw.elim

end
end Go.Proofs.Ytkfofdeceicfkaa.AM

/- The abstract machine: regions whose order is open: what is told already is done at some time. -/
namespace Go.Proofs.Ytkfofdeceicfkaa.AM
open Go.RowKit
set_option linter.unusedVariables false
set_option linter.unusedSimpArgs false

section
variable {P : Program} {nt : Nat} {B : Nat} {w0 : Root} {ρ0 : Rho} {I0 : Imm} {σ0 : St} {A : Array Oper} {es : List Ent}

theorem norm_regs {ρ : Rho} {I : Imm} {r : Regs} {keep : List Nat} {tmps : Array Value} (h : ∀ t ∈ keep, ∀ v, r.lookup t = some v → ∃ cv, tmps[t]? = some cv ∧ VRel ρ I v cv) : RegsRel ρ I (norm keep r) tmps := by
  intro t v hv
  have hmem : t ∈ keep := by
    simp only [norm] at hv
    have := List.lookup_isSome_iff.1 (by rw [hv]; rfl : (List.lookup t (List.filterMap (fun t => Option.map (fun v => (t, v)) (List.lookup t r)) keep)).isSome = true)
    obtain ⟨x, hx, hxt⟩ := this
    simp only [List.mem_filterMap, Option.map_eq_some_iff] at hx
    obtain ⟨t', ht', v', _, rfl⟩ := hx
    simp at hxt; subst hxt; exact ht'
  rw [norm_lookup hmem] at hv
  exact h t hmem v hv

theorem DInv.late {c : Nat} {D : Array Bool} {r : Regs} {σ : St} {h : Hist} {ρ : Rho} {I : Imm} {ids : Nat → Option Nat} {a : Act} {w : World} (ok : OkE A.toList es) (iv : DInv nt B w0 ρ0 I0 σ0 A.toList es c D r σ h ρ I ids a w) {p : Nat} {e : Ent} (he : es[p]? = some e) (hp : p < c) (hD : D.getD e.idx false = false)
    {o : Oper} (ho : A.toList[e.idx]? = some o) (hcp : compOper P nt A.toList o = some e.a) (hready : ∀ x ∈ edgesOf o, D.getD x false = true) {K : Act → World → Prop} {E : Exit → Act → World → Prop}
    (hK : ∀ ρ' I' a' w', DInv nt B w0 ρ0 I0 σ0 A.toList es c (D.setIfInBounds e.idx true) r σ h ρ' I' ids a' w' → K a' w') : wpOp P A E e.idx K a w := by
  obtain ⟨g1, g2, g3, g4, g5⟩ := iv.done ok he hp (Nat.le_of_lt hp) ho hready
  obtain ⟨ins, k1, k2, k3, k4, k5⟩ := compOper_spec hcp
  have hoA : A[e.idx]? = some o := by rw [← Array.getElem?_toList]; exact ho
  obtain ⟨rp, q1, q2, q3⟩ := (iv.pend p e hp he hD).out
  have hreg : RegsRel ρ I (norm e.a.names rp) a.tmps := norm_regs fun t ht v hv => q1 t ht v hv fun q x hq hx hd => g4 _ (ok.conf q p x e t hq hx he (.inl ⟨hd, ht⟩))
  have hput : ∀ (cv : Value) (t : Nat), e.a.dst ≠ some t → (a.put o.dst cv).tmps[t]? = a.tmps[t]? := by
    intro cv t ht
    rw [k3] at ht
    cases hd : o.dst with
    | none => rfl
    | some d => simp only [Act.put]; rw [Array.getElem?_setIfInBounds_ne (fun hh => ht (by rw [hd, hh]))]
  have hself : ∀ (cv : Value) (t : Nat), e.a.dst = some t → (a.put o.dst cv).tmps[t]? = some cv := by
    intro cv t ht
    rw [← k3, ht]
    simp only [Act.put]
    rw [Array.getElem?_setIfInBounds_self]
    have := k4 t (by rw [← k3]; exact ht)
    rw [iv.size]; simp [this]
  have common : ∀ (ρ' : Rho) (I' : Imm) (cv : Value) (w' : World), RLe ρ ρ' → ILe I I' → Rel B w0 ρ' I' σ w' → Ext ρ0 I0 σ0 ρ' I' σ → (∀ q k, q ≠ p → q < c → ids q = some k → ρ k = none → ρ' k = none) → (∀ t v, e.a.dst = some t → r.lookup t = some v → VRel ρ' I' v cv) →
      DInv nt B w0 ρ0 I0 σ0 A.toList es c (D.setIfInBounds e.idx true) r σ h ρ' I' ids (a.put o.dst cv) w' := by
    intro ρ' I' cv w' hrle hile hrel hext hids hdst
    refine ⟨g1, ?_, ?_, g3, hrel, hext, ?_, ?_, iv.ids1, iv.ids2, by rw [defers_put]; exact iv.defers, by rw [size_put]; exact iv.size, iv.hlen, iv.cle⟩
    · intro q x hq hx hxE
      rw [g2]; split
      · rfl
      · exact iv.eff1 q x hq hx hxE
    · intro q x hq hx
      rw [g2, if_neg (g5 q x (by omega) hx)]
      exact iv.eff2 q x hq hx
    · intro t v hv hall
      by_cases ht : e.a.dst = some t
      · exact ⟨cv, hself cv t ht, hdst t v ht hv⟩
      · obtain ⟨u, c1, c2⟩ := iv.regs t v hv fun q x hq hx hdd => by
          have hqp : q ≠ p := fun hh => by subst hh; rw [he] at hx; cases hx; exact ht hdd
          have := hall q x hq hx hdd
          rw [g2, if_neg (g5 q x hqp hx)] at this; exact this
        exact ⟨u, by rw [hput cv t ht]; exact c1, c2.mono hrle hile⟩
    · intro q x hq hx hDx
      rw [g2] at hDx
      split at hDx
      · cases hDx
      · rename_i hne
        have hqp : q ≠ p := fun hh => by subst hh; rw [he] at hx; cases hx; exact hne rfl
        obtain ⟨rq, m1, m2, m3⟩ := (iv.pend q x hq hx hDx).out
        refine ⟨rq, fun t ht v hv hall => ?_, m2, ?_⟩
        · by_cases hte : e.a.dst = some t
          · rcases Nat.lt_or_gt_of_ne hqp with hlt | hgt
            · -- what reads it stands ahead
              have := g4 _ (ok.conf q p x e t hlt hx he (.inr ⟨hte, ht⟩))
              rw [hDx] at this; cases this
            · have hl := m2 t ht fun s y hs1 hs2 hy hdy => ok.dst p s e y t (by omega) he hy hte hdy
              rw [hl] at hv
              exact ⟨cv, hself cv t hte, hdst t v hte hv⟩
          · obtain ⟨u, c1, c2⟩ := m1 t ht v hv fun s y hs hy hdy => by
              have hsp : s ≠ p := fun hh => by subst hh; rw [he] at hy; cases hy; exact hte hdy
              have := hall s y hs hy hdy
              rw [g2, if_neg (g5 s y hsp hy)] at this; exact this
            exact ⟨u, by rw [hput cv t hte]; exact c1, c2.mono hrle hile⟩
        · rcases m3 with hh | ⟨n1, v, n2, n3⟩
          · exact .inl hh
          · refine .inr ⟨n1, v, n2, ?_⟩
            cases n3 with
            | alloc ao av bk k h0 h1 h2 h3 h4 h5 h6 => exact .alloc ao av bk k h0 h1 h2 h3 h4 (hids q k hqp hq h0 h5) h6
            | quiet ao av h1 h2 h3 h4 h5 h6 => exact .quiet ao av h1 h2 h3 h4 h5 h6
            | pick cc xx yy b h1 h2 h3 => exact .pick cc xx yy b h1 h2 h3
  -- carried out
  have exec : ∀ v, (∀ d, e.a.dst = some d → r.lookup d = some v) → Val e.a.ins rp σ ρ (ids p) h[p]? v → o.wp P a w K E := by
    intro v hv hval
    have hvv : ∀ t u, e.a.dst = some t → r.lookup t = some u → u = v := fun t u ht hu => by rw [hv t ht] at hu; cases hu; rfl
    have hcong : ∀ x ∈ e.a.ins.opsL, evalOpd rp x = evalOpd (norm e.a.names rp) x := evalOpd_congr fun t ht => (norm_lookup (by simp only [AOper.names, List.mem_append]; exact .inl ht)).symm
    have quiet : e.a.ins.wp P (norm e.a.names rp) σ (fun v' σ' => v' = v ∧ σ' = σ) → o.wp P a w K E := by
      intro hw
      refine ins_sound (k2 ▸ k1) hw hreg iv.rel ?_ ?_
      · rintro v' σ' ρ' I' cv w' ⟨rfl, rfl⟩ hvr rl' ex
        refine hK _ _ _ _ (common ρ' I' cv w' (ex.rle iv.rel) ex.imm rl' (iv.ext.trans ex) (fun q k hqp hq hk hn => by rw [ex.rho k (iv.ids1 q k hq hk).1]; exact hn) fun t u ht hu => by rw [hvv t u ht hu]; exact hvr)
      · rintro v' σ' ρ' I' w' hdn ⟨rfl, rfl⟩ rl' ex
        have := common ρ' I' undef w' (ex.rle iv.rel) ex.imm rl' (iv.ext.trans ex) (fun q k hqp hq hk hn => by rw [ex.rho k (iv.ids1 q k hq hk).1]; exact hn) (fun t u ht hu => by rw [k3, hdn] at ht; cases ht)
        rw [hdn] at this
        exact hK _ _ _ _ this
    cases hval with
    | quiet ao av h1 h2 h3 h4 h5 h6 =>
      refine quiet ?_
      rw [h1] at hcong ⊢
      simp only [AIns.wp]
      rw [← AOp.mapM_congr (f := evalOpd rp) (g := evalOpd (norm e.a.names rp)) hcong, h4]
      simp only [Option.bind_some, h5, and_self]
    | pick cc xx yy b h1 h2 h3 =>
      refine quiet ?_
      rw [h1] at hcong ⊢
      simp only [AIns.wp]
      rw [← hcong cc (by simp [AIns.opsL]), ← hcong xx (by simp [AIns.opsL]), ← hcong yy (by simp [AIns.opsL]), h2]
      simp only [h3, and_self]
    | alloc ao av bk k h0 h1 h2 h3 h4 h5 h6 =>
      have hc0 : compIns P o = some (.op ao) := by rw [k1, ← k2, h1]
      have hco : compOp P o.op = some ao := by
        unfold compIns at hc0
        split at hc0
        · simp only [Option.bind_eq_some_iff, Option.map_eq_some_iff] at hc0
          obtain ⟨_, _, _, _, _, _, hh⟩ := hc0; cases hh
        · simp only [Option.bind_eq_some_iff, Option.map_eq_some_iff] at hc0
          obtain ⟨_, _, _, _, hh⟩ := hc0; cases hh
        · simp only [Option.bind_eq_some_iff] at hc0
          obtain ⟨ao', hh1, hh2⟩ := hc0
          split at hh2
          · cases hh2
          · cases hh2; exact hh1
      rw [h1] at hcong
      have hm : ao.mapM (evalOpd (norm e.a.names rp)) = some av := by rw [← AOp.mapM_congr (f := evalOpd rp) (g := evalOpd (norm e.a.names rp)) hcong]; exact h3
      obtain ⟨cv, w', pl, z1, z2, z3⟩ := alloc_op_sound (P := P) hco h2 hm h4 hreg h5 h6 iv.rel
      have hk := iv.ids1 p k hp h0
      unfold Oper.wp
      rw [z1]
      simp only [Oper.upon]
      refine hK _ _ _ _ (common (upd ρ k pl) I cv w' (upd_le' h5 pl) (ILe.refl _) z3 ⟨fun x hx => ?_, iv.ext.imm, iv.ext.next, iv.ext.keep⟩ (fun q k' hqp hq hk' hn => ?_) fun t u ht hu => by rw [hvv t u ht hu]; exact z2)
      · rw [upd_ne _ _ (by omega)]; exact iv.ext.rho x hx
      · rw [upd_ne _ _ ?_]
        · exact hn
        · intro hh; subst hh
          rcases Nat.lt_or_gt_of_ne hqp with hlt | hgt
          · exact iv.ids2 q p _ hlt hp hk' h0
          · exact iv.ids2 p q _ hgt hq h0 hk'
  unfold wpOp
  rw [hoA]
  simp only
  rcases q3 with ⟨t, want, b, m1, m2, m3, m4⟩ | ⟨m1, v, m2, m3⟩
  · rcases k5 with ⟨j1, j2⟩ | ⟨j, wt, t', j1, j2, j3⟩
    · rw [j2] at m1; cases m1
    · rw [j3] at m1; cases m1
      have hnt : t ∈ e.a.names := by simp only [AOper.names, j3, List.mem_append]; exact .inr (by simp)
      have hy := yielded_eq (ops := A) (j := j) j2 (by rw [norm_lookup hnt]; exact m2) hreg
      rw [if_neg (by simp [Region.wanted, j1, hy, m3])]
      exact hK _ _ _ _ (common ρ I undef w (RLe.refl _) (ILe.refl _) iv.rel iv.ext (fun _ _ _ _ _ hn => hn) fun x u hx hu => by rw [m4 x hx] at hu; cases hu)
  · have hwant : Region.wanted o (yielded A a.tmps) = true := by
      rcases k5 with ⟨j1, j2⟩ | ⟨j, wt, t', j1, j2, j3⟩
      · simp [Region.wanted, j1]
      · rcases m1 with m1 | ⟨t, want, m1, m1'⟩
        · rw [j3] at m1; cases m1
        · rw [j3] at m1; cases m1
          have hnt : t' ∈ e.a.names := by simp only [AOper.names, j3, List.mem_append]; exact .inr (by simp)
          have hy := yielded_eq (ops := A) (j := j) j2 (by rw [norm_lookup hnt]; exact m1') hreg
          simp [Region.wanted, j1, hy]
    rw [if_pos hwant]
    exact .inl (exec v m2 m3)

end
end Go.Proofs.Ytkfofdeceicfkaa.AM

/- The abstract machine: regions whose order is open: in any order they do alike. -/
namespace Go.Proofs.Ytkfofdeceicfkaa.AM
open Go.RowKit
set_option linter.unusedVariables false
set_option linter.unusedSimpArgs false

def remN (D : Array Bool) : Nat → Nat
  | 0 => 0
  | k + 1 => remN D k + (if D.getD k false then 0 else 1)

theorem remN_set (D : Array Bool) (i : Nat) (hi : i < D.size) (h : D.getD i false = false) : ∀ k, remN (D.setIfInBounds i true) k + (if i < k then 1 else 0) = remN D k := by
  intro k
  induction k with
  | zero => simp [remN]
  | succ k ih =>
    simp only [remN, getD_set D i k hi]
    by_cases hk : k = i
    · subst hk
      rw [if_neg (Nat.lt_irrefl _)] at ih
      simp only [if_true, Nat.lt_succ_self, h]
      simp only [Bool.false_eq_true, if_false]
      omega
    · rw [if_neg hk]
      by_cases hik : i < k
      · rw [if_pos hik] at ih; rw [if_pos (show i < k + 1 by omega)]
        generalize (if D.getD k false = true then 0 else 1) = q
        omega
      · rw [if_neg hik] at ih; rw [if_neg (show ¬ i < k + 1 by omega)]
        generalize (if D.getD k false = true then 0 else 1) = q
        omega

theorem remN_zero {D : Array Bool} : ∀ {k : Nat}, remN D k = 0 → ∀ i, i < k → D.getD i false = true := by
  intro k
  induction k with
  | zero => intro _ i hi; omega
  | succ k ih =>
    intro h i hi
    simp only [remN] at h
    rcases Nat.lt_succ_iff_lt_or_eq.1 hi with hi | rfl
    · exact ih (by omega) i hi
    · cases hd : D.getD i false with
      | true => rfl
      | false => rw [hd] at h; simp at h

section
variable {P : Program} {nt : Nat} {B : Nat} {w0 : Root} {ρ0 : Rho} {I0 : Imm} {σ0 : St} {A : Array Oper} {es : List Ent}

theorem DInv.sats {D : Array Bool} {I : Imm} {ρ : Rho} {a : Act} {w : World} {Q : Regs → St → Prop} (ok : OkE A.toList es) : ∀ (n c : Nat) (r : Regs) (σ : St) (h : Hist) (ids : Nat → Option Nat), es.length - c = n →
    DInv nt B w0 ρ0 I0 σ0 A.toList es c D r σ h ρ I ids a w → dwp P ((es.drop c).map fun e => (e.a, e.rc)) r σ h Q →
    ∃ c r σ h ids, DInv nt B w0 ρ0 I0 σ0 A.toList es c D r σ h ρ I ids a w ∧ dwp P ((es.drop c).map fun e => (e.a, e.rc)) r σ h Q ∧ (c = es.length ∨ ∃ e, es[c]? = some e ∧ e.a.ins.isE = true) := by
  intro n
  induction n with
  | zero =>
    intro c r σ h ids hn iv hw
    exact ⟨c, r, σ, h, ids, iv, hw, .inl (by have := iv.cle; omega)⟩
  | succ n ih =>
    intro c r σ h ids hn iv hw
    have hc : c < es.length := by omega
    have he : es[c]? = some es[c] := List.getElem?_eq_getElem hc
    cases hE : es[c].a.ins.isE with
    | true => exact ⟨c, r, σ, h, ids, iv, hw, .inr ⟨_, he, hE⟩⟩
    | false =>
      obtain ⟨r', σ', h', ids', iv', hw'⟩ := iv.sat ok he hE hw
      exact ih (c + 1) r' σ' h' ids' (by omega) iv' hw'

theorem ready_mem {D : Array Bool} {i : Nat} (hs : D.size = A.toList.length) (h : i ∈ Region.ready .any A D) : ∃ o, A.toList[i]? = some o ∧ D.getD i false = false ∧ ∀ x ∈ edgesOf o, D.getD x false = true := by
  simp only [Region.ready, List.mem_filter, List.mem_range, Bool.and_eq_true, Bool.not_eq_true'] at h
  obtain ⟨h1, h2, h3⟩ := h
  have ho : A[i]? = some A[i] := Array.getElem?_eq_getElem h1
  rw [ho] at h3
  simp only [Option.map_some, Option.getD_some] at h3
  refine ⟨A[i], by rw [Array.getElem?_toList]; exact ho, ?_, fun x hx => ?_⟩
  · have hlt : i < D.size := by rw [hs]; simpa using h1
    rw [Array.getD_eq_getD_getElem?, Array.getElem?_eq_getElem hlt] at h2 ⊢; simpa using h2
  · simp only [edgesOf, List.mem_map, List.mem_filter] at hx
    obtain ⟨e, ⟨he1, he2⟩, rfl⟩ := hx
    have := Array.all_eq_true_iff_forall_mem.1 h3 e (Array.mem_toList_iff.1 he1)
    simpa [he2] using this

theorem ready_nil {D : Array Bool} (hs : D.size = A.toList.length) (ok : OkE A.toList es) (h : Region.ready .any A D = []) : ∀ i, i < A.toList.length → D.getD i false = true := by
  intro i
  induction i using Nat.strongRecOn with
  | _ i ih =>
    intro hi
    cases hd : D.getD i false with
    | true => rfl
    | false =>
      exfalso
      have hA : i < A.size := by simpa using hi
      have ho : A.toList[i]? = some A[i] := by rw [Array.getElem?_toList]; exact Array.getElem?_eq_getElem hA
      have : i ∈ Region.ready .any A D := by
        simp only [Region.ready, List.mem_filter, List.mem_range, Bool.and_eq_true, Bool.not_eq_true']
        refine ⟨hA, ?_, ?_⟩
        · have hlt : i < D.size := by rw [hs]; exact hi
          rw [Array.getD_eq_getD_getElem?, Array.getElem?_eq_getElem hlt] at hd ⊢; simpa using hd
        · rw [Array.getElem?_eq_getElem hA]
          simp only [Option.map_some, Option.getD_some]
          refine Array.all_eq_true_iff_forall_mem.2 fun e he => ?_
          cases hb : Region.binds .any e with
          | false => rfl
          | true =>
            have hm : e.on ∈ edgesOf A[i] := by
              simp only [edgesOf, List.mem_map, List.mem_filter]
              exact ⟨e, ⟨Array.mem_toList_iff.2 he, hb⟩, rfl⟩
            have hlt := ok.edge i _ ho _ hm
            simpa using ih e.on hlt (by omega)
      rw [h] at this; cases this

theorem any_sound {Q : Regs → St → Prop} {E : Exit → Act → World → Prop} (ok : OkE A.toList es) (hcomp : ∀ (p : Nat) (e : Ent), es[p]? = some e → ∃ o, A.toList[e.idx]? = some o ∧ compOper P nt A.toList o = some e.a)
    (hE : ∀ a w, Lift nt B w0 ρ0 I0 σ0 Q a w → E .normal a w) : ∀ (fuel : Nat) (c : Nat) (D : Array Bool) (r : Regs) (σ : St) (h : Hist) (ρ : Rho) (I : Imm) (ids : Nat → Option Nat) (a : Act) (w : World),
    DInv nt B w0 ρ0 I0 σ0 A.toList es c D r σ h ρ I ids a w → dwp P ((es.drop c).map fun e => (e.a, e.rc)) r σ h Q → remN D A.toList.length ≤ fuel → wpAny P .any A E fuel D a w := by
  have fin : ∀ (c : Nat) (D : Array Bool) (r : Regs) (σ : St) (h : Hist) (ρ : Rho) (I : Imm) (ids : Nat → Option Nat) (a : Act) (w : World),
      DInv nt B w0 ρ0 I0 σ0 A.toList es c D r σ h ρ I ids a w → dwp P ((es.drop c).map fun e => (e.a, e.rc)) r σ h Q → (∀ i, i < A.toList.length → D.getD i false = true) → E .normal a w := by
    intro c D r σ h ρ I ids a w iv hw hall
    have hdone : ∀ (p : Nat) (e : Ent), es[p]? = some e → D.getD e.idx false = true := by
      intro p e he
      obtain ⟨o, ho, _⟩ := hcomp p e he
      exact hall _ (List.getElem?_eq_some_iff.1 ho).1
    obtain ⟨c', r', σ', h', ids', iv', hw', hc⟩ := iv.sats ok _ c r σ h ids rfl hw
    rcases hc with hc | ⟨e, he, _⟩
    · rw [hc, List.drop_length] at hw'
      simp only [List.map_nil, dwp] at hw'
      refine hE a w ⟨r', σ', ρ, I, iv'.defers, iv'.size, iv'.rel, fun t v hv => ?_, iv'.ext, hw'⟩
      exact iv'.regs t v hv fun q x _ hx _ => hdone q x hx
    · have := iv'.eff2 c' e (Nat.le_refl _) he
      rw [hdone c' e he] at this; cases this
  intro fuel
  induction fuel with
  | zero =>
    intro c D r σ h ρ I ids a w iv hw hr
    have hall := remN_zero (D := D) (by omega : remN D A.toList.length = 0)
    refine ⟨?_, fin c D r σ h ρ I ids a w iv hw hall⟩
    cases hl : Region.ready .any A D with
    | nil => rfl
    | cons i is =>
      obtain ⟨o, ho, hd, _⟩ := ready_mem iv.dsz (by rw [hl]; simp : i ∈ Region.ready .any A D)
      rw [hall i (List.getElem?_eq_some_iff.1 ho).1] at hd; cases hd
  | succ fuel ih =>
    intro c D r σ h ρ I ids a w iv hw hr
    refine ⟨fun hnil => fin c D r σ h ρ I ids a w iv hw (ready_nil iv.dsz ok hnil), fun i hi => ?_⟩
    obtain ⟨o, ho, hd, hready⟩ := ready_mem iv.dsz hi
    have hilt := (List.getElem?_eq_some_iff.1 ho).1
    obtain ⟨c', r', σ', h', ids', iv', hw', hc⟩ := iv.sats ok _ c r σ h ids rfl hw
    obtain ⟨p, e, he, hei⟩ := ok.surj i hilt
    subst hei
    obtain ⟨o', ho', hcp⟩ := hcomp p e he
    rw [ho] at ho'; cases ho'
    have hrem : remN (D.setIfInBounds e.idx true) A.toList.length ≤ fuel := by
      have := remN_set D e.idx (by rw [iv.dsz]; exact hilt) hd A.toList.length
      rw [if_pos hilt] at this; omega
    by_cases hp : p < c'
    · exact iv'.late ok he hp hd ho hcp hready fun ρ' I' a' w' iv2 => ih _ _ _ _ _ _ _ _ _ _ iv2 hw' hrem
    · -- it is the effect that stands next
      rcases hc with hc | ⟨f, hf, hfE⟩
      · have := (List.getElem?_eq_some_iff.1 he).1; omega
      · have hpc : p = c' := by
          rcases Nat.lt_or_eq_of_le (Nat.le_of_not_lt hp) with hlt | heq
          · exfalso
            have hb := ok.eff c' p f e hlt hf he hfE
            have hdf := iv'.dc.anc ok.edge ok.anc e.idx o ho hready _ hb
            rw [iv'.eff2 c' f (Nat.le_refl _) hf] at hdf; cases hdf
          · exact heq.symm
        subst hpc
        rw [hf] at he; cases he
        exact iv'.eff ok hf hfE hw' ho hcp hready fun r2 σ2 h2 ρ2 I2 a2 w2 iv2 hw2 => ih _ _ _ _ _ _ _ _ _ _ iv2 hw2 hrem

theorem dreg_sound {id : Nat} {r : Regs} {σ : St} {ρ : Rho} {I : Imm} {a : Act} {w : World} {Q : Regs → St → Prop} {E : Exit → Act → World → Prop} (hmx : P.follows .mixedOrders = true) (hok : okEnts A.toList es = true)
    (hcomp : ∀ (p : Nat) (e : Ent), es[p]? = some e → ∃ o, A.toList[e.idx]? = some o ∧ compOper P nt A.toList o = some e.a) (hw : dwp P (es.map fun e => (e.a, e.rc)) r σ [] Q) (hr : RegsRel ρ I r a.tmps) (rl : Rel B w0 ρ I σ w) (hd : a.defers = []) (hs : a.tmps.size = nt)
    (hE : ∀ a w, Lift nt B w0 ρ I σ Q a w → E .normal a w) : (Code.region id A true).wp P E a w := by
  have ok := OkE.of hok
  refine wp_region_any hmx (any_sound (ρ0 := ρ) (I0 := I) (σ0 := σ) (B := B) (w0 := w0) ok hcomp hE A.size 0 _ r σ [] ρ I (fun _ => none) a w.drew ?_ (by simpa using hw) ?_)
  · have hf : ∀ j, (Array.replicate A.size false).getD j false = false := by
      intro j
      rw [Array.getD_eq_getD_getElem?, Array.getElem?_replicate]; split <;> rfl
    refine ⟨fun j o _ hj => ?_, fun p e hp => ?_, fun p e _ _ => hf _, by simp, rl.drew, Ext.refl _ _ _, fun t v hv _ => hr t v hv, fun p e hp => ?_, fun p k hp => ?_, fun p q k _ hq => ?_, hd, hs, rfl, Nat.zero_le _⟩
    · rw [hf] at hj; cases hj
    all_goals omega
  · have : ∀ k, remN (Array.replicate A.size false) k ≤ k := by
      intro k
      induction k with
      | zero => exact Nat.le_refl _
      | succ k ih => simp only [remN]; split <;> omega
    simpa using this A.size

end
end Go.Proofs.Ytkfofdeceicfkaa.AM

/- The abstract machine: code and functions. -/
namespace Go.Proofs.Ytkfofdeceicfkaa.AM
open Go.RowKit
set_option linter.unusedVariables false
set_option linter.unusedSimpArgs false

def comp (P : Program) (nt : Nat) (h : Hints) : Code → Option ACode
  | .skip => some .skip
  | .region id ops draw =>
    if draw then
      (h.perm.lookup id).bind fun perm => (listM (fun p : Nat × List Nat => (ops.toList[p.1]?).bind fun o => (compOper P nt ops.toList o).map fun a => (⟨p.1, a, p.2⟩ : Ent)) perm).bind fun es =>
        if okEnts ops.toList es then some (.dreg ((h.keep.lookup id).getD []) (es.map fun e => (e.a, e.rc))) else none
    else (listM (compOper P nt ops.toList) ops.toList).map (.reg ((h.keep.lookup id).getD []))
  | .seq a b => (comp P nt h a).bind fun a => (comp P nt h b).map fun b => .seq a b
  | .cond c a b => (compOpd c).bind fun c => (comp P nt h a).bind fun a => (comp P nt h b).map fun b => .cond c a b
  | .block id a => (comp P nt h a).map (.block id)
  | .loop a => (comp P nt h a).map (.loop (((firstReg a).bind fun i => h.lkeep.lookup i).getD []))
  | .exit id => some (.exit id)
  | .ret => some .ret
  | _ => none

section
variable {P : Program} {B : Nat} {w0 : Root}

def LiftP (nt : Nat) (B : Nat) (w0 : Root) (ρ : Rho) (I : Imm) (σ : St) (Q : Post) : Exit → Act → World → Prop
  | .normal, a, w => Lift nt B w0 ρ I σ (Q .normal) a w
  | .exit id, a, w => Lift nt B w0 ρ I σ (Q (.exit id)) a w
  | .ret, a, w => Lift nt B w0 ρ I σ (Q .ret) a w
  | _, _, _ => False

theorem LiftP.ext {nt : Nat} {ρ ρ1 : Rho} {I I1 : Imm} {σ σ1 : St} {Q : Post} {e : Exit} {a : Act} {w : World} (ex : Ext ρ I σ ρ1 I1 σ1) (h : LiftP nt B w0 ρ1 I1 σ1 Q e a w) : LiftP nt B w0 ρ I σ Q e a w := by
  cases e <;> first | exact Lift.ext ex h | exact h

theorem Lift.mono {nt : Nat} {ρ : Rho} {I : Imm} {σ : St} {Q Q' : Regs → St → Prop} {a : Act} {w : World} (h : Lift nt B w0 ρ I σ Q a w) (hq : ∀ r σ, Q r σ → Q' r σ) : Lift nt B w0 ρ I σ Q' a w := by
  obtain ⟨r, σ', ρ', I', h1, h2, h3, h4, h5, h6⟩ := h
  exact ⟨r, σ', ρ', I', h1, h2, h3, h4, h5, hq _ _ h6⟩

theorem Lift.norm {nt : Nat} {ρ : Rho} {I : Imm} {σ : St} {keep : List Nat} {Q : Regs → St → Prop} {a : Act} {w : World} (h : Lift nt B w0 ρ I σ (fun r σ => Q (norm keep r) σ) a w) : Lift nt B w0 ρ I σ Q a w := by
  obtain ⟨r, σ', ρ', I', h1, h2, h3, h4, h5, h6⟩ := h
  exact ⟨_, σ', ρ', I', h1, h2, h3, h4.norm keep, h5, h6⟩

theorem code_sound (hmx : P.follows .mixedOrders = true) {nt : Nat} {h : Hints} : ∀ (code : Code) (ac : ACode), comp P nt h code = some ac → ∀ (Q : Post) (r : Regs) (σ : St) (ρ : Rho) (I : Imm) (a : Act) (w : World),
    ac.wp P Q r σ → RegsRel ρ I r a.tmps → Rel B w0 ρ I σ w → a.defers = [] → a.tmps.size = nt → code.wp P (LiftP nt B w0 ρ I σ Q) a w := by
  intro code
  induction code with
  | skip =>
    intro ac hc Q r σ ρ I a w hw hr rl hd hs
    simp only [comp, Option.some.injEq] at hc; subst hc
    exact wp_skip ⟨r, σ, ρ, I, hd, hs, rl, hr, Ext.refl _ _ _, hw⟩
  | region id ops draw =>
    intro ac hc Q r σ ρ I a w hw hr rl hd hs
    simp only [comp] at hc
    cases draw with
    | true =>
      simp only [if_true, Option.bind_eq_some_iff, Option.ite_none_right_eq_some, Option.some.injEq] at hc
      obtain ⟨perm, hp, es, hes, hok, rfl⟩ := hc
      obtain ⟨l1, l2⟩ := listM_get hes
      refine dreg_sound (es := es) hmx hok (fun p e he => ?_) (Q := fun r σ => Q .normal (norm ((h.keep.lookup id).getD []) r) σ) (by simpa only [ACode.wp] using hw) hr rl hd hs fun a w hl => (hl.norm : Lift nt B w0 ρ I σ (Q .normal) a w)
      obtain ⟨x, _, hx⟩ := l2 p e he
      simp only [Option.bind_eq_some_iff, Option.map_eq_some_iff] at hx
      obtain ⟨o, ho, a', ha, rfl⟩ := hx
      exact ⟨o, ho, ha⟩
    | false =>
      simp only [Bool.false_eq_true, if_false, Option.map_eq_some_iff] at hc
      obtain ⟨l, hl, rfl⟩ := hc
      simp only [ACode.wp] at hw
      exact wp_region_list (rwp_sound ops.toList l r σ ρ I a w _ hl hw hr rl hd hs fun a w hl => (hl.norm : Lift nt B w0 ρ I σ (Q .normal) a w))
  | seq x y ihx ihy =>
    intro ac hc Q r σ ρ I a w hw hr rl hd hs
    simp only [comp, Option.bind_eq_some_iff, Option.map_eq_some_iff] at hc
    obtain ⟨ax, h1, ay, h2, rfl⟩ := hc
    simp only [ACode.wp] at hw
    refine wp_seq (wp_mono (ihx ax h1 _ r σ ρ I a w hw hr rl hd hs) ?_)
    intro e a' w' hl
    cases e with
    | normal =>
      obtain ⟨r', σ', ρ', I', g1, g2, g3, g4, g5, g6⟩ := hl
      exact wp_mono (ihy ay h2 Q r' σ' ρ' I' a' w' g6 g4 g3 g1 g2) fun e a w hh => hh.ext g5
    | exit id => exact hl
    | ret => exact hl
    | goto l => exact hl
    | panic c => exact hl
    | outgrown => exact hl
  | cond c x y ihx ihy =>
    intro ac hc Q r σ ρ I a w hw hr rl hd hs
    simp only [comp, Option.bind_eq_some_iff, Option.map_eq_some_iff] at hc
    obtain ⟨c', h0, ax, h1, ay, h2, rfl⟩ := hc
    simp only [ACode.wp] at hw
    split at hw
    · rename_i t ht
      have hv := opd_sound hr h0 ht
      simp only [VRel] at hv
      refine wp_cond hv ?_
      cases t
      · exact ihy ay h2 Q r σ ρ I a w (by simpa using hw) hr rl hd hs
      · exact ihx ax h1 Q r σ ρ I a w (by simpa using hw) hr rl hd hs
    · exact hw.elim
  | block id x ih =>
    intro ac hc Q r σ ρ I a w hw hr rl hd hs
    simp only [comp, Option.map_eq_some_iff] at hc
    obtain ⟨ax, h1, rfl⟩ := hc
    simp only [ACode.wp] at hw
    refine wp_block (wp_mono (ih ax h1 _ r σ ρ I a w hw hr rl hd hs) ?_)
    intro e a' w' hl
    cases e with
    | normal => exact hl
    | exit j =>
      simp only [Exit.inBlock]
      by_cases hj : j = id
      · rw [if_pos hj]
        exact Lift.mono hl fun r σ hq => by simpa [hj] using hq
      · rw [if_neg hj]
        exact Lift.mono hl fun r σ hq => by simpa [hj] using hq
    | ret => exact hl
    | goto l => exact hl
    | panic c => exact hl
    | outgrown => exact hl
  | loop x ih =>
    intro ac hc Q r σ ρ I a w hw hr rl hd hs
    simp only [comp, Option.map_eq_some_iff] at hc
    obtain ⟨ax, h1, rfl⟩ := hc
    simp only [ACode.wp] at hw
    obtain ⟨J, n, hJ, hround⟩ := hw
    refine wp_loop_ghost (fun m a w => Lift nt B w0 ρ I σ (J m) a w) n ⟨_, σ, ρ, I, hd, hs, rl, hr.norm _, Ext.refl _ _ _, hJ⟩ ?_
    intro m a' w' hl
    obtain ⟨r', σ', ρ', I', g1, g2, g3, g4, g5, g6⟩ := hl
    refine wp_mono (ih ax h1 _ r' σ' ρ' I' a' w' (hround m r' σ' g6) g4 g3 g1 g2) ?_
    intro e a2 w2 hl
    cases e with
    | normal =>
      obtain ⟨r2, σ2, ρ2, I2, k1, k2, k3, k4, k5, m', hm, hj⟩ := hl
      exact ⟨m', hm, _, σ2, ρ2, I2, k1, k2, k3, k4.norm _, g5.trans k5, hj⟩
    | exit j => exact Lift.ext g5 hl
    | ret => exact Lift.ext g5 hl
    | goto l => exact hl
    | panic c => exact hl
    | outgrown => exact hl
  | exit id =>
    intro ac hc Q r σ ρ I a w hw hr rl hd hs
    simp only [comp, Option.some.injEq] at hc; subst hc
    exact wp_exit ⟨r, σ, ρ, I, hd, hs, rl, hr, Ext.refl _ _ _, hw⟩
  | ret =>
    intro ac hc Q r σ ρ I a w hw hr rl hd hs
    simp only [comp, Option.some.injEq] at hc; subst hc
    exact wp_ret ⟨r, σ, ρ, I, hd, hs, rl, hr, Ext.refl _ _ _, hw⟩
  | rangeFunc f ps x y _ _ => intro ac hc; simp [comp] at hc
  | scope x _ => intro ac hc; simp [comp] at hc
  | label l => intro ac hc; simp [comp] at hc
  | goto l => intro ac hc; simp [comp] at hc
  | refuse l => intro ac hc; simp [comp] at hc

/-! ### Functions -/

inductive ARes where
  | t (n : Nat)
  | c1 (n : Nat)
  | cn (n k : Nat)

def compRes (P : Program) : ResultVar → Option ARes
  | .tmp t => some (.t t)
  | .cell a ty => (P.underlying ty).bind fun d => if isAggD d then (P.info? ty).map fun i => .cn a i.size else some (.c1 a)

def resOne (r : Regs) (σ : St) : ARes → Option AVal
  | .t n => r.lookup n
  | .c1 n => (r.lookup n).bind (load1 σ)
  | .cn n k => (r.lookup n).bind fun x => (loadL σ k x).map .agg

def resA (r : Regs) (σ : St) (rs : List ARes) : Option AVal :=
  (listM (resOne r σ) rs).map fun
    | [v] => v
    | vs => .tup vs

def argR : Nat → List AVal → Regs
  | _, [] => []
  | n, v :: vs => (n, v) :: argR (n + 1) vs

def retPost (rs : List ARes) (Q : AVal → St → Prop) : Post := fun e r σ => match e with
  | .exit _ => False
  | _ => match resA r σ rs with
    | some v => Q v σ
    | none => False

theorem resOne_sound {ρ : Rho} {I : Imm} {σ : St} {w : World} {r : Regs} {tmps : Array Value} (hr : RegsRel ρ I r tmps) (rl : Rel B w0 ρ I σ w) {x : ResultVar} {x' : ARes} {v : AVal} (hc : compRes P x = some x') (hv : resOne r σ x' = some v) :
    ∃ cv, (match x with
      | .tmp t => pure (tmps.getD t undef)
      | .cell a t => do loadVar t (← asAddr (tmps.getD a undef)) : Sem Value).run P w = .ok cv w ∧ VRel ρ I v cv := by
  have get : ∀ n u, r.lookup n = some u → VRel ρ I u (tmps.getD n undef) := by
    intro n u hu
    obtain ⟨cv, h1, h2⟩ := hr n u hu
    rw [Array.getD_eq_getD_getElem?, h1]; exact h2
  cases x with
  | tmp t =>
    simp only [compRes, Option.some.injEq] at hc; subst hc
    exact ⟨_, rfl, get t v hv⟩
  | cell a ty =>
    simp only [compRes, Option.bind_eq_some_iff] at hc
    obtain ⟨d, hd, hc⟩ := hc
    have addr : ∀ {u : AVal} {cs : List AVal}, PCells σ u = some cs → VRel ρ I u (tmps.getD a undef) → (loadVar ty (match tmps.getD a undef with | .pointer (some x) => x | _ => ⟨0, 0, none⟩)).run P w = (do loadVar ty (← asAddr (tmps.getD a undef)) : Sem Value).run P w ∧ (Instr.loadAt ty (tmps.getD a undef)).run P w = (do loadVar ty (← asAddr (tmps.getD a undef)) : Sem Value).run P w := by
      intro u cs hcs hu
      obtain ⟨ad, h1, _, _⟩ := rl.pcells hcs hu
      rw [h1]
      exact ⟨by simp [asAddr], by simp [asAddr, Instr.loadAt, Instr.sureAddr]⟩
    split at hc
    · rename_i ha
      simp only [Option.map_eq_some_iff] at hc
      obtain ⟨i, hi, rfl⟩ := hc
      simp only [resOne, Option.bind_eq_some_iff, Option.map_eq_some_iff] at hv
      obtain ⟨u, hu, cs, hl, rfl⟩ := hv
      obtain ⟨cs', p1, _, _⟩ := loadL_pcells hl
      obtain ⟨cv, g1, g2⟩ := ldn_sound (P := P) rl hl (get a u hu) ty d hd ha i hi rfl
      exact ⟨cv, by rw [← (addr p1 (get a u hu)).2]; exact g1, g2⟩
    · rename_i ha
      injection hc with hc; subst hc
      simp only [resOne, Option.bind_eq_some_iff] at hv
      obtain ⟨u, hu, hl⟩ := hv
      obtain ⟨cs', p1, _⟩ := load1_pcells hl
      obtain ⟨cv, g1, g2⟩ := ld1_sound (P := P) rl hl (get a u hu) ty d hd (by simpa using ha)
      exact ⟨cv, by rw [← (addr p1 (get a u hu)).2]; exact g1, g2⟩

theorem res_sound {ρ : Rho} {I : Imm} {σ : St} {w : World} {r : Regs} {tmps : Array Value} (hr : RegsRel ρ I r tmps) (rl : Rel B w0 ρ I σ w) {fn : Func} {rs : List ARes} {v : AVal} (hc : listM (compRes P) fn.results.toList = some rs) (hv : resA r σ rs = some v) :
    ∃ cv, (results fn tmps).run P w = .ok cv w ∧ VRel ρ I v cv := by
  simp only [resA, Option.map_eq_some_iff] at hv
  obtain ⟨vs, hvs, hv⟩ := hv
  have key : ∀ (l : List ResultVar) (rs : List ARes) (vs : List AVal), listM (compRes P) l = some rs → listM (resOne r σ) rs = some vs →
      ∃ cvs : List Value, cvs.length = vs.length ∧ CRel ρ I vs (fun j => cvs[j]?) ∧ (l.mapM fun
        | .tmp t => pure (tmps.getD t undef)
        | .cell a t => do loadVar t (← asAddr (tmps.getD a undef)) : Sem (List Value)).run P w = .ok cvs w := by
    intro l
    induction l with
    | nil =>
      intro rs vs h1 h2
      simp only [listM, Option.some.injEq] at h1; subst h1
      simp only [listM, Option.some.injEq] at h2; subst h2
      exact ⟨[], rfl, trivial, by simp⟩
    | cons x l ih =>
      intro rs vs h1 h2
      simp only [listM, Option.bind_eq_some_iff, Option.map_eq_some_iff] at h1
      obtain ⟨x', h3, rs', h4, rfl⟩ := h1
      simp only [listM, Option.bind_eq_some_iff, Option.map_eq_some_iff] at h2
      obtain ⟨u, h5, us, h6, rfl⟩ := h2
      obtain ⟨cv, g1, g2⟩ := resOne_sound (P := P) hr rl h3 h5
      obtain ⟨cvs, g3, g4, g5⟩ := ih rs' us h4 h6
      refine ⟨cv :: cvs, by simp [g3], ?_, ?_⟩
      · simp only [CRel]; exact ⟨⟨cv, by simp, g2⟩, by simpa using g4⟩
      · simp only [List.mapM_cons, Sem.run_bind, g1, Result.andThen_ok, g5, Sem.run_pure]
  obtain ⟨cvs, g1, g2, g3⟩ := key _ rs vs hc hvs
  have hrun : (results fn tmps).run P w = .ok (if h : cvs.toArray.size = 1 then cvs.toArray[0] else .tuple cvs.toArray) w := by
    simp only [results, Sem.run_bind, Array.mapM_eq_mapM_toList, Sem.run_map, Sem.run_pure]
    exact congrArg (fun x : Result (List Value) => (x.andThen fun a w' => Result.ok a.toArray w').andThen fun a w' => Result.ok (if h : a.size = 1 then a[0] else Value.tuple a) w') g3
  rw [hrun]
  match vs, hv, g1, g2 with
  | [u], hv, g1, g2 =>
    match cvs, g1, g2 with
    | [cu], _, g2 =>
      subst hv
      simp only [CRel] at g2
      obtain ⟨⟨x, hx, hx2⟩, _⟩ := g2
      simp at hx; subst hx
      exact ⟨cu, by simp, hx2⟩
  | [], hv, g1, g2 =>
    subst hv
    refine ⟨.tuple cvs.toArray, ?_, by simp only [VRel]; exact ⟨_, rfl, by simpa using g1, trivial⟩⟩
    rw [dif_neg (by simp [g1])]
  | u :: u' :: us, hv, g1, g2 =>
    subst hv
    refine ⟨.tuple cvs.toArray, ?_, by simp only [VRel]; exact ⟨_, rfl, by simpa using g1, by simpa using g2⟩⟩
    rw [dif_neg (by simp [g1])]

theorem argR_lookup : ∀ (args : List AVal) (n t : Nat) (v : AVal), (argR n args).lookup t = some v → n ≤ t ∧ args[t - n]? = some v
  | [], n, t, v, h => by simp [argR] at h
  | x :: xs, n, t, v, h => by
    simp only [argR, List.lookup] at h
    by_cases e : t = n
    · subst e; simp at h; subst h; exact ⟨Nat.le_refl _, by simp⟩
    · have : (t == n) = false := by simpa using e
      rw [this] at h
      obtain ⟨h1, h2⟩ := argR_lookup xs (n + 1) t v h
      refine ⟨by omega, ?_⟩
      have : t - n = (t - (n + 1)) + 1 := by omega
      rw [this, List.getElem?_cons_succ]; exact h2

theorem ACall.of_body (hmx : P.follows .mixedOrders = true) {f : FuncId} {fn : Func} {code : Code} {ac : ACode} {rs : List ARes} {h : Hints} {args : List AVal} {σ : St} {Q : AVal → St → Prop} (hent : Enterable P f) (hf : P.funcs[f]? = some fn) (hb : fn.body = some code)
    (hc : comp P fn.ntmps h code = some ac) (hrs : listM (compRes P) fn.results.toList = some rs) (hn : args.length ≤ fn.ntmps) (hw : ac.wp P (retPost rs Q) (argR 0 args) σ) : ACall P f args σ Q := by
  refine ⟨hent, fun B w0 ρ I w cargs rl hsz hargs => calls_of_wp hf hb ?_⟩
  refine Code.wp_mono ?_ (code_sound hmx code ac hc _ _ σ ρ I _ w hw ?_ rl rfl ?_)
  · intro e a w' hl
    have key : Lift fn.ntmps B w0 ρ I σ (fun r σ => match resA r σ rs with | some v => Q v σ | none => False) a w' → a.defers = [] ∧ ∃ v, (results fn a.tmps).run P w' = .ok v w' ∧ ∃ v' σ' ρ' I' cv, Ending.returned v = .returned cv ∧ VRel ρ' I' v' cv ∧ Rel B w0 ρ' I' σ' w' ∧ Ext ρ I σ ρ' I' σ' ∧ Q v' σ' := by
      rintro ⟨r, σ', ρ', I', g1, g2, g3, g4, g5, g6⟩
      split at g6
      · rename_i v hv
        obtain ⟨cv, k1, k2⟩ := res_sound (P := P) g4 g3 hrs hv
        exact ⟨g1, cv, k1, v, σ', ρ', I', cv, rfl, k2, g3, g5, g6⟩
      · exact g6.elim
    cases e with
    | normal => exact key hl
    | ret => exact key hl
    | exit id =>
      obtain ⟨r, σ', ρ', I', g1, g2, g3, g4, g5, g6⟩ := hl
      exact g6.elim
    | goto l => exact (hl : False).elim
    | panic c => exact (hl : False).elim
    | outgrown => exact (hl : False).elim
  · intro t v hv
    obtain ⟨_, h2⟩ := argR_lookup args 0 t v hv
    rw [Nat.sub_zero] at h2
    obtain ⟨u, h3, h4⟩ := hargs.get t v h2
    have hlt := (Array.getElem?_eq_some_iff.1 h3).1
    exact ⟨u, by rw [Array.getElem?_append_left hlt]; exact h3, h4⟩
  · simp; omega

/-- A function's code and results. -/
def compF (P : Program) (fn : Func) (h : Hints) : Option (ACode × List ARes) :=
  fn.body.bind fun c => (comp P fn.ntmps h c).bind fun ac => (listM (compRes P) fn.results.toList).map fun rs => (ac, rs)

theorem ACall.of_compF (hmx : P.follows .mixedOrders = true) {f : FuncId} {fn : Func} {ac : ACode} {rs : List ARes} {h : Hints} (hent : Enterable P f) (hf : P.funcs[f]? = some fn) (hc : compF P fn h = some (ac, rs)) {n : Nat} (hn : n ≤ fn.ntmps) {args : List AVal} {σ : St} {Q : AVal → St → Prop} (hl : args.length = n)
    (hw : ac.wp P (retPost rs Q) (argR 0 args) σ) : ACall P f args σ Q := by
  simp only [compF, Option.bind_eq_some_iff, Option.map_eq_some_iff] at hc
  obtain ⟨c, h1, ac', h2, rs', h3, h4⟩ := hc
  cases h4
  exact ACall.of_body hmx hent hf h1 h2 h3 (by omega) hw

end
end Go.Proofs.Ytkfofdeceicfkaa.AM

/- A law's arguments as the abstract machine's values; what the machine says of a law, said of the world. -/
namespace Go.Proofs.Ytkfofdeceicfkaa.AM
open Go.RowKit Go.ChangeShapes Go.WideShapes
set_option linter.unusedVariables false
set_option linter.unusedSimpArgs false

def immOf (w : World) : Imm := fun k => match w.heap[k]? with
  | some (.cells c _ _) => some c
  | _ => none

theorem icell_immOf (w : World) (a : Addr) : icell (immOf w) a = w.cell? a := by
  unfold icell immOf World.cell?
  cases h : w.heap[a.block]? with
  | none => simp
  | some o => cases o <;> simp

abbrev σ0 : St := ⟨⟨[]⟩, 0⟩
abbrev ρ0 : Rho := fun _ => none

theorem rel0 (w : World) : Rel w.heap.size ⟨w, fun _ => True⟩ ρ0 (immOf w) σ0 w where
  low := Below.refl _ _
  base := Nat.le_refl _
  blk a p b h := by cases h
  inj a a' p p' b b' h := by cases h
  imm b c h := by
    unfold immOf at h
    split at h
    · rename_i c' e fr hh; cases h; exact ⟨e, fr, hh⟩
    · cases h
  sep a p b h := by cases h
  new a p b h := by cases h
  lt a p h := by cases h
  dom a _ := rfl
  memdom a _ := rfl
  ilow _ _ _ _ := trivial

theorem law_of_acall {P : Program} {f : FuncId} {args : List AVal} (h : ACall P f args σ0 fun v _ => v = .bool true) {W : World} {cargs : Array Value} (hs : cargs.size = args.length) (ha : CRel ρ0 (immOf W) args (fun j => cargs[j]?)) :
    Calls P f cargs W fun e W' => e = .returned (.bool true) ∧ Below W.heap.size W W' :=
  (h.2 _ _ _ _ W cargs (rel0 W) hs ha).mono fun e w' ⟨v, σ', ρ', I', cv, h1, h2, h3, h4, h5⟩ => by
    subst h5
    simp only [VRel] at h2; subst h2
    exact ⟨h1, h3.low⟩

/-- All weights of a datum are within the form's reach. -/
def WOk {H : Type} (P : Program) (t : TypeId) (d : DataW H) : Prop := ∀ n ∈ d.weights P t, n ≤ reachBytes

/-- Whatever reads as a datum of type t is such cells. -/
def Opens (P : Program) (t : TypeId) (ok : List AVal → Prop) : Prop :=
  ∀ (H : Type) (enc : TypeId × Value → H) (w : World) (base : Nat) (spare : Nat → Bool) (held : Bool) (fuel : Nat) (cs : List Value) (x : DataW H × List MemPlace),
    DataW.trod enc P w base spare held fuel t cs = some x → WOk P t x.1 → ∃ as : List AVal, as.length = cs.length ∧ as.all AVal.one = true ∧ CRel ρ0 (immOf w) as (fun j => cs[j]?) ∧ ok as

section
variable {P : Program} {t : TypeId}

theorem opens_int {k : IntKind} (ht : P.underlying t = some (.int k)) : Opens P t (fun as => ∃ n, as = [.int k n] ∧ (Lit.int k n).wf = true) := by
  intro H enc w base spare held fuel cs x h _
  obtain ⟨n, rfl, _, hw⟩ := DataW.trod_int ht h
  exact ⟨[.int k n], rfl, rfl, by simp [CRel, VRel], n, rfl, hw⟩

theorem opens_bool (ht : P.underlying t = some .bool) : Opens P t (fun as => ∃ b, as = [.bool b]) := by
  intro H enc w base spare held fuel cs x h _
  obtain ⟨n, rfl, _⟩ := DataW.trod_bool ht h
  exact ⟨[.bool n], rfl, rfl, by simp [CRel, VRel], n, rfl⟩

theorem opens_string (ht : P.underlying t = some .string) : Opens P t (fun as => ∃ s : ByteArray, as = [.str s] ∧ s.size ≤ 140737488351232) := by
  intro H enc w base spare held fuel cs x h hw
  obtain ⟨s, rfl, rfl, _⟩ := DataW.trod_string ht h
  refine ⟨[.str s], rfl, rfl, by simp [CRel, VRel], s, rfl, ?_⟩
  have := hw s.data.toList.length (by simp [DataW.weights])
  rw [Array.length_toList] at this
  exact this

/-- Fields from the offset o on. -/
def OpensF (P : Program) (n : Nat) (fs : List Field) (o : Nat) (ok : List AVal → Prop) : Prop :=
  ∀ (H : Type) (enc : TypeId × Value → H) (w : World) (base : Nat) (spare : Nat → Bool) (held : Bool) (m : Nat) (cs : List Value) (ys : List (DataW H × List MemPlace)), cs.length = n → ys.length = fs.length →
    (∀ (i : Nat) (f : Field), fs[i]? = some f → DataW.trod enc P w base spare held m f.type ((cs.drop (f.offset - o)).take (P.cellsOf f.type)) = ys[i]?) →
    (∀ m ∈ DataW.weightsEach P (fs.map (·.type)) (ys.map (·.1)), m ≤ reachBytes) → ∃ as : List AVal, as.length = cs.length ∧ as.all AVal.one = true ∧ CRel ρ0 (immOf w) as (fun j => cs[j]?) ∧ ok as

theorem opensF_one {n : Nat} {f : Field} {o : Nat} {ok : List AVal → Prop} (h : Opens P f.type ok) (ho : f.offset = o) (hc : P.cellsOf f.type = n) : OpensF P n [f] o ok := by
  intro H enc w base spare held m cs ys hl hy hf hw
  match ys, hy with
  | [y], _ =>
    have h1 := hf 0 f rfl
    rw [ho, Nat.sub_self, List.drop_zero, hc, List.take_of_length_le (by omega)] at h1
    exact h H enc w base spare held m cs y h1 (fun m hm => hw m (by simp [DataW.weightsEach, hm]))

theorem CRel.append {ρ : Rho} {I : Imm} {as bs : List AVal} {cs : List Value} (h1 : CRel ρ I as (fun j => (cs.take as.length)[j]?)) (h2 : CRel ρ I bs (fun j => (cs.drop as.length)[j]?)) : CRel ρ I (as ++ bs) (fun j => cs[j]?) := by
  refine CRel.mk fun j v hv => ?_
  by_cases hj : j < as.length
  · rw [List.getElem?_append_left hj] at hv
    obtain ⟨u, k1, k2⟩ := h1.get j v hv
    exact ⟨u, by rw [List.getElem?_take, if_pos hj] at k1; exact k1, k2⟩
  · rw [List.getElem?_append_right (by omega)] at hv
    obtain ⟨u, k1, k2⟩ := h2.get _ v hv
    exact ⟨u, by rw [List.getElem?_drop, show as.length + (j - as.length) = j by omega] at k1; exact k1, k2⟩

theorem opensF_cons {n m : Nat} {f : Field} {fs : List Field} {o : Nat} {ok ok' : List AVal → Prop} (h : Opens P f.type ok) (ho : f.offset = o) (hc : P.cellsOf f.type = n)
    (hle : (fs.all fun g => decide (o + n ≤ g.offset)) = true) (hr : OpensF P m fs (o + n) ok') : OpensF P (n + m) (f :: fs) o (fun x => ∃ a b, x = a ++ b ∧ ok a ∧ ok' b) := by
  intro H enc w base spare held k cs ys hl hy hf hw
  match ys, hy with
  | y :: ys, hy =>
    have h1 := hf 0 f rfl
    rw [ho, Nat.sub_self, List.drop_zero, hc] at h1
    obtain ⟨a, ha1, ha2, ha3, hoa⟩ := h H enc w base spare held k _ y h1 (fun m hm => hw m (by simp [DataW.weightsEach, hm]))
    obtain ⟨b, hb1, hb2, hb3, hob⟩ := hr H enc w base spare held k (cs.drop n) ys (by rw [List.length_drop]; omega) (by simpa using hy) (fun i g hg => by
      have h2 := hf (i + 1) g (by simpa using hg)
      have h3 := of_decide_eq_true (List.all_eq_true.1 hle g (List.mem_of_getElem? hg))
      rw [List.drop_drop, show n + (g.offset - (o + n)) = g.offset - o by omega]
      simpa using h2) (fun m hm => hw m (by simp [DataW.weightsEach, hm]))
    have han : a.length = n := by rw [ha1, List.length_take]; omega
    refine ⟨a ++ b, by rw [List.length_append, han, hb1, List.length_drop]; omega, by rw [List.all_append, ha2, hb2]; rfl, CRel.append (by rw [han]; exact ha3) (by rw [han]; exact hb3), a, b, rfl, hoa, hob⟩

theorem opens_struct {fs : Array Field} {n : Nat} (ht : P.underlying t = some (.struct fs)) (hc : P.cellsOf t = n) {ok : List AVal → Prop} (h : OpensF P n fs.toList 0 ok) : Opens P t ok := by
  intro H enc w base spare held fuel cs x hx hw
  obtain ⟨ys, m, _, rfl, hl, hyl, hf⟩ := DataW.trod_struct ht hx
  exact h H enc w base spare held m cs ys (by rw [hl, hc]) (by simpa using hyl) (fun i f hif => by
    have := hf i f (by simpa using hif)
    simpa using this) (fun m hm => hw m (by simp only [DataW.weights, ht]; exact hm))

theorem list_of {α : Type} {n : Nat} {p : Nat → α → Prop} (h : ∀ i, i < n → ∃ x, p i x) : ∃ l : List α, l.length = n ∧ ∀ i x, l[i]? = some x → p i x := by
  induction n with
  | zero => exact ⟨[], rfl, fun i x hx => by simp at hx⟩
  | succ n ih =>
    obtain ⟨l, hl, hp⟩ := ih fun i hi => h i (by omega)
    obtain ⟨y, hy⟩ := h n (by omega)
    refine ⟨l ++ [y], by simp [hl], fun i x hx => ?_⟩
    rcases Nat.lt_or_ge i l.length with hlt | hge
    · rw [List.getElem?_append_left hlt] at hx; exact hp i x hx
    · rw [List.getElem?_append_right hge] at hx
      have hi : i - l.length = 0 := by
        rcases Nat.eq_zero_or_pos (i - l.length) with h0 | h0
        · exact h0
        · rw [List.getElem?_eq_none (by simp; omega)] at hx; cases hx
      rw [hi] at hx
      simp only [List.getElem?_cons_zero, Option.some.injEq] at hx
      subst hx
      have : i = n := by omega
      subst this; exact hy

theorem weightsAll_mem {H : Type} {e : TypeId} : ∀ {l : List (DataW H)} {i : Nat} {d : DataW H}, l[i]? = some d → ∀ m ∈ d.weights P e, m ∈ DataW.weightsAll P e l
  | d0 :: l, 0, d, h, m, hm => by
    simp only [List.getElem?_cons_zero, Option.some.injEq] at h
    subst h
    simp [DataW.weightsAll, hm]
  | d0 :: l, i + 1, d, h, m, hm => by
    simp only [List.getElem?_cons_succ] at h
    simp only [DataW.weightsAll, List.mem_append]
    exact .inr (weightsAll_mem h m hm)

theorem flatten_get {α : Type} {n : Nat} : ∀ {xs : List (List α)}, (∀ x ∈ xs, x.length = n) → ∀ j, xs.flatten[j]? = if 0 < n then (xs[j / n]?).bind fun x => x[j % n]? else none
  | [], _, j => by simp
  | x :: xs, h, j => by
    have hx := h x (by simp)
    by_cases hn : 0 < n
    · rw [if_pos hn, List.flatten_cons]
      by_cases hj : j < n
      · rw [List.getElem?_append_left (by omega), Nat.div_eq_of_lt hj, Nat.mod_eq_of_lt hj]; simp
      · rw [List.getElem?_append_right (by omega), hx, flatten_get (fun y hy => h y (by simp [hy])), if_pos hn]
        have : j / n = (j - n) / n + 1 := by rw [Nat.div_eq_sub_div hn (by omega)]
        rw [this, List.getElem?_cons_succ, ← Nat.mod_eq_sub_mod (by omega)]
    · have hn0 : n = 0 := by omega
      rw [if_neg hn]
      have : (x :: xs).flatten = [] := by
        rw [List.flatten_eq_nil_iff]
        intro y hy
        exact List.eq_nil_of_length_eq_zero (by rw [h y hy, hn0])
      rw [this]; simp

theorem length_flatten {α : Type} {n : Nat} : ∀ {xs : List (List α)}, (∀ x ∈ xs, x.length = n) → xs.flatten.length = xs.length * n
  | [], _ => by simp
  | x :: xs, h => by rw [List.flatten_cons, List.length_append, h x (by simp), length_flatten (fun y hy => h y (by simp [hy])), List.length_cons, Nat.add_mul]; omega

/-- A slice: nil, or one that does not change. -/
theorem opens_slice {e : TypeId} {n b : Nat} {ok : List AVal → Prop} (ht : P.underlying t = some (.slice e)) (hc : P.cellsOf e = n) (hb : P.bytesOf e = b) (h : Opens P e ok) :
    Opens P t (fun as => as = [.nilsl] ∨ ∃ xs : List (List AVal), as = [.isl xs.flatten xs.length false] ∧ (∀ x ∈ xs, x.length = n ∧ ok x) ∧ xs.length ≤ 9223372036854775807 ∧ xs.length * b ≤ 140737488351232) := by
  intro H enc w base spare held fuel cs x hx hw
  rcases DataW.trod_slice ht hx with ⟨rfl, rfl⟩ | ⟨a, len, cap, elems, rest, m, _, rfl, rfl, hbb, hl, hm, hlen, hel, _, _⟩
  · exact ⟨[.nilsl], rfl, rfl, by simp [CRel, VRel], .inl rfl⟩
  · have hel' : ∀ i, i < len → ∃ y : List AVal, y.length = n ∧ y.all AVal.one = true ∧ CRel ρ0 (immOf w) y (fun j => w.cell? (a.add (i * n + j))) ∧ ok y := by
      intro i hi
      have h1 := hel i hi
      rw [List.getElem?_eq_getElem (by omega)] at h1
      obtain ⟨c, h2, h3⟩ := Option.bind_eq_some_iff.1 h1
      obtain ⟨_, hcl, hcc⟩ := World.cells?_some h2
      obtain ⟨y, hy1, hy2, hy3, hoy⟩ := h H enc w base spare held m c _ h3 (fun m hm' => hw m (by
        simp only [DataW.weights, ht, List.mem_cons, List.mem_append]
        refine .inr (.inl (weightsAll_mem (i := i) ?_ m hm'))
        rw [List.getElem?_map, List.getElem?_eq_getElem (by omega)]; rfl))
      refine ⟨y, by rw [hy1, hcl, hc], hy2, hy3.congr fun j hj => ?_, hoy⟩
      have h4 := hcc j (by rw [← hcl, ← hy1]; exact hj)
      rw [Go.Deep.add_add, hc] at h4
      exact h4.symm
    obtain ⟨xs, hxl, hp⟩ := list_of hel'
    have hall : ∀ x ∈ xs, x.length = n := fun x hx => by
      obtain ⟨i, hi⟩ := List.mem_iff_getElem?.1 hx
      exact (hp i x hi).1
    have h5 := hw _ (by simp only [DataW.weights, ht, List.mem_cons]; exact .inl rfl)
    rw [List.length_map, List.length_map, hlen] at h5
    refine ⟨[.isl xs.flatten xs.length false], rfl, rfl, ?_, .inr ⟨xs, rfl, fun x hx => ?_, ?_, ?_⟩⟩
    · simp only [CRel, VRel]
      refine ⟨⟨_, rfl, a, cap, by rw [hxl], by omega, by omega, (fun hh => by cases hh), ?_, ?_⟩, trivial⟩
      · rw [List.all_eq_true]; intro y hy
        obtain ⟨l, hl1, hl2⟩ := List.mem_flatten.1 hy
        obtain ⟨i, hi⟩ := List.mem_iff_getElem?.1 hl1
        exact List.all_eq_true.1 (hp i l hi).2.1 y hl2
      · refine CRel.mk fun j v hv => ?_
        rw [flatten_get hall] at hv
        split at hv
        · rename_i hn
          obtain ⟨x, hx1, hx2⟩ := Option.bind_eq_some_iff.1 hv
          obtain ⟨_, _, h6, _⟩ := hp _ x hx1
          obtain ⟨u, h7, h8⟩ := h6.get _ v hx2
          refine ⟨u, ?_, h8⟩
          rw [icell_immOf, ← h7]
          congr 2
          rw [Nat.mul_comm]; exact (Nat.div_add_mod j n).symm
        · cases hv
    · obtain ⟨i, hi⟩ := List.mem_iff_getElem?.1 hx
      exact ⟨(hp i x hi).1, (hp i x hi).2.2.2⟩
    · unfold maxLen at hm; omega
    · rw [hxl, ← hb]
      exact Nat.le_trans (Nat.mul_le_mul_right _ (Nat.le_add_right _ _)) h5

/-- Of the row's weights: one argument's. -/
theorem wok_of {H : Type} {ts : List TypeId} {ds : List (DataW H)} (hsz : (DataW.weightsEach P ts ds).all (· ≤ reachBytes) = true) {j : Nat} {d : DataW H} (ht : ts[j]? = some t) (hd : ds[j]? = some d) : WOk P t d := fun n hn => by
  simpa using List.all_eq_true.1 hsz _ (DataW.weights_mem_each ht hd n hn)

/-- An argument of one cell. -/
theorem top_one {H : Type} {enc : TypeId × Value → H} {w : World} {base : Nat} {spare : Nat → Bool} {held : Bool} {ok : List AVal → Prop} {v : Value} {d : DataW H} {ps : List MemPlace} (hO : Opens P t ok) (hv : v.cells = #[v]) (h : DataW.Trod enc P w base spare held t v d ps) (hw : WOk P t d) :
    ∃ a, ok [a] ∧ VRel ρ0 (immOf w) a v := by
  obtain ⟨fuel, hf⟩ := h
  rw [hv] at hf
  obtain ⟨as, h1, h2, h3, h4⟩ := hO H enc w base spare held fuel _ _ hf hw
  match as, h1 with
  | [a], _ =>
    simp only [CRel] at h3
    obtain ⟨⟨u, h5, h6⟩, _⟩ := h3
    simp at h5; subst h5
    exact ⟨a, h4, h6⟩

/-- A struct. -/
theorem top_agg {H : Type} {enc : TypeId × Value → H} {w : World} {base : Nat} {spare : Nat → Bool} {held : Bool} {ok : List AVal → Prop} {arr : Array Value} {d : DataW H} {ps : List MemPlace} (hO : Opens P t ok) (h : DataW.Trod enc P w base spare held t (.agg arr) d ps) (hw : WOk P t d) :
    ∃ as, ok as ∧ VRel ρ0 (immOf w) (.agg as) (.agg arr) := by
  obtain ⟨fuel, hf⟩ := h
  obtain ⟨as, h1, h2, h3, h4⟩ := hO H enc w base spare held fuel _ _ hf hw
  refine ⟨as, h4, ?_⟩
  simp only [VRel]
  exact ⟨arr, rfl, by simpa [Value.cells] using h1.symm, h2, by simpa [Value.cells] using h3⟩

end
end Go.Proofs.Ytkfofdeceicfkaa.AM

/- Closed runs of the abstract machine: what is computed from given values alone. -/
namespace Go.Proofs.Ytkfofdeceicfkaa.AM
set_option linter.unusedVariables false
set_option linter.unusedSimpArgs false

mutual
def AVal.same : AVal → AVal → Bool
  | .int k n, .int k' n' => decide (k = k') && decide (n = n')
  | .bool a, .bool b => a == b
  | .str a, .str b => decide (a = b)
  | .ptr a o, .ptr a' o' => decide (a = a') && decide (o = o')
  | .nilp, .nilp => true
  | .iptr cs, .iptr cs' => sameL cs cs'
  | .sl a o l c t, .sl a' o' l' c' t' => decide (a = a') && decide (o = o') && decide (l = l') && decide (c = c') && t == t'
  | .nilsl, .nilsl => true
  | .isl cs l t, .isl cs' l' t' => sameL cs cs' && decide (l = l') && t == t'
  | .map a, .map b => decide (a = b)
  | .nilmap, .nilmap => true
  | .nilfn, .nilfn => true
  | .niliface, .niliface => true
  | .agg cs, .agg cs' => sameL cs cs'
  | .tup cs, .tup cs' => sameL cs cs'
  | _, _ => false
def sameL : List AVal → List AVal → Bool
  | [], [] => true
  | x :: xs, y :: ys => AVal.same x y && sameL xs ys
  | _, _ => false
end

mutual
theorem AVal.same_eq : ∀ (x y : AVal), AVal.same x y = true → x = y
  | x, y, h => by
    cases x <;> cases y <;> simp only [AVal.same, Bool.and_eq_true, decide_eq_true_eq, beq_iff_eq, Bool.false_eq_true] at h <;> (try exact h.elim) <;> (try rfl)
    all_goals first
      | (obtain ⟨rfl, rfl⟩ := h; rfl)
      | (subst h; rfl)
      | (rw [sameL_eq _ _ h])
      | (obtain ⟨⟨⟨⟨rfl, rfl⟩, rfl⟩, rfl⟩, rfl⟩ := h; rfl)
      | (obtain ⟨⟨h, rfl⟩, rfl⟩ := h; rw [sameL_eq _ _ h])
theorem sameL_eq : ∀ (x y : List AVal), sameL x y = true → x = y
  | [], [], _ => rfl
  | x :: xs, [], h => by simp [sameL] at h
  | [], y :: ys, h => by simp [sameL] at h
  | x :: xs, y :: ys, h => by
    simp only [sameL, Bool.and_eq_true] at h
    rw [AVal.same_eq x y h.1, sameL_eq xs ys h.2]
end

abbrev CallF := FuncId → List AVal → St → Option (AVal × St)

def execI (cf : CallF) (i : AIns) (r : Regs) (σ : St) : Option (AVal × St) :=
  match i with
  | .op o => (o.mapM (evalOpd r)).bind (evalV σ)
  | .pick c a b => match evalOpd r c with
    | some (.bool t) => (if t then evalOpd r a else evalOpd r b).map (·, σ)
    | _ => none
  | .call f args => match evalOpd r f with
    | some (.fn f first caps) => match listM (evalOpd r) args with
      | some vs => cf f (first ++ vs ++ caps) σ
      | none => none
    | _ => none

def execR (cf : CallF) : List AOper → Regs → St → Option (Regs × St)
  | [], r, σ => some (r, σ)
  | o :: rest, r, σ => match o.guard with
    | none => match execI cf o.ins r σ with
      | some (v, σ') => execR cf rest (setR r o.dst v) σ'
      | none => none
    | some (t, want) => match r.lookup t with
      | some (.bool b) => if b = want then match execI cf o.ins r σ with
          | some (v, σ') => execR cf rest (setR r o.dst v) σ'
          | none => none
        else execR cf rest (delR r o.dst) σ
      | _ => none

def histB (i : AIns) (r : Regs) (σ : St) (σ' : St) : Bool :=
  match i with
  | .op o => match o.mapM (evalOpd r) with
    | some av => match evalV σ' av, evalV σ av with
      | some (x, _), some (y, _) => AVal.same x y
      | _, _ => false
    | none => true
  | _ => true

def againB (h : List (St → Bool)) (σ : St) : List Nat → Bool
  | [] => true
  | i :: is => (match h[i]? with
    | some p => p σ
    | none => false) && againB h σ is

def execD (cf : CallF) : List (AOper × List Nat) → Regs → St → List (St → Bool) → Option (Regs × St)
  | [], r, σ, _ => some (r, σ)
  | p :: rest, r, σ, h => match p.1.guard with
    | none => match execI cf p.1.ins r σ with
      | some (v, σ') => if againB h σ' p.2 then execD cf rest (setR r p.1.dst v) σ' (h ++ [histB p.1.ins r σ]) else none
      | none => none
    | some (t, want) => match r.lookup t with
      | some (.bool b) => if b = want then match execI cf p.1.ins r σ with
          | some (v, σ') => if againB h σ' p.2 then execD cf rest (setR r p.1.dst v) σ' (h ++ [histB p.1.ins r σ]) else none
          | none => none
        else execD cf rest (delR r p.1.dst) σ (h ++ [fun _ : St => true])
      | _ => none

def loopF (body : Regs → St → Option (AExit × Regs × St)) (keep : List Nat) : Nat → Regs → St → Option (AExit × Regs × St)
  | 0, _, _ => none
  | n + 1, r, σ => match body (norm keep r) σ with
    | some (.normal, r', σ') => loopF body keep n r' σ'
    | x => x

def execC (cf : CallF) (F : Nat) : ACode → Regs → St → Option (AExit × Regs × St)
  | .skip, r, σ => some (.normal, r, σ)
  | .reg keep ops, r, σ => (execR cf ops r σ).map fun x => (.normal, norm keep x.1, x.2)
  | .dreg keep ops, r, σ => (execD cf ops r σ []).map fun x => (.normal, norm keep x.1, x.2)
  | .seq a b, r, σ => match execC cf F a r σ with
    | some (.normal, r', σ') => execC cf F b r' σ'
    | x => x
  | .cond c a b, r, σ => match evalOpd r c with
    | some (.bool true) => execC cf F a r σ
    | some (.bool false) => execC cf F b r σ
    | _ => none
  | .block id a, r, σ => match execC cf F a r σ with
    | some (.exit j, r', σ') => if j = id then some (.normal, r', σ') else some (.exit j, r', σ')
    | x => x
  | .loop keep a, r, σ => loopF (execC cf F a) keep F r σ
  | .exit id, r, σ => some (.exit id, r, σ)
  | .ret, r, σ => some (.ret, r, σ)

abbrev Tab := FuncId → Option (ACode × List ARes × Nat)

def callT (T : Tab) (F : Nat) : Nat → CallF
  | 0 => fun _ _ _ => none
  | d + 1 => fun f args σ => match T f with
    | some (ac, rs, n) => if args.length = n then match execC (callT T F d) F ac (argR 0 args) σ with
        | some (.exit _, _, _) => none
        | some (_, r, σ') => (resA r σ' rs).map (·, σ')
        | none => none
      else none
    | none => none

def TabOk (P : Program) (T : Tab) : Prop := P.follows .mixedOrders = true ∧ ∀ f x, T f = some x → ∃ fn h, Enterable P f ∧ P.funcs[f]? = some fn ∧ compF P fn h = some (x.1, x.2.1) ∧ x.2.2 ≤ fn.ntmps

def CfOk (P : Program) (cf : CallF) : Prop := ∀ f args σ v σ', cf f args σ = some (v, σ') → ∀ Q : AVal → St → Prop, Q v σ' → ACall P f args σ Q

variable {P : Program} {cf : CallF}

theorem execI_wp (hcf : CfOk P cf) {i : AIns} {r : Regs} {σ σ' : St} {v : AVal} (h : execI cf i r σ = some (v, σ')) {Q : AVal → St → Prop} (hq : Q v σ') : i.wp P r σ Q := by
  cases i with
  | op o =>
    simp only [execI] at h
    simp only [AIns.wp, h]; exact hq
  | pick c a b =>
    simp only [execI] at h
    simp only [AIns.wp]
    split at h
    · rename_i t ht
      simp only [ht]
      cases hx : (if t then evalOpd r a else evalOpd r b) with
      | none => rw [hx] at h; cases h
      | some x =>
        rw [hx] at h
        simp only [Option.map_some, Option.some.injEq, Prod.mk.injEq] at h
        obtain ⟨rfl, rfl⟩ := h
        exact hq
    · cases h
  | call f args =>
    simp only [execI] at h
    simp only [AIns.wp]
    split at h
    · rename_i g xs ys hf
      simp only [hf]
      split at h
      · rename_i vs hvs
        simp only [hvs]
        exact hcf _ _ _ _ _ h _ hq
      · cases h
    · cases h

theorem execR_wp (hcf : CfOk P cf) : ∀ {ops : List AOper} {r r' : Regs} {σ σ' : St}, execR cf ops r σ = some (r', σ') → ∀ {Q : Regs → St → Prop}, Q r' σ' → rwp P ops r σ Q
  | [], r, r', σ, σ', h, Q, hq => by
    simp only [execR, Option.some.injEq, Prod.mk.injEq] at h
    obtain ⟨rfl, rfl⟩ := h
    exact hq
  | o :: rest, r, r', σ, σ', h, Q, hq => by
    simp only [execR] at h
    simp only [rwp]
    split at h
    · rename_i hg
      simp only [hg]
      split at h
      · rename_i v σ1 h1
        exact execI_wp hcf h1 (execR_wp hcf h hq)
      · cases h
    · rename_i t want hg
      simp only [hg]
      split at h
      · rename_i b hb
        simp only [hb]
        split at h
        · rename_i hbw
          rw [if_pos hbw]
          split at h
          · rename_i v σ1 h1
            exact execI_wp hcf h1 (execR_wp hcf h hq)
          · cases h
        · rename_i hbw
          rw [if_neg hbw]
          exact execR_wp hcf h hq
      · cases h

theorem histB_of {i : AIns} {r : Regs} {σ σ' : St} (h : histB i r σ σ' = true) : histOf i r σ σ' := by
  cases i with
  | op o =>
    simp only [histB] at h
    simp only [histOf]
    split at h
    · rename_i av hav
      simp only [hav]
      split at h
      · rename_i x s y s' hx hy
        rw [hx, hy, AVal.same_eq _ _ h]; rfl
      · cases h
    · rename_i hn
      simp only [hn]
  | pick c a b => trivial
  | call f args => trivial

theorem againB_of {hb : List (St → Bool)} {h : Hist} (hl : h.length = hb.length) (hh : ∀ (i : Nat) (p : St → Bool) (q : St → Prop), hb[i]? = some p → h[i]? = some q → ∀ σ, p σ = true → q σ) {σ : St} : ∀ {is : List Nat}, againB hb σ is = true → again h σ is
  | [], _ => trivial
  | i :: is, hx => by
    simp only [againB, Bool.and_eq_true] at hx
    refine ⟨?_, againB_of hl hh hx.2⟩
    have h1 := hx.1
    split at h1
    · rename_i p hp
      have hlt := (List.getElem?_eq_some_iff.1 hp).1
      rw [← hl] at hlt
      rw [List.getElem?_eq_getElem hlt]
      exact hh i p _ hp (List.getElem?_eq_getElem hlt) σ h1
    · cases h1

theorem snoc_ok {hb : List (St → Bool)} {h : Hist} {p : St → Bool} {q : St → Prop} (hl : h.length = hb.length) (hh : ∀ (i : Nat) (p : St → Bool) (q : St → Prop), hb[i]? = some p → h[i]? = some q → ∀ σ, p σ = true → q σ) (hpq : ∀ σ, p σ = true → q σ) :
    (h ++ [q]).length = (hb ++ [p]).length ∧ ∀ (i : Nat) (p' : St → Bool) (q' : St → Prop), (hb ++ [p])[i]? = some p' → (h ++ [q])[i]? = some q' → ∀ σ, p' σ = true → q' σ := by
  refine ⟨by simp [hl], fun i p' q' h1 h2 => ?_⟩
  by_cases hi : i < hb.length
  · rw [List.getElem?_append_left hi] at h1
    rw [List.getElem?_append_left (by omega)] at h2
    exact hh i p' q' h1 h2
  · rw [List.getElem?_append_right (by omega)] at h1 h2
    rw [hl] at h2
    cases hk : i - hb.length with
    | zero =>
      rw [hk] at h1 h2
      simp only [List.getElem?_cons_zero, Option.some.injEq] at h1 h2
      subst h1; subst h2; exact hpq
    | succ k => rw [hk] at h1; simp at h1

theorem execD_wp (hcf : CfOk P cf) : ∀ {ops : List (AOper × List Nat)} {r r' : Regs} {σ σ' : St} {hb : List (St → Bool)} {hs : Hist}, execD cf ops r σ hb = some (r', σ') → hs.length = hb.length → (∀ (i : Nat) (p : St → Bool) (q : St → Prop), hb[i]? = some p → hs[i]? = some q → ∀ σ, p σ = true → q σ) → ∀ {Q : Regs → St → Prop}, Q r' σ' → dwp P ops r σ hs Q
  | [], r, r', σ, σ', hb, hs, h, hl, hh, Q, hq => by
    simp only [execD, Option.some.injEq, Prod.mk.injEq] at h
    obtain ⟨rfl, rfl⟩ := h
    exact hq
  | o :: rest, r, r', σ, σ', hb, hs, h, hl, hh, Q, hq => by
    simp only [execD] at h
    simp only [dwp]
    split at h
    · rename_i hg
      simp only [hg]
      split at h
      · rename_i v σ1 h1
        split at h
        · rename_i hag
          have k := snoc_ok hl hh (p := histB o.1.ins r σ) (q := histOf o.1.ins r σ) fun _ => histB_of
          exact execI_wp hcf h1 ⟨againB_of hl hh hag, execD_wp hcf h k.1 k.2 hq⟩
        · cases h
      · cases h
    · rename_i t want hg
      simp only [hg]
      split at h
      · rename_i b hb'
        simp only [hb']
        split at h
        · rename_i hbw
          rw [if_pos hbw]
          split at h
          · rename_i v σ1 h1
            split at h
            · rename_i hag
              have k := snoc_ok hl hh (p := histB o.1.ins r σ) (q := histOf o.1.ins r σ) fun _ => histB_of
              exact execI_wp hcf h1 ⟨againB_of hl hh hag, execD_wp hcf h k.1 k.2 hq⟩
            · cases h
          · cases h
        · rename_i hbw
          rw [if_neg hbw]
          have k := snoc_ok hl hh (p := fun _ : St => true) (q := fun _ : St => True) fun _ _ => trivial
          exact execD_wp hcf h k.1 k.2 hq
      · cases h

theorem wp_mono' : ∀ {ac : ACode} {Q Q' : Post} {r : Regs} {σ : St}, ac.wp P Q r σ → (∀ e r σ, Q e r σ → Q' e r σ) → ac.wp P Q' r σ := by
  have hi : ∀ (i : AIns) (r : Regs) (σ : St) (Q Q' : AVal → St → Prop), i.wp P r σ Q → (∀ v σ, Q v σ → Q' v σ) → i.wp P r σ Q' := by
    intro i r σ Q Q' h hq
    cases i with
    | op o => simp only [AIns.wp] at h ⊢; split at h <;> simp_all
    | pick c a b =>
      simp only [AIns.wp] at h ⊢
      split at h
      · split at h
        · simp_all
        · exact h.elim
      · exact h.elim
    | call f args =>
      simp only [AIns.wp] at h ⊢
      split at h
      · rename_i g xs ys hf
        split at h
        · rename_i vs hvs; exact h.mono hq
        · exact h.elim
      · exact h.elim
  have hr : ∀ (ops : List AOper) (r : Regs) (σ : St) (Q Q' : Regs → St → Prop), rwp P ops r σ Q → (∀ v σ, Q v σ → Q' v σ) → rwp P ops r σ Q' := by
    intro ops
    induction ops with
    | nil => intro r σ Q Q' h hq; exact hq _ _ h
    | cons o rest ih =>
      intro r σ Q Q' h hq
      simp only [rwp] at h ⊢
      split at h
      · rename_i hg; exact hi _ _ _ _ _ h fun v σ h => ih _ _ _ _ h hq
      · split at h
        · rename_i hb
          split at h
          · rename_i hbw; simp only [if_pos hbw]; exact hi _ _ _ _ _ h fun v σ h => ih _ _ _ _ h hq
          · rename_i hbw; simp only [if_neg hbw]; exact ih _ _ _ _ h hq
        · exact h.elim
  have hd : ∀ (ops : List (AOper × List Nat)) (r : Regs) (σ : St) (hs : Hist) (Q Q' : Regs → St → Prop), dwp P ops r σ hs Q → (∀ v σ, Q v σ → Q' v σ) → dwp P ops r σ hs Q' := by
    intro ops
    induction ops with
    | nil => intro r σ hs Q Q' h hq; exact hq _ _ h
    | cons o rest ih =>
      intro r σ hs Q Q' h hq
      simp only [dwp] at h ⊢
      split at h
      · rename_i hg; exact hi _ _ _ _ _ h fun v σ h => ⟨h.1, ih _ _ _ _ _ h.2 hq⟩
      · split at h
        · rename_i hb
          split at h
          · rename_i hbw; simp only [if_pos hbw]; exact hi _ _ _ _ _ h fun v σ h => ⟨h.1, ih _ _ _ _ _ h.2 hq⟩
          · rename_i hbw; simp only [if_neg hbw]; exact ih _ _ _ _ _ h hq
        · exact h.elim
  intro ac
  induction ac with
  | skip => intro Q Q' r σ h hq; exact hq _ _ _ h
  | reg keep ops => intro Q Q' r σ h hq; exact hr _ _ _ _ _ h fun r σ h => hq _ _ _ h
  | dreg keep ops => intro Q Q' r σ h hq; exact hd _ _ _ _ _ _ h fun r σ h => hq _ _ _ h
  | seq a b iha ihb =>
    intro Q Q' r σ h hq
    refine iha h fun e r σ h => ?_
    cases e with
    | normal => exact ihb h hq
    | exit _ => exact hq _ _ _ h
    | ret => exact hq _ _ _ h
  | cond c a b iha ihb =>
    intro Q Q' r σ h hq
    simp only [ACode.wp] at h ⊢
    split at h
    · rename_i t ht
      cases t
      · exact ihb h hq
      · exact iha h hq
    · exact h.elim
  | block id a iha =>
    intro Q Q' r σ h hq
    refine iha h fun e r σ h => ?_
    cases e with
    | normal => exact hq _ _ _ h
    | exit j =>
      simp only at h ⊢
      split at h
      · rename_i hj; rw [if_pos hj]; exact hq _ _ _ h
      · rename_i hj; rw [if_neg hj]; exact hq _ _ _ h
    | ret => exact hq _ _ _ h
  | loop keep a iha =>
    intro Q Q' r σ h hq
    obtain ⟨J, n, h1, h2⟩ := h
    refine ⟨J, n, h1, fun m r σ hj => iha (h2 m r σ hj) fun e r σ h => ?_⟩
    cases e with
    | normal => exact h
    | exit _ => exact hq _ _ _ h
    | ret => exact hq _ _ _ h
  | exit id => intro Q Q' r σ h hq; exact hq _ _ _ h
  | ret => intro Q Q' r σ h hq; exact hq _ _ _ h

theorem execC_wp (hcf : CfOk P cf) {F : Nat} : ∀ {ac : ACode} {r r' : Regs} {σ σ' : St} {e : AExit}, execC cf F ac r σ = some (e, r', σ') → ∀ {Q : Post}, Q e r' σ' → ac.wp P Q r σ := by
  intro ac
  induction ac with
  | skip =>
    intro r r' σ σ' e h Q hq
    simp only [execC, Option.some.injEq, Prod.mk.injEq] at h
    obtain ⟨rfl, rfl, rfl⟩ := h
    exact hq
  | reg keep ops =>
    intro r r' σ σ' e h Q hq
    simp only [execC, Option.map_eq_some_iff, Prod.mk.injEq] at h
    obtain ⟨x, hx, rfl, rfl, rfl⟩ := h
    exact execR_wp hcf hx hq
  | dreg keep ops =>
    intro r r' σ σ' e h Q hq
    simp only [execC, Option.map_eq_some_iff, Prod.mk.injEq] at h
    obtain ⟨x, hx, rfl, rfl, rfl⟩ := h
    exact execD_wp hcf hx rfl (fun i p q hp => by simp at hp) hq
  | seq a b iha ihb =>
    intro r r' σ σ' e h Q hq
    simp only [execC] at h
    simp only [ACode.wp]
    split at h
    · rename_i r1 σ1 h1
      exact iha h1 (ihb h hq)
    · rename_i hne
      refine iha h ?_
      cases e with
      | normal => exact absurd h (by intro h; exact hne _ _ h)
      | exit _ => exact hq
      | ret => exact hq
  | cond c a b iha ihb =>
    intro r r' σ σ' e h Q hq
    simp only [execC] at h
    simp only [ACode.wp]
    split at h
    · rename_i hc; simp only [hc, if_true]; exact iha h hq
    · rename_i hc; simp only [hc, Bool.false_eq_true, if_false]; exact ihb h hq
    · cases h
  | block id a iha =>
    intro r r' σ σ' e h Q hq
    simp only [execC] at h
    simp only [ACode.wp]
    split at h
    · rename_i j r1 σ1 h1
      refine iha h1 ?_
      simp only
      split at h
      · rename_i hj
        simp only [Option.some.injEq, Prod.mk.injEq] at h
        obtain ⟨rfl, rfl, rfl⟩ := h
        rw [if_pos hj]; exact hq
      · rename_i hj
        simp only [Option.some.injEq, Prod.mk.injEq] at h
        obtain ⟨rfl, rfl, rfl⟩ := h
        rw [if_neg hj]; exact hq
    · rename_i hne
      refine iha h ?_
      cases e with
      | normal => exact hq
      | exit j => exact absurd h (by intro h; exact hne _ _ _ h)
      | ret => exact hq
  | loop keep a iha =>
    intro r r' σ σ' e h Q hq
    simp only [execC] at h
    simp only [ACode.wp]
    have key : ∀ n r, loopF (execC cf F a) keep n r σ = some (e, r', σ') → True := fun _ _ _ => trivial
    refine ⟨fun n r1 σ1 => ∃ r0, r1 = norm keep r0 ∧ loopF (execC cf F a) keep n r0 σ1 = some (e, r', σ'), F, ⟨r, rfl, h⟩, ?_⟩
    rintro m r1 σ1 ⟨r0, rfl, hm⟩
    cases m with
    | zero => simp [loopF] at hm
    | succ m =>
      simp only [loopF] at hm
      split at hm
      · rename_i r2 σ2 h2
        exact iha h2 ⟨m, Nat.lt_succ_self m, r2, rfl, hm⟩
      · rename_i hne
        refine iha hm ?_
        cases e with
        | normal => exact absurd hm (by intro hm; exact hne _ _ hm)
        | exit _ => exact hq
        | ret => exact hq
  | exit id =>
    intro r r' σ σ' e h Q hq
    simp only [execC, Option.some.injEq, Prod.mk.injEq] at h
    obtain ⟨rfl, rfl, rfl⟩ := h
    exact hq
  | ret =>
    intro r r' σ σ' e h Q hq
    simp only [execC, Option.some.injEq, Prod.mk.injEq] at h
    obtain ⟨rfl, rfl, rfl⟩ := h
    exact hq

theorem callT_ok {T : Tab} (hT : TabOk P T) {F : Nat} : ∀ d, CfOk P (callT T F d)
  | 0 => fun f args σ v σ' h => by simp [callT] at h
  | d + 1 => fun f args σ v σ' h Q hq => by
    simp only [callT] at h
    split at h
    · rename_i ac rs n hf
      split at h
      · rename_i hn
        obtain ⟨fn, hh, h1, h2, h3, h4⟩ := hT.2 f _ hf
        refine ACall.of_compF hT.1 h1 h2 h3 h4 hn ?_
        split at h
        · cases h
        · rename_i e r σ1 hx he
          refine execC_wp (callT_ok hT d) he ?_
          simp only [Option.map_eq_some_iff, Prod.mk.injEq] at h
          obtain ⟨u, hu, rfl, rfl⟩ := h
          cases e with
          | normal => simp only [retPost, hu]; exact hq
          | exit j => exact (hx _ rfl).elim
          | ret => simp only [retPost, hu]; exact hq
        · cases h
      · cases h
    · cases h

abbrev TabL := List (FuncId × ACode × List ARes × Nat)

def look : TabL → Tab
  | [], _ => none
  | (g, x) :: l, f => if f = g then some x else look l f

theorem tab_nil (h : P.follows .mixedOrders = true) : TabOk P (look []) := ⟨h, fun f x hx => by cases hx⟩

theorem tab_cons {l : TabL} (hl : TabOk P (look l)) {f : FuncId} {fn : Func} {ac : ACode} {rs : List ARes} {h : Hints} {n : Nat} (hent : Enterable P f) (hf : P.funcs[f]? = some fn) (hc : compF P fn h = some (ac, rs)) (hn : n ≤ fn.ntmps) : TabOk P (look ((f, ac, rs, n) :: l)) := by
  refine ⟨hl.1, fun g x hx => ?_⟩
  simp only [look] at hx
  split at hx
  · rename_i hg; subst hg
    injection hx with hx; subst hx
    exact ⟨fn, h, hent, hf, hc, hn⟩
  · exact hl.2 g x hx

theorem ACall.of_run {T : Tab} (hT : TabOk P T) (F d : Nat) {f : FuncId} {args : List AVal} {σ : St} {v : AVal} {σ' : St} (h : callT T F d f args σ = some (v, σ')) {Q : AVal → St → Prop} (hq : Q v σ') : ACall P f args σ Q :=
  callT_ok hT d f args σ v σ' h Q hq

end Go.Proofs.Ytkfofdeceicfkaa.AM

/- What a call may leave out: a call that neither is given memory nor gives any leaves the abstract memory as it was. -/
namespace Go.Proofs.Ytkfofdeceicfkaa.AM
open Go.RowKit
set_option linter.unusedVariables false
set_option linter.unusedSimpArgs false

mutual
/-- All blocks that it names are below n. -/
def AVal.upto (n : Nat) : AVal → Bool
  | .ptr a _ => decide (a < n)
  | .iptr cs => uptoL n cs
  | .sl a _ _ _ _ => decide (a < n)
  | .isl cs _ _ => uptoL n cs
  | .map a => decide (a < n)
  | .fn _ xs ys => uptoL n xs && uptoL n ys
  | .iface _ v => AVal.upto n v
  | .agg cs => uptoL n cs
  | .tup vs => uptoL n vs
  | _ => true
def uptoL (n : Nat) : List AVal → Bool
  | [] => true
  | v :: vs => AVal.upto n v && uptoL n vs
end

mutual
/-- It holds no memory at all. -/
def AVal.flat : AVal → Bool
  | .ptr .. => false
  | .iptr _ => false
  | .sl .. => false
  | .isl .. => false
  | .map _ => false
  | .fn _ xs ys => flatL xs && flatL ys
  | .iface _ v => AVal.flat v
  | .agg cs => flatL cs
  | .tup vs => flatL vs
  | _ => true
def flatL : List AVal → Bool
  | [] => true
  | v :: vs => AVal.flat v && flatL vs
end

section
variable {ρ ρ' : Rho} {I I' : Imm} {n : Nat}

mutual
theorem VRel.agree (h : ∀ a, a < n → ρ' a = ρ a) : (v : AVal) → (cv : Value) → v.upto n = true → VRel ρ I v cv → VRel ρ' I v cv
  | .ptr a o, cv, hu, hv => by
    simp only [AVal.upto, decide_eq_true_eq] at hu
    simp only [VRel] at hv ⊢; rw [h a hu]; exact hv
  | .iptr cs, cv, hu, hv => by
    simp only [AVal.upto] at hu
    simp only [VRel] at hv ⊢
    obtain ⟨ad, h1, h2, h3⟩ := hv
    exact ⟨ad, h1, h2, CRel.agree h cs _ hu h3⟩
  | .sl a o len cap t, cv, hu, hv => by
    simp only [AVal.upto, decide_eq_true_eq] at hu
    simp only [VRel] at hv ⊢; rw [h a hu]; exact hv
  | .isl cs len t, cv, hu, hv => by
    simp only [AVal.upto] at hu
    simp only [VRel] at hv ⊢
    obtain ⟨ad, c, h1, h2, h3, h4, h5, h6⟩ := hv
    exact ⟨ad, c, h1, h2, h3, h4, h5, CRel.agree h cs _ hu h6⟩
  | .map a, cv, hu, hv => by
    simp only [AVal.upto, decide_eq_true_eq] at hu
    simp only [VRel] at hv ⊢; rw [h a hu]; exact hv
  | .fn f xs ys, cv, hu, hv => by
    simp only [AVal.upto, Bool.and_eq_true] at hu
    simp only [VRel] at hv ⊢
    obtain ⟨x, y, h1, h2, h3, h4, h5⟩ := hv
    exact ⟨x, y, h1, h2, h3, CRel.agree h xs _ hu.1 h4, CRel.agree h ys _ hu.2 h5⟩
  | .iface t x, cv, hu, hv => by
    simp only [AVal.upto] at hu
    simp only [VRel] at hv ⊢
    obtain ⟨x', h1, h2⟩ := hv
    exact ⟨x', h1, VRel.agree h x x' hu h2⟩
  | .agg cs, cv, hu, hv => by
    simp only [AVal.upto] at hu
    simp only [VRel] at hv ⊢
    obtain ⟨x', h1, h2, h3, h4⟩ := hv
    exact ⟨x', h1, h2, h3, CRel.agree h cs _ hu h4⟩
  | .tup cs, cv, hu, hv => by
    simp only [AVal.upto] at hu
    simp only [VRel] at hv ⊢
    obtain ⟨x', h1, h2, h3⟩ := hv
    exact ⟨x', h1, h2, CRel.agree h cs _ hu h3⟩
  | .int k m, cv, _, hv => by simp only [VRel] at hv ⊢; exact hv
  | .bool b, cv, _, hv => by simp only [VRel] at hv ⊢; exact hv
  | .str s, cv, _, hv => by simp only [VRel] at hv ⊢; exact hv
  | .nilp, cv, _, hv => by simp only [VRel] at hv ⊢; exact hv
  | .nilsl, cv, _, hv => by simp only [VRel] at hv ⊢; exact hv
  | .nilmap, cv, _, hv => by simp only [VRel] at hv ⊢; exact hv
  | .nilfn, cv, _, hv => by simp only [VRel] at hv ⊢; exact hv
  | .niliface, cv, _, hv => by simp only [VRel] at hv ⊢; exact hv
theorem CRel.agree (h : ∀ a, a < n → ρ' a = ρ a) : (cs : List AVal) → (f : Nat → Option Value) → uptoL n cs = true → CRel ρ I cs f → CRel ρ' I cs f
  | [], f, _, _ => trivial
  | c :: cs, f, hu, hv => by
    simp only [uptoL, Bool.and_eq_true] at hu
    simp only [CRel] at hv ⊢
    obtain ⟨⟨u, h1, h2⟩, h3⟩ := hv
    exact ⟨⟨u, h1, VRel.agree h c u hu.1 h2⟩, CRel.agree h cs _ hu.2 h3⟩
end

mutual
theorem VRel.upto (h : ∀ a, n ≤ a → ρ a = none) : (v : AVal) → (cv : Value) → VRel ρ I v cv → v.upto n = true
  | .ptr a o, cv, hv => by
    simp only [VRel] at hv
    obtain ⟨p, h1, _⟩ := hv
    simp only [AVal.upto, decide_eq_true_eq]
    exact Nat.lt_of_not_le fun hle => by rw [h a hle] at h1; cases h1
  | .iptr cs, cv, hv => by
    simp only [VRel] at hv
    obtain ⟨ad, h1, h2, h3⟩ := hv
    simp only [AVal.upto]; exact CRel.uptoL h cs _ h3
  | .sl a o len cap t, cv, hv => by
    simp only [VRel] at hv
    obtain ⟨p, _, _, h1, _⟩ := hv
    simp only [AVal.upto, decide_eq_true_eq]
    exact Nat.lt_of_not_le fun hle => by rw [h a hle] at h1; cases h1
  | .isl cs len t, cv, hv => by
    simp only [VRel] at hv
    obtain ⟨ad, c, h1, h2, h3, h4, h5, h6⟩ := hv
    simp only [AVal.upto]; exact CRel.uptoL h cs _ h6
  | .map a, cv, hv => by
    simp only [VRel] at hv
    obtain ⟨p, h1, _⟩ := hv
    simp only [AVal.upto, decide_eq_true_eq]
    exact Nat.lt_of_not_le fun hle => by rw [h a hle] at h1; cases h1
  | .fn f xs ys, cv, hv => by
    simp only [VRel] at hv
    obtain ⟨x, y, h1, h2, h3, h4, h5⟩ := hv
    simp only [AVal.upto, Bool.and_eq_true]
    exact ⟨CRel.uptoL h xs _ h4, CRel.uptoL h ys _ h5⟩
  | .iface t x, cv, hv => by
    simp only [VRel] at hv
    obtain ⟨x', h1, h2⟩ := hv
    simp only [AVal.upto]; exact VRel.upto h x x' h2
  | .agg cs, cv, hv => by
    simp only [VRel] at hv
    obtain ⟨x', h1, h2, h3, h4⟩ := hv
    simp only [AVal.upto]; exact CRel.uptoL h cs _ h4
  | .tup cs, cv, hv => by
    simp only [VRel] at hv
    obtain ⟨x', h1, h2, h3⟩ := hv
    simp only [AVal.upto]; exact CRel.uptoL h cs _ h3
  | .int k m, cv, _ => rfl
  | .bool b, cv, _ => rfl
  | .str s, cv, _ => rfl
  | .nilp, cv, _ => rfl
  | .nilsl, cv, _ => rfl
  | .nilmap, cv, _ => rfl
  | .nilfn, cv, _ => rfl
  | .niliface, cv, _ => rfl
theorem CRel.uptoL (h : ∀ a, n ≤ a → ρ a = none) : (cs : List AVal) → (f : Nat → Option Value) → CRel ρ I cs f → uptoL n cs = true
  | [], f, _ => rfl
  | c :: cs, f, hv => by
    simp only [CRel] at hv
    obtain ⟨⟨u, h1, h2⟩, h3⟩ := hv
    simp only [uptoL, Bool.and_eq_true]
    exact ⟨VRel.upto h c u h2, CRel.uptoL h cs _ h3⟩
end

mutual
theorem VRel.flat : (v : AVal) → (cv : Value) → v.flat = true → VRel ρ I v cv → VRel ρ' I' v cv
  | .ptr a o, cv, hu, hv => by simp [AVal.flat] at hu
  | .iptr cs, cv, hu, hv => by simp [AVal.flat] at hu
  | .sl a o len cap t, cv, hu, hv => by simp [AVal.flat] at hu
  | .isl cs len t, cv, hu, hv => by simp [AVal.flat] at hu
  | .map a, cv, hu, hv => by simp [AVal.flat] at hu
  | .fn f xs ys, cv, hu, hv => by
    simp only [AVal.flat, Bool.and_eq_true] at hu
    simp only [VRel] at hv ⊢
    obtain ⟨x, y, h1, h2, h3, h4, h5⟩ := hv
    exact ⟨x, y, h1, h2, h3, CRel.flat xs _ hu.1 h4, CRel.flat ys _ hu.2 h5⟩
  | .iface t x, cv, hu, hv => by
    simp only [AVal.flat] at hu
    simp only [VRel] at hv ⊢
    obtain ⟨x', h1, h2⟩ := hv
    exact ⟨x', h1, VRel.flat x x' hu h2⟩
  | .agg cs, cv, hu, hv => by
    simp only [AVal.flat] at hu
    simp only [VRel] at hv ⊢
    obtain ⟨x', h1, h2, h3, h4⟩ := hv
    exact ⟨x', h1, h2, h3, CRel.flat cs _ hu h4⟩
  | .tup cs, cv, hu, hv => by
    simp only [AVal.flat] at hu
    simp only [VRel] at hv ⊢
    obtain ⟨x', h1, h2, h3⟩ := hv
    exact ⟨x', h1, h2, CRel.flat cs _ hu h3⟩
  | .int k m, cv, _, hv => by simp only [VRel] at hv ⊢; exact hv
  | .bool b, cv, _, hv => by simp only [VRel] at hv ⊢; exact hv
  | .str s, cv, _, hv => by simp only [VRel] at hv ⊢; exact hv
  | .nilp, cv, _, hv => by simp only [VRel] at hv ⊢; exact hv
  | .nilsl, cv, _, hv => by simp only [VRel] at hv ⊢; exact hv
  | .nilmap, cv, _, hv => by simp only [VRel] at hv ⊢; exact hv
  | .nilfn, cv, _, hv => by simp only [VRel] at hv ⊢; exact hv
  | .niliface, cv, _, hv => by simp only [VRel] at hv ⊢; exact hv
theorem CRel.flat : (cs : List AVal) → (f : Nat → Option Value) → flatL cs = true → CRel ρ I cs f → CRel ρ' I' cs f
  | [], f, _, _ => trivial
  | c :: cs, f, hu, hv => by
    simp only [flatL, Bool.and_eq_true] at hu
    simp only [CRel] at hv ⊢
    obtain ⟨⟨u, h1, h2⟩, h3⟩ := hv
    exact ⟨⟨u, h1, VRel.flat c u hu.1 h2⟩, CRel.flat cs _ hu.2 h3⟩
end

theorem BRel.agree {N : Nat} (h : ∀ a, a < N → ρ' a = ρ a) {ρ0 : Rho} {I0 : Imm} {w0 w : World} {p0 p : Place} {b : Blk} (h0 : ∀ a, N ≤ a → ρ0 a = none) (hb0 : BRel ρ0 I0 w0 p0 b) (hb : BRel ρ I w p b) : BRel ρ' I w p b := by
  cases b with
  | cells es vals =>
    obtain ⟨_, _, _, c0, _, _, _, _, _, g⟩ := hb0
    obtain ⟨k1, k2, k3, c, e, fr, k4, k5, k6, k7⟩ := hb
    exact ⟨k1, k2, k3, c, e, fr, k4, k5, k6, CRel.agree h _ _ (CRel.uptoL h0 _ _ g) k7⟩
  | ro es vals =>
    obtain ⟨_, _, c0, _, g⟩ := hb0
    obtain ⟨k1, k2, c, k3, k4⟩ := hb
    exact ⟨k1, k2, c, k3, CRel.agree h _ _ (CRel.uptoL h0 _ _ g) k4⟩
  | map ents =>
    obtain ⟨a0, c0, _, _, g, _⟩ := hb0
    obtain ⟨a, c, k1, k2, k3, k4⟩ := hb
    refine ⟨a, c, k1, k2, fun j x hx => ?_, k4⟩
    obtain ⟨m, m1, m2, m3, m4⟩ := k3 j x hx
    obtain ⟨_, _, g2, g3, _⟩ := g j x hx
    exact ⟨m, m1, VRel.agree h _ _ (VRel.upto h0 _ _ g2) m2, VRel.agree h _ _ (VRel.upto h0 _ _ g3) m3, m4⟩
  | mapIter m left => trivial

end

/-- What was there is as it was. -/
def Old (σ σ' : St) : Prop := ∀ a, a < σ.next → σ'.mem.get a = σ.mem.get a

section
variable {P : Program} {B : Nat} {w0 : Root} {w w' : World} {ρ ρ' : Rho} {I I' : Imm} {σ σ' : St}

/-- What is new is left out. -/
theorem Rel.scrub (rl : Rel B w0 ρ I σ w) (rl' : Rel B w0 ρ' I' σ' w') (ex : Ext ρ I σ ρ' I' σ') (ho : Old σ σ') : Rel B w0 ρ I' σ w' where
  low := rl'.low
  base := rl'.base
  blk a p b h1 h2 := by
    have ha := rl.mlt h2
    refine BRel.agree (N := σ.next) (fun x hx => (ex.rho x hx).symm) rl.dom (rl.blk a p b h1 h2) (rl'.blk a p b (by rw [ex.rho a ha]; exact h1) (by rw [ho a ha]; exact h2))
  inj a a' p p' b b' h1 h2 h3 h4 := by
    have ha := rl.mlt h3
    have ha' := rl.mlt h4
    exact rl'.inj a a' p p' b b' (by rw [ex.rho a ha]; exact h1) (by rw [ex.rho a' ha']; exact h2) (by rw [ho a ha]; exact h3) (by rw [ho a' ha']; exact h4)
  imm := rl'.imm
  sep a p b h1 h2 := by
    have ha := rl.mlt h2
    exact rl'.sep a p b (by rw [ex.rho a ha]; exact h1) (by rw [ho a ha]; exact h2)
  new a p b h1 h2 := by
    have ha := rl.mlt h2
    exact rl'.new a p b (by rw [ex.rho a ha]; exact h1) (by rw [ho a ha]; exact h2)
  lt a p h1 := rl'.lt a p (by rw [ex.rho a (rl.rlt h1)]; exact h1)
  dom := rl.dom
  memdom := rl.memdom
  ilow := rl'.ilow

theorem ACall.scrub {f : FuncId} {args : List AVal} {Q : AVal → St → Prop} (h : ACall P f args σ fun v σ' => v.upto σ.next = true ∧ Old σ σ' ∧ Q v σ) : ACall P f args σ Q := by
  refine ⟨h.1, fun B w0 ρ I w cargs rl h1 h2 => (h.2 B w0 ρ I w cargs rl h1 h2).mono ?_⟩
  rintro e w' ⟨v, σ', ρ', I', cv, rfl, hv, rl', ex, hu, ho, hq⟩
  refine ⟨v, σ, ρ, I', cv, rfl, VRel.agree (fun a ha => (ex.rho a ha).symm) _ _ hu hv, rl.scrub rl' ex ho, ⟨fun _ _ => rfl, ex.imm, Nat.le_refl _, fun _ _ _ => rfl⟩, hq⟩

theorem Rel.below (rl : Rel B w0 ρ I σ w) (h : Below w.heap.size w w') : Rel B w0 ρ I σ w' where
  low := rl.low.trans (h.mono rl.base)
  base := Nat.le_trans rl.base h.size
  blk a p b h1 h2 := (rl.blk a p b h1 h2).world (RLe.refl _) (ILe.refl _) (h.block _ (rl.lt a p h1))
  inj := rl.inj
  imm b c hb := by
    obtain ⟨e, fr, hh⟩ := rl.imm b c hb
    exact ⟨e, fr, by rw [h.block _ (rl.immlt hb)]; exact hh⟩
  sep := rl.sep
  new := rl.new
  lt a p h1 := Nat.lt_of_lt_of_le (rl.lt a p h1) h.size
  dom := rl.dom
  memdom := rl.memdom
  ilow := rl.ilow

theorem Rel.empty (rl : Rel B w0 ρ I σ w) : Rel w.heap.size ⟨w, fun b => (I b).isSome⟩ ρ0 I σ0 w where
  low := Below.refl _ _
  base := Nat.le_refl _
  blk a p b h := by cases h
  inj a a' p p' b b' h := by cases h
  imm := rl.imm
  sep a p b h := by cases h
  new a p b h := by cases h
  lt a p h := by cases h
  dom a _ := rfl
  memdom a _ := rfl
  ilow b c h _ := by show (I b).isSome = true; rw [h]; rfl

/-- What is computed from unchanging values in an empty memory is computed in any. -/
theorem ACall.frame {f : FuncId} {args : List AVal} {Q : AVal → St → Prop} (h : ACall P f args σ0 fun v _ => v.flat = true ∧ Q v σ) (ha : uptoL 0 args = true) : ACall P f args σ Q := by
  refine ⟨h.1, fun B w0 ρ I w cargs rl h1 h2 => (h.2 w.heap.size _ ρ0 I w cargs rl.empty h1 (CRel.agree (n := 0) (fun a ha => by omega) _ _ ha h2)).mono ?_⟩
  rintro e w' ⟨v, σ', ρ', I', cv, rfl, hv, rl', ex, hu, hq⟩
  exact ⟨v, σ, ρ, I, cv, rfl, VRel.flat _ _ hu hv, rl.below rl'.low, Ext.refl _ _ _, hq⟩

end
end Go.Proofs.Ytkfofdeceicfkaa.AM

/- The abstract machine's code, step by step: what remains to be done stands as a word, until its turn comes. -/
namespace Go.Proofs.Ytkfofdeceicfkaa.AM
set_option linter.unusedVariables false
set_option linter.unusedSimpArgs false

section
variable {P : Program}

def seqK (P : Program) (b : ACode) (Q : Post) : Post := fun e r σ => match e with
  | .normal => b.wp P Q r σ
  | e => Q e r σ
def blockK (id : Nat) (Q : Post) : Post := fun e r σ => match e with
  | .exit j => if j = id then Q .normal r σ else Q (.exit j) r σ
  | e => Q e r σ
def regK (keep : List Nat) (Q : Post) : Regs → St → Prop := fun r σ => Q .normal (norm keep r) σ
def condK (P : Program) (a b : ACode) (Q : Post) (r : Regs) (σ : St) : Option AVal → Prop
  | some (.bool t) => if t then a.wp P Q r σ else b.wp P Q r σ
  | _ => False
def stepK (P : Program) (rest : List AOper) (d : Option Nat) (r : Regs) (Q : Regs → St → Prop) : Option (AVal × St) → Prop
  | some (v, σ') => rwp P rest (setR r d v) σ' Q
  | none => False
def retK (P : Program) (rest : List AOper) (d : Option Nat) (r : Regs) (Q : Regs → St → Prop) : AVal → St → Prop := fun v σ' => rwp P rest (setR r d v) σ' Q
def callK (P : Program) (rest : List AOper) (d : Option Nat) (r : Regs) (σ : St) (Q : Regs → St → Prop) : Option AVal → Option (List AVal) → Prop
  | some (.fn f first caps), some vs => ACall P f (first ++ vs ++ caps) σ (retK P rest d r Q)
  | _, _ => False
def pickK (P : Program) (rest : List AOper) (d : Option Nat) (r : Regs) (σ : St) (Q : Regs → St → Prop) (a b : Opd) : Option AVal → Prop
  | some (.bool true) => stepK P rest d r Q ((evalOpd r a).map (·, σ))
  | some (.bool false) => stepK P rest d r Q ((evalOpd r b).map (·, σ))
  | _ => False
def guardK (P : Program) (o : AOper) (want : Bool) (rest : List AOper) (r : Regs) (σ : St) (Q : Regs → St → Prop) : Option AVal → Prop
  | some (.bool b) => if b = want then rwp P (⟨o.dst, o.ins, none⟩ :: rest) r σ Q else rwp P rest (delR r o.dst) σ Q
  | _ => False

@[simp] theorem wp_skip (Q : Post) (r : Regs) (σ : St) : ACode.wp P .skip Q r σ = Q .normal r σ := Eq.trans rfl rfl
@[simp] theorem wp_ret (Q : Post) (r : Regs) (σ : St) : ACode.wp P .ret Q r σ = Q .ret r σ := Eq.trans rfl rfl
@[simp] theorem wp_exit (Q : Post) (id : Nat) (r : Regs) (σ : St) : ACode.wp P (.exit id) Q r σ = Q (.exit id) r σ := Eq.trans rfl rfl
@[simp] theorem wp_seq (a b : ACode) (Q : Post) (r : Regs) (σ : St) : ACode.wp P (.seq a b) Q r σ = a.wp P (seqK P b Q) r σ := Eq.trans rfl rfl
@[simp] theorem wp_block (id : Nat) (a : ACode) (Q : Post) (r : Regs) (σ : St) : ACode.wp P (.block id a) Q r σ = a.wp P (blockK id Q) r σ := Eq.trans rfl rfl
@[simp] theorem wp_cond (c : Opd) (a b : ACode) (Q : Post) (r : Regs) (σ : St) : ACode.wp P (.cond c a b) Q r σ = condK P a b Q r σ (evalOpd r c) := Eq.trans rfl rfl
@[simp] theorem wp_reg (keep : List Nat) (ops : List AOper) (Q : Post) (r : Regs) (σ : St) : ACode.wp P (.reg keep ops) Q r σ = rwp P ops r σ (regK keep Q) := Eq.trans rfl rfl
@[simp] theorem seqK_normal (b : ACode) (Q : Post) (r : Regs) (σ : St) : seqK P b Q .normal r σ = b.wp P Q r σ := Eq.trans rfl rfl
@[simp] theorem seqK_exit (b : ACode) (Q : Post) (j : Nat) (r : Regs) (σ : St) : seqK P b Q (.exit j) r σ = Q (.exit j) r σ := Eq.trans rfl rfl
@[simp] theorem seqK_ret (b : ACode) (Q : Post) (r : Regs) (σ : St) : seqK P b Q .ret r σ = Q .ret r σ := Eq.trans rfl rfl
@[simp] theorem blockK_normal (i : Nat) (Q : Post) (r : Regs) (σ : St) : blockK i Q .normal r σ = Q .normal r σ := Eq.trans rfl rfl
@[simp] theorem blockK_exit (i j : Nat) (Q : Post) (r : Regs) (σ : St) : blockK i Q (.exit j) r σ = if j = i then Q .normal r σ else Q (.exit j) r σ := Eq.trans rfl rfl
@[simp] theorem blockK_ret (i : Nat) (Q : Post) (r : Regs) (σ : St) : blockK i Q .ret r σ = Q .ret r σ := Eq.trans rfl rfl
@[simp] theorem regK_app (keep : List Nat) (Q : Post) (r : Regs) (σ : St) : regK keep Q r σ = Q .normal (norm keep r) σ := Eq.trans rfl rfl
@[simp] theorem condK_true (a b : ACode) (Q : Post) (r : Regs) (σ : St) : condK P a b Q r σ (some (.bool true)) = a.wp P Q r σ := Eq.trans rfl rfl
@[simp] theorem condK_false (a b : ACode) (Q : Post) (r : Regs) (σ : St) : condK P a b Q r σ (some (.bool false)) = b.wp P Q r σ := Eq.trans rfl rfl
@[simp] theorem stepK_some (rest : List AOper) (d : Option Nat) (r : Regs) (Q : Regs → St → Prop) (v : AVal) (σ : St) : stepK P rest d r Q (some (v, σ)) = rwp P rest (setR r d v) σ Q := Eq.trans rfl rfl
@[simp] theorem stepK_none (rest : List AOper) (d : Option Nat) (r : Regs) (Q : Regs → St → Prop) : stepK P rest d r Q none = False := Eq.trans rfl rfl
@[simp] theorem retK_app (rest : List AOper) (d : Option Nat) (r : Regs) (Q : Regs → St → Prop) (v : AVal) (σ : St) : retK P rest d r Q v σ = rwp P rest (setR r d v) σ Q := Eq.trans rfl rfl
@[simp] theorem callK_some (rest : List AOper) (d : Option Nat) (r : Regs) (σ : St) (Q : Regs → St → Prop) (f : FuncId) (xs vs ys : List AVal) : callK P rest d r σ Q (some (.fn f xs ys)) (some vs) = ACall P f (xs ++ vs ++ ys) σ (retK P rest d r Q) := Eq.trans rfl rfl
@[simp] theorem pickK_true (rest : List AOper) (d : Option Nat) (r : Regs) (σ : St) (Q : Regs → St → Prop) (a b : Opd) : pickK P rest d r σ Q a b (some (.bool true)) = stepK P rest d r Q ((evalOpd r a).map (·, σ)) := Eq.trans rfl rfl
@[simp] theorem pickK_false (rest : List AOper) (d : Option Nat) (r : Regs) (σ : St) (Q : Regs → St → Prop) (a b : Opd) : pickK P rest d r σ Q a b (some (.bool false)) = stepK P rest d r Q ((evalOpd r b).map (·, σ)) := Eq.trans rfl rfl
@[simp] theorem guardK_tt (o : AOper) (rest : List AOper) (r : Regs) (σ : St) (Q : Regs → St → Prop) : guardK P o true rest r σ Q (some (.bool true)) = rwp P (⟨o.dst, o.ins, none⟩ :: rest) r σ Q := Eq.trans rfl rfl
@[simp] theorem guardK_ff (o : AOper) (rest : List AOper) (r : Regs) (σ : St) (Q : Regs → St → Prop) : guardK P o false rest r σ Q (some (.bool false)) = rwp P (⟨o.dst, o.ins, none⟩ :: rest) r σ Q := Eq.trans rfl rfl
@[simp] theorem guardK_tf (o : AOper) (rest : List AOper) (r : Regs) (σ : St) (Q : Regs → St → Prop) : guardK P o true rest r σ Q (some (.bool false)) = rwp P rest (delR r o.dst) σ Q := Eq.trans rfl rfl
@[simp] theorem guardK_ft (o : AOper) (rest : List AOper) (r : Regs) (σ : St) (Q : Regs → St → Prop) : guardK P o false rest r σ Q (some (.bool true)) = rwp P rest (delR r o.dst) σ Q := Eq.trans rfl rfl
@[simp] theorem rwp_nil (r : Regs) (σ : St) (Q : Regs → St → Prop) : rwp P [] r σ Q = Q r σ := Eq.trans rfl rfl
@[simp] theorem rwp_op (d : Option Nat) (o : AOp Opd) (rest : List AOper) (r : Regs) (σ : St) (Q : Regs → St → Prop) : rwp P (⟨d, .op o, none⟩ :: rest) r σ Q = stepK P rest d r Q ((o.mapM (evalOpd r)).bind (evalV σ)) := by
  simp only [rwp, AIns.wp, stepK]
  cases (o.mapM (evalOpd r)).bind (evalV σ) <;> rfl
@[simp] theorem rwp_pick (d : Option Nat) (c a b : Opd) (rest : List AOper) (r : Regs) (σ : St) (Q : Regs → St → Prop) : rwp P (⟨d, .pick c a b, none⟩ :: rest) r σ Q = pickK P rest d r σ Q a b (evalOpd r c) := by
  simp only [rwp, AIns.wp]
  cases evalOpd r c with
  | none => rfl
  | some v =>
    cases v <;> first | rfl | skip
    rename_i t
    cases t
    · simp only [pickK, stepK, Bool.false_eq_true, if_false]; cases evalOpd r b <;> rfl
    · simp only [pickK, stepK, if_true]; cases evalOpd r a <;> rfl
@[simp] theorem rwp_call (d : Option Nat) (f : Opd) (args : List Opd) (rest : List AOper) (r : Regs) (σ : St) (Q : Regs → St → Prop) : rwp P (⟨d, .call f args, none⟩ :: rest) r σ Q = callK P rest d r σ Q (evalOpd r f) (listM (evalOpd r) args) := by
  simp only [rwp, AIns.wp]
  cases evalOpd r f with
  | none => rfl
  | some v => cases v <;> first | rfl | (cases listM (evalOpd r) args <;> rfl)
@[simp] theorem rwp_guard (d : Option Nat) (i : AIns) (t : Nat) (want : Bool) (rest : List AOper) (r : Regs) (σ : St) (Q : Regs → St → Prop) : rwp P (⟨d, i, some (t, want)⟩ :: rest) r σ Q = guardK P ⟨d, i, none⟩ want rest r σ Q (r.lookup t) := by
  simp only [rwp, guardK]
  cases List.lookup t r with
  | none => rfl
  | some v => cases v <;> rfl

def loopK (keep : List Nat) (J : Nat → Regs → St → Prop) (m : Nat) (Q : Post) : Post := fun e r σ => match e with
  | .normal => ∃ m', m' < m ∧ J m' (norm keep r) σ
  | e => Q e r σ
@[simp] theorem loopK_normal (keep : List Nat) (J : Nat → Regs → St → Prop) (m : Nat) (Q : Post) (r : Regs) (σ : St) : loopK keep J m Q .normal r σ = ∃ m', m' < m ∧ J m' (norm keep r) σ := Eq.trans rfl rfl
@[simp] theorem loopK_exit (keep : List Nat) (J : Nat → Regs → St → Prop) (m : Nat) (Q : Post) (j : Nat) (r : Regs) (σ : St) : loopK keep J m Q (.exit j) r σ = Q (.exit j) r σ := Eq.trans rfl rfl
@[simp] theorem loopK_ret (keep : List Nat) (J : Nat → Regs → St → Prop) (m : Nat) (Q : Post) (r : Regs) (σ : St) : loopK keep J m Q .ret r σ = Q .ret r σ := Eq.trans rfl rfl
theorem wp_loop {keep : List Nat} {a : ACode} {Q : Post} {r : Regs} {σ : St} (J : Nat → Regs → St → Prop) (n : Nat) (h0 : J n (norm keep r) σ) (hs : ∀ m r σ, J m r σ → a.wp P (loopK keep J m Q) r σ) : ACode.wp P (.loop keep a) Q r σ :=
  ⟨J, n, h0, hs⟩

/-! ### The same in an order of one's own -/

def dstepK (P : Program) (rest : List (AOper × List Nat)) (d : Option Nat) (rc : List Nat) (hs : Hist) (h : St → Prop) (r : Regs) (Q : Regs → St → Prop) : Option (AVal × St) → Prop
  | some (v, σ') => again hs σ' rc ∧ dwp P rest (setR r d v) σ' (hs ++ [h]) Q
  | none => False
def dretK (P : Program) (rest : List (AOper × List Nat)) (d : Option Nat) (rc : List Nat) (hs : Hist) (r : Regs) (Q : Regs → St → Prop) : AVal → St → Prop := fun v σ' => again hs σ' rc ∧ dwp P rest (setR r d v) σ' (hs ++ [fun _ => True]) Q
def dcallK (P : Program) (rest : List (AOper × List Nat)) (d : Option Nat) (rc : List Nat) (hs : Hist) (r : Regs) (σ : St) (Q : Regs → St → Prop) : Option AVal → Option (List AVal) → Prop
  | some (.fn f first caps), some vs => ACall P f (first ++ vs ++ caps) σ (dretK P rest d rc hs r Q)
  | _, _ => False
def dpickK (P : Program) (rest : List (AOper × List Nat)) (d : Option Nat) (rc : List Nat) (hs : Hist) (r : Regs) (σ : St) (Q : Regs → St → Prop) (a b : Opd) : Option AVal → Prop
  | some (.bool true) => dstepK P rest d rc hs (fun _ => True) r Q ((evalOpd r a).map (·, σ))
  | some (.bool false) => dstepK P rest d rc hs (fun _ => True) r Q ((evalOpd r b).map (·, σ))
  | _ => False
def dguardK (P : Program) (o : AOper) (rc : List Nat) (want : Bool) (rest : List (AOper × List Nat)) (hs : Hist) (r : Regs) (σ : St) (Q : Regs → St → Prop) : Option AVal → Prop
  | some (.bool b) => if b = want then dwp P ((⟨o.dst, o.ins, none⟩, rc) :: rest) r σ hs Q else dwp P rest (delR r o.dst) σ (hs ++ [fun _ : St => True]) Q
  | _ => False

@[simp] theorem wp_dreg (keep : List Nat) (ops : List (AOper × List Nat)) (Q : Post) (r : Regs) (σ : St) : ACode.wp P (.dreg keep ops) Q r σ = dwp P ops r σ [] (regK keep Q) := Eq.trans rfl rfl
@[simp] theorem dstepK_some (rest : List (AOper × List Nat)) (d : Option Nat) (rc : List Nat) (hs : Hist) (h : St → Prop) (r : Regs) (Q : Regs → St → Prop) (v : AVal) (σ : St) : dstepK P rest d rc hs h r Q (some (v, σ)) = (again hs σ rc ∧ dwp P rest (setR r d v) σ (hs ++ [h]) Q) := Eq.trans rfl rfl
@[simp] theorem dstepK_none (rest : List (AOper × List Nat)) (d : Option Nat) (rc : List Nat) (hs : Hist) (h : St → Prop) (r : Regs) (Q : Regs → St → Prop) : dstepK P rest d rc hs h r Q none = False := Eq.trans rfl rfl
@[simp] theorem dretK_app (rest : List (AOper × List Nat)) (d : Option Nat) (rc : List Nat) (hs : Hist) (r : Regs) (Q : Regs → St → Prop) (v : AVal) (σ : St) : dretK P rest d rc hs r Q v σ = (again hs σ rc ∧ dwp P rest (setR r d v) σ (hs ++ [fun _ => True]) Q) := Eq.trans rfl rfl
@[simp] theorem dcallK_some (rest : List (AOper × List Nat)) (d : Option Nat) (rc : List Nat) (hs : Hist) (r : Regs) (σ : St) (Q : Regs → St → Prop) (f : FuncId) (xs vs ys : List AVal) : dcallK P rest d rc hs r σ Q (some (.fn f xs ys)) (some vs) = ACall P f (xs ++ vs ++ ys) σ (dretK P rest d rc hs r Q) := Eq.trans rfl rfl
@[simp] theorem dpickK_true (rest : List (AOper × List Nat)) (d : Option Nat) (rc : List Nat) (hs : Hist) (r : Regs) (σ : St) (Q : Regs → St → Prop) (a b : Opd) : dpickK P rest d rc hs r σ Q a b (some (.bool true)) = dstepK P rest d rc hs (fun _ => True) r Q ((evalOpd r a).map (·, σ)) := Eq.trans rfl rfl
@[simp] theorem dpickK_false (rest : List (AOper × List Nat)) (d : Option Nat) (rc : List Nat) (hs : Hist) (r : Regs) (σ : St) (Q : Regs → St → Prop) (a b : Opd) : dpickK P rest d rc hs r σ Q a b (some (.bool false)) = dstepK P rest d rc hs (fun _ => True) r Q ((evalOpd r b).map (·, σ)) := Eq.trans rfl rfl
@[simp] theorem dguardK_tt (o : AOper) (rc : List Nat) (rest : List (AOper × List Nat)) (hs : Hist) (r : Regs) (σ : St) (Q : Regs → St → Prop) : dguardK P o rc true rest hs r σ Q (some (.bool true)) = dwp P ((⟨o.dst, o.ins, none⟩, rc) :: rest) r σ hs Q := Eq.trans rfl rfl
@[simp] theorem dguardK_ff (o : AOper) (rc : List Nat) (rest : List (AOper × List Nat)) (hs : Hist) (r : Regs) (σ : St) (Q : Regs → St → Prop) : dguardK P o rc false rest hs r σ Q (some (.bool false)) = dwp P ((⟨o.dst, o.ins, none⟩, rc) :: rest) r σ hs Q := Eq.trans rfl rfl
@[simp] theorem dguardK_tf (o : AOper) (rc : List Nat) (rest : List (AOper × List Nat)) (hs : Hist) (r : Regs) (σ : St) (Q : Regs → St → Prop) : dguardK P o rc true rest hs r σ Q (some (.bool false)) = dwp P rest (delR r o.dst) σ (hs ++ [fun _ : St => True]) Q := Eq.trans rfl rfl
@[simp] theorem dguardK_ft (o : AOper) (rc : List Nat) (rest : List (AOper × List Nat)) (hs : Hist) (r : Regs) (σ : St) (Q : Regs → St → Prop) : dguardK P o rc false rest hs r σ Q (some (.bool true)) = dwp P rest (delR r o.dst) σ (hs ++ [fun _ : St => True]) Q := Eq.trans rfl rfl
@[simp] theorem dwp_nil (r : Regs) (σ : St) (hs : Hist) (Q : Regs → St → Prop) : dwp P [] r σ hs Q = Q r σ := Eq.trans rfl rfl
/-- What an operation gave, if it gives that again. -/
def readK (av : Option (AOp AVal)) (was : Option AVal) : St → Prop := fun σ' => match av with
  | some av => (evalV σ' av).map (·.1) = was
  | none => True
theorem dwp_op (d : Option Nat) (o : AOp Opd) (rc : List Nat) (rest : List (AOper × List Nat)) (r : Regs) (σ : St) (hs : Hist) (Q : Regs → St → Prop) :
    dwp P ((⟨d, .op o, none⟩, rc) :: rest) r σ hs Q = dstepK P rest d rc hs (histOf (.op o) r σ) r Q ((o.mapM (evalOpd r)).bind (evalV σ)) := by
  simp only [dwp, AIns.wp, dstepK]
  cases (o.mapM (evalOpd r)).bind (evalV σ) <;> rfl
theorem histOf_op (o : AOp Opd) (r : Regs) (σ : St) : histOf (.op o) r σ = readK (o.mapM (evalOpd r)) (((o.mapM (evalOpd r)).bind (evalV σ)).map (·.1)) := by
  funext σ'
  simp only [histOf, readK]
  cases o.mapM (evalOpd r) <;> rfl
@[simp] theorem readK_some (av : AOp AVal) (was : Option AVal) (σ : St) : readK (some av) was σ = ((evalV σ av).map (·.1) = was) := Eq.trans rfl rfl
@[simp] theorem dwp_op' (d : Option Nat) (o : AOp Opd) (rc : List Nat) (rest : List (AOper × List Nat)) (r : Regs) (σ : St) (hs : Hist) (Q : Regs → St → Prop) :
    dwp P ((⟨d, .op o, none⟩, rc) :: rest) r σ hs Q = dstepK P rest d rc hs (readK (o.mapM (evalOpd r)) (((o.mapM (evalOpd r)).bind (evalV σ)).map (·.1))) r Q ((o.mapM (evalOpd r)).bind (evalV σ)) := by
  rw [dwp_op, histOf_op]
@[simp] theorem dwp_pick (d : Option Nat) (c a b : Opd) (rc : List Nat) (rest : List (AOper × List Nat)) (r : Regs) (σ : St) (hs : Hist) (Q : Regs → St → Prop) : dwp P ((⟨d, .pick c a b, none⟩, rc) :: rest) r σ hs Q = dpickK P rest d rc hs r σ Q a b (evalOpd r c) := by
  simp only [dwp, AIns.wp]
  have hh : histOf (.pick c a b) r σ = fun _ => True := Eq.trans rfl rfl
  rw [hh]
  cases evalOpd r c with
  | none => rfl
  | some v =>
    cases v <;> first | rfl | skip
    rename_i t
    cases t
    · simp only [dpickK, dstepK, Bool.false_eq_true, if_false]; cases evalOpd r b <;> rfl
    · simp only [dpickK, dstepK, if_true]; cases evalOpd r a <;> rfl
@[simp] theorem dwp_call (d : Option Nat) (f : Opd) (args : List Opd) (rc : List Nat) (rest : List (AOper × List Nat)) (r : Regs) (σ : St) (hs : Hist) (Q : Regs → St → Prop) : dwp P ((⟨d, .call f args, none⟩, rc) :: rest) r σ hs Q = dcallK P rest d rc hs r σ Q (evalOpd r f) (listM (evalOpd r) args) := by
  simp only [dwp, AIns.wp]
  have hh : histOf (.call f args) r σ = fun _ => True := Eq.trans rfl rfl
  rw [hh]
  cases evalOpd r f with
  | none => rfl
  | some v => cases v <;> first | rfl | (cases listM (evalOpd r) args <;> rfl)
@[simp] theorem dwp_guard (d : Option Nat) (i : AIns) (t : Nat) (want : Bool) (rc : List Nat) (rest : List (AOper × List Nat)) (r : Regs) (σ : St) (hs : Hist) (Q : Regs → St → Prop) : dwp P ((⟨d, i, some (t, want)⟩, rc) :: rest) r σ hs Q = dguardK P ⟨d, i, none⟩ rc want rest hs r σ Q (r.lookup t) := by
  simp only [dwp, dguardK]
  cases List.lookup t r with
  | none => rfl
  | some v => cases v <;> rfl

@[simp] theorem again_nil (h : Hist) (σ : St) : again h σ [] = True := Eq.trans rfl rfl
def histK (σ : St) : Option (St → Prop) → Prop
  | some p => p σ
  | none => False
@[simp] theorem histK_some (σ : St) (p : St → Prop) : histK σ (some p) = p σ := Eq.trans rfl rfl
@[simp] theorem again_cons (h : Hist) (σ : St) (i : Nat) (is : List Nat) : again h σ (i :: is) = (histK σ h[i]? ∧ again h σ is) := by
  simp only [again]
  cases h[i]? <;> rfl

def resK (rs : List ARes) (Q : AVal → St → Prop) (σ : St) : Option AVal → Prop
  | some v => Q v σ
  | none => False
@[simp] theorem resK_some (rs : List ARes) (Q : AVal → St → Prop) (σ : St) (v : AVal) : resK rs Q σ (some v) = Q v σ := Eq.trans rfl rfl
@[simp] theorem resK_none (rs : List ARes) (Q : AVal → St → Prop) (σ : St) : resK rs Q σ none = False := Eq.trans rfl rfl
@[simp] theorem retPost_normal (rs : List ARes) (Q : AVal → St → Prop) (r : Regs) (σ : St) : retPost rs Q .normal r σ = resK rs Q σ (resA r σ rs) := by
  simp only [retPost]; cases resA r σ rs <;> rfl
@[simp] theorem retPost_ret (rs : List ARes) (Q : AVal → St → Prop) (r : Regs) (σ : St) : retPost rs Q .ret r σ = resK rs Q σ (resA r σ rs) := by
  simp only [retPost]; cases resA r σ rs <;> rfl

theorem lk_cons (t k : Nat) (v : AVal) (l : Regs) : List.lookup t ((k, v) :: l) = if t = k then some v else List.lookup t l := by
  simp only [List.lookup]
  by_cases h : t = k
  · simp [h]
  · have : (t == k) = false := by simpa using h
    rw [this, if_neg h]
@[simp] theorem norm_nil (r : Regs) : norm [] r = [] := Eq.trans rfl rfl
def consK (k : Nat) (l : Regs) : Option AVal → Regs
  | some v => (k, v) :: l
  | none => l
@[simp] theorem consK_some (k : Nat) (l : Regs) (v : AVal) : consK k l (some v) = (k, v) :: l := Eq.trans rfl rfl
@[simp] theorem consK_none (k : Nat) (l : Regs) : consK k l none = l := Eq.trans rfl rfl
@[simp] theorem norm_cons (k : Nat) (ks : List Nat) (r : Regs) : norm (k :: ks) r = consK k (norm ks r) (r.lookup k) := by
  simp only [norm, List.filterMap_cons]
  cases r.lookup k <;> rfl
@[simp] theorem setR_some (r : Regs) (d : Nat) (v : AVal) : setR r (some d) v = (d, v) :: r := Eq.trans rfl rfl
@[simp] theorem setR_none (r : Regs) (v : AVal) : setR r none v = r := Eq.trans rfl rfl
@[simp] theorem delR_none (r : Regs) : delR r none = r := Eq.trans rfl rfl
@[simp] theorem delR_nil (d : Nat) : delR [] (some d) = [] := Eq.trans rfl rfl
@[simp] theorem delR_cons (d k : Nat) (v : AVal) (r : Regs) : delR ((k, v) :: r) (some d) = if k = d then delR r (some d) else (k, v) :: delR r (some d) := by
  simp only [delR, List.filter_cons]
  by_cases h : k = d <;> simp [h]
@[simp] theorem evalOpd_t (r : Regs) (n : Nat) : evalOpd r (.t n) = r.lookup n := Eq.trans rfl rfl
@[simp] theorem evalOpd_c (r : Regs) (v : AVal) : evalOpd r (.c v) = some v := Eq.trans rfl rfl
@[simp] theorem listM_nil {α β : Type} (f : α → Option β) : listM f [] = some [] := Eq.trans rfl rfl
@[simp] theorem listM_cons {α β : Type} (f : α → Option β) (x : α) (xs : List α) : listM f (x :: xs) = (f x).bind fun y => (listM f xs).map (y :: ·) := Eq.trans rfl rfl
@[simp] theorem resA_one (r : Regs) (σ : St) (x : ARes) : resA r σ [x] = resOne r σ x := by
  simp only [resA, listM]; cases resOne r σ x <;> rfl
@[simp] theorem resA_many (r : Regs) (σ : St) (x y : ARes) (l : List ARes) : resA r σ (x :: y :: l) = (listM (resOne r σ) (x :: y :: l)).map .tup := by
  simp only [resA, listM]
  cases resOne r σ x with
  | none => rfl
  | some a =>
    cases resOne r σ y with
    | none => rfl
    | some b => cases listM (resOne r σ) l <;> rfl
@[simp] theorem resA_none (r : Regs) (σ : St) : resA r σ [] = some (.tup []) := Eq.trans rfl rfl
@[simp] theorem resOne_t (r : Regs) (σ : St) (n : Nat) : resOne r σ (.t n) = r.lookup n := Eq.trans rfl rfl
@[simp] theorem resOne_c1 (r : Regs) (σ : St) (n : Nat) : resOne r σ (.c1 n) = (r.lookup n).bind (load1 σ) := Eq.trans rfl rfl
@[simp] theorem resOne_cn (r : Regs) (σ : St) (n k : Nat) : resOne r σ (.cn n k) = (r.lookup n).bind fun x => (loadL σ k x).map .agg := Eq.trans rfl rfl
@[simp] theorem argR_nil (n : Nat) : argR n [] = [] := Eq.trans rfl rfl
@[simp] theorem argR_cons (n : Nat) (v : AVal) (vs : List AVal) : argR n (v :: vs) = (n, v) :: argR (n + 1) vs := Eq.trans rfl rfl

@[simp] theorem cellsOf_int (k : IntKind) (n : Int) : cellsOf (.int k n) = [.int k n] := Eq.trans rfl rfl
@[simp] theorem one_int (k : IntKind) (n : Int) : AVal.one (.int k n) = true := Eq.trans rfl rfl
@[simp] theorem cellsOf_bool (b : Bool) : cellsOf (.bool b) = [.bool b] := Eq.trans rfl rfl
@[simp] theorem one_bool (b : Bool) : AVal.one (.bool b) = true := Eq.trans rfl rfl
@[simp] theorem cellsOf_str (s : ByteArray) : cellsOf (.str s) = [.str s] := Eq.trans rfl rfl
@[simp] theorem one_str (s : ByteArray) : AVal.one (.str s) = true := Eq.trans rfl rfl
@[simp] theorem cellsOf_ptr (a o : Nat) : cellsOf (.ptr a o) = [.ptr a o] := Eq.trans rfl rfl
@[simp] theorem one_ptr (a o : Nat) : AVal.one (.ptr a o) = true := Eq.trans rfl rfl
@[simp] theorem cellsOf_nilp  : cellsOf (.nilp) = [.nilp] := Eq.trans rfl rfl
@[simp] theorem one_nilp  : AVal.one (.nilp) = true := Eq.trans rfl rfl
@[simp] theorem cellsOf_iptr (cs : List AVal) : cellsOf (.iptr cs) = [.iptr cs] := Eq.trans rfl rfl
@[simp] theorem one_iptr (cs : List AVal) : AVal.one (.iptr cs) = true := Eq.trans rfl rfl
@[simp] theorem cellsOf_sl (a o l c : Nat) (t : Bool) : cellsOf (.sl a o l c t) = [.sl a o l c t] := Eq.trans rfl rfl
@[simp] theorem one_sl (a o l c : Nat) (t : Bool) : AVal.one (.sl a o l c t) = true := Eq.trans rfl rfl
@[simp] theorem cellsOf_nilsl  : cellsOf (.nilsl) = [.nilsl] := Eq.trans rfl rfl
@[simp] theorem one_nilsl  : AVal.one (.nilsl) = true := Eq.trans rfl rfl
@[simp] theorem cellsOf_isl (cs : List AVal) (l : Nat) (t : Bool) : cellsOf (.isl cs l t) = [.isl cs l t] := Eq.trans rfl rfl
@[simp] theorem one_isl (cs : List AVal) (l : Nat) (t : Bool) : AVal.one (.isl cs l t) = true := Eq.trans rfl rfl
@[simp] theorem cellsOf_map (a : Nat) : cellsOf (.map a) = [.map a] := Eq.trans rfl rfl
@[simp] theorem one_map (a : Nat) : AVal.one (.map a) = true := Eq.trans rfl rfl
@[simp] theorem cellsOf_nilmap  : cellsOf (.nilmap) = [.nilmap] := Eq.trans rfl rfl
@[simp] theorem one_nilmap  : AVal.one (.nilmap) = true := Eq.trans rfl rfl
@[simp] theorem cellsOf_fn (f : FuncId) (x y : List AVal) : cellsOf (.fn f x y) = [.fn f x y] := Eq.trans rfl rfl
@[simp] theorem one_fn (f : FuncId) (x y : List AVal) : AVal.one (.fn f x y) = true := Eq.trans rfl rfl
@[simp] theorem cellsOf_nilfn  : cellsOf (.nilfn) = [.nilfn] := Eq.trans rfl rfl
@[simp] theorem one_nilfn  : AVal.one (.nilfn) = true := Eq.trans rfl rfl
@[simp] theorem cellsOf_iface (t : TypeId) (v : AVal) : cellsOf (.iface t v) = [.iface t v] := Eq.trans rfl rfl
@[simp] theorem one_iface (t : TypeId) (v : AVal) : AVal.one (.iface t v) = true := Eq.trans rfl rfl
@[simp] theorem cellsOf_niliface  : cellsOf (.niliface) = [.niliface] := Eq.trans rfl rfl
@[simp] theorem one_niliface  : AVal.one (.niliface) = true := Eq.trans rfl rfl
@[simp] theorem cellsOf_agg (cs : List AVal) : cellsOf (.agg cs) = cs := Eq.trans rfl rfl
@[simp] theorem one_agg (cs : List AVal) : AVal.one (.agg cs) = false := Eq.trans rfl rfl
@[simp] theorem one_tup (cs : List AVal) : AVal.one (.tup cs) = false := Eq.trans rfl rfl
attribute [simp] AOp.mapM evalV isNil aeqn abin abinI made allocV load1 loadL

end
end Go.Proofs.Ytkfofdeceicfkaa.AM

/- What a call makes and gives may be taken as unchanging: its slices then hold their cells themselves, and the memory is as it was. -/
namespace Go.Proofs.Ytkfofdeceicfkaa.AM
open Go.RowKit
set_option linter.unusedVariables false
set_option linter.unusedSimpArgs false

/-- A slice over a block that is new: its cells. -/
def frz1 (lo : Nat) (m : Mem) : AVal → Option AVal
  | .sl n o len cap t => if n < lo then some (.sl n o len cap t) else match m.get n with
    | some (.cells es vals) => if o + len * es ≤ vals.length ∧ uptoL lo vals = true then some (.isl ((vals.drop o).take (len * es)) len (t && decide (cap = len))) else none
    | some (.ro es vals) => if o + len * es ≤ vals.length ∧ uptoL lo vals = true then some (.isl ((vals.drop o).take (len * es)) len (t && decide (cap = len))) else none
    | _ => none
  | v => if v.upto lo then some v else none

def frz (lo : Nat) (m : Mem) : AVal → Option AVal
  | .tup vs => (listM (frz1 lo m) vs).map .tup
  | v => frz1 lo m v

section
variable {P : Program} {B : Nat} {w0 : Root} {w w' : World} {ρ ρ' : Rho} {I I' : Imm} {σ σ' : St}

open Classical in
/-- The new blocks' cells, as they are now. -/
noncomputable def frzI (lo : Nat) (ρ : Rho) (σ : St) (w : World) (I : Imm) : Imm := fun b => match I b with
  | some c => some c
  | none => if ∃ n p es vals, lo ≤ n ∧ ρ n = some p ∧ p.b = b ∧ σ.mem.get n = some (.cells es vals) then
      match w.heap[b]? with
      | some (.cells c _ _) => some c
      | _ => none
    else none

theorem frzI_le (lo : Nat) (ρ : Rho) (σ : St) (w : World) (I : Imm) : ILe I (frzI lo ρ σ w I) := fun b c h => by simp only [frzI, h]

theorem frzI_new {lo : Nat} {n es : Nat} {p : Place} {vals : List AVal} {c : Array Value} {e : TypeId} {fr : Nat × Nat} (hI : I p.b = none) (hn : lo ≤ n) (hρ : ρ n = some p) (hm : σ.mem.get n = some (.cells es vals)) (hh : w.heap[p.b]? = some (.cells c e fr)) : frzI lo ρ σ w I p.b = some c := by
  simp only [frzI, hI, hh]
  rw [if_pos ⟨n, p, es, vals, hn, hρ, rfl, hm⟩]

/-- New blocks are left out, what is in them stands as unchanging. -/
theorem Rel.freeze (rl : Rel B w0 ρ I σ w) (rl' : Rel B w0 ρ' I' σ' w') (ex : Ext ρ I σ ρ' I' σ') (ho : Old σ σ') : Rel B w0 ρ (frzI σ.next ρ' σ' w' I') σ w' := by
  have rs := rl.scrub rl' ex ho
  exact {
    low := rs.low
    base := rs.base
    blk := fun a p b h1 h2 => (rs.blk a p b h1 h2).world (RLe.refl _) (frzI_le _ _ _ _ _) rfl
    inj := rs.inj
    imm := fun b c hb => by
      simp only [frzI] at hb
      split at hb
      · rename_i c' hc'
        cases hb
        exact rs.imm b c hc'
      · split at hb
        · split at hb
          · rename_i c' e fr hh; cases hb; exact ⟨e, fr, hh⟩
          · cases hb
        · cases hb
    sep := fun a p b h1 h2 h3 => by
      simp only [frzI, rs.sep a p b h1 h2 h3]
      rw [if_neg]
      rintro ⟨n, p', es, vals, g1, g2, g3, g4⟩
      have ha := rl.mlt h2
      exact rl'.inj a n p p' b (.cells es vals) (by rw [ex.rho a ha]; exact h1) g2 (by rw [ho a ha]; exact h2) g4 h3 (by omega) g3.symm
    new := rs.new
    lt := rs.lt
    dom := rs.dom
    memdom := rs.memdom
    ilow := fun b c hb hlt => by
      simp only [frzI] at hb
      split at hb
      · rename_i c' hc'
        exact rs.ilow b c' hc' hlt
      · split at hb
        · rename_i hex
          obtain ⟨n, p, es, vals, g1, g2, g3, g4⟩ := hex
          have := rl'.new n p _ g2 g4 rfl
          omega
        · cases hb }

theorem frz1_rel (rl : Rel B w0 ρ I σ w) (rl' : Rel B w0 ρ' I' σ' w') (ex : Ext ρ I σ ρ' I' σ') {v v' : AVal} {cv : Value} (h : frz1 σ.next σ'.mem v = some v') (hv : VRel ρ' I' v cv) : VRel ρ (frzI σ.next ρ' σ' w' I') v' cv := by
  have hle := frzI_le σ.next ρ' σ' w' I'
  have old : ∀ {x : AVal} {cx : Value}, x.upto σ.next = true → VRel ρ' I' x cx → VRel ρ (frzI σ.next ρ' σ' w' I') x cx := fun hu hx =>
    (VRel.agree (fun a ha => (ex.rho a ha).symm) _ _ hu hx).mono (RLe.refl _) hle
  have cold : ∀ {xs : List AVal} {f : Nat → Option Value}, uptoL σ.next xs = true → CRel ρ' I' xs f → CRel ρ (frzI σ.next ρ' σ' w' I') xs f := fun hu hx =>
    (CRel.agree (fun a ha => (ex.rho a ha).symm) _ _ hu hx).mono (RLe.refl _) hle _ _ _ (fun _ _ h => h)
  cases v with
  | sl n o len cap t =>
    simp only [frz1] at h
    split at h
    · rename_i hn
      cases h
      exact old (by simp [AVal.upto, hn]) hv
    · rename_i hn
      have key : ∀ (es : Nat) (vals : List AVal) (c : Array Value) (p : Place), o + len * es ≤ vals.length → uptoL σ.next vals = true → ρ' n = some p → vals.all AVal.one = true → p.es = es → CRel ρ' I' vals (fun j => c[p.base + j]?) → frzI σ.next ρ' σ' w' I' p.b = some c →
          VRel ρ (frzI σ.next ρ' σ' w' I') (.isl ((vals.drop o).take (len * es)) len (t && decide (cap = len))) cv := by
        intro es vals c p hl hu hp hone hes hc hI
        simp only [VRel] at hv ⊢
        obtain ⟨p', ad, cap', hp', rfl, h1, h2, h3, h4, h5, h6⟩ := hv
        rw [hp] at hp'; cases hp'
        refine ⟨ad, cap', rfl, by omega, h3, ?_, ?_, ?_⟩
        · intro ht
          simp only [Bool.and_eq_true, decide_eq_true_eq] at ht
          rw [h4 ht.1]; exact ht.2
        · rw [List.all_eq_true]
          intro x hx
          exact List.all_eq_true.1 hone x (List.mem_of_mem_drop (List.mem_of_mem_take hx))
        · rcases h5 with h5 | h5
          · have hl0 : len = 0 := by omega
            subst hl0
            simp [CRel]
          · subst h5
            have hd := ((cold hu hc).drop o).take (len * es)
            refine hd.congr fun j hj => ?_
            by_cases hj0 : j = 0 <;> simp [icell, Addr.add, hj0, hI, Nat.add_assoc]
      split at h
      · rename_i es vals hm
        split at h
        · rename_i hh
          cases h
          have hv0 := hv
          simp only [VRel] at hv0
          obtain ⟨p, _, _, hp, _⟩ := hv0
          have hb := rl'.blk n p _ hp hm
          obtain ⟨k1, k2, k3, c, e, fr, k4, k5, k6, k7⟩ := hb
          exact key es vals c p hh.1 hh.2 hp k2 k1 k7 (frzI_new (rl'.sep n p _ hp hm rfl) (by omega) hp hm k4)
        · cases h
      · rename_i es vals hm
        split at h
        · rename_i hh
          cases h
          have hv0 := hv
          simp only [VRel] at hv0
          obtain ⟨p, _, _, hp, _⟩ := hv0
          have hb := rl'.blk n p _ hp hm
          obtain ⟨k1, k2, c, k3, k4⟩ := hb
          exact key es vals c p hh.1 hh.2 hp k2 k1 k4 (hle _ _ k3)
        · cases h
      · cases h
  | _ =>
    simp only [frz1] at h
    split at h
    · rename_i hu; cases h; exact old hu hv
    · cases h

theorem ACall.freeze {f : FuncId} {args : List AVal} {Q : AVal → St → Prop} (h : ACall P f args σ fun v σ' => Old σ σ' ∧ ∃ v', frz σ.next σ'.mem v = some v' ∧ Q v' σ) : ACall P f args σ Q := by
  refine ⟨h.1, fun B w0 ρ I w cargs rl h1 h2 => (h.2 B w0 ρ I w cargs rl h1 h2).mono ?_⟩
  rintro e w' ⟨v, σ', ρ', I', cv, rfl, hv, rl', ex, ho, v', hf, hq⟩
  refine ⟨v', σ, ρ, frzI σ.next ρ' σ' w' I', cv, rfl, ?_, rl.freeze rl' ex ho, ⟨fun _ _ => rfl, fun b c hb => frzI_le _ _ _ _ _ b c (ex.imm b c hb), Nat.le_refl _, fun _ _ _ => rfl⟩, hq⟩
  cases v with
  | tup vs =>
    simp only [frz, Option.map_eq_some_iff] at hf
    obtain ⟨us, hus, rfl⟩ := hf
    obtain ⟨l1, l2⟩ := listM_get hus
    simp only [VRel] at hv ⊢
    obtain ⟨vs', rfl, hs, hc⟩ := hv
    refine ⟨vs', rfl, by rw [hs, l1], CRel.mk fun j y hy => ?_⟩
    obtain ⟨x, hx, hxy⟩ := l2 j y hy
    obtain ⟨u, hu, hux⟩ := hc.get j x hx
    exact ⟨u, hu, frz1_rel rl rl' ex hxy hux⟩
  | _ => simp only [frz] at hf; exact frz1_rel rl rl' ex hf hv

/-- What is computed from unchanging values alone, in no memory, gives unchanging values, in any. -/
theorem ACall.pure {f : FuncId} {args : List AVal} {Q : AVal → St → Prop} (ha : uptoL 0 args = true) (h : ACall P f args σ0 fun v σ' => ∃ v', frz 0 σ'.mem v = some v' ∧ v'.upto 0 = true ∧ Q v' σ) : ACall P f args σ Q := by
  have h := ACall.freeze (Q := fun v _ => v.upto 0 = true ∧ Q v σ) (h.mono fun v σ' ⟨v', h1, h2, h3⟩ => ⟨fun a ha => absurd ha (by simp), v', h1, h2, h3⟩)
  refine ⟨h.1, fun B w0 ρ I w cargs rl h1 h2 => (h.2 w.heap.size _ ρ0 I w cargs rl.empty h1 (CRel.agree (n := 0) (fun a ha => by omega) _ _ ha h2)).mono ?_⟩
  rintro e w' ⟨v, σ', ρ', I', cv, rfl, hv, rl', ex, hu, hq⟩
  have rb := rl.below rl'.low
  have hlow : ∀ b c, I' b = some c → b < w.heap.size → I b = some c := fun b c hb hlt => by
    have h3 := rl'.ilow b c hb hlt
    obtain ⟨c', h4⟩ := Option.isSome_iff_exists.1 h3
    rw [ex.imm b c' h4] at hb
    cases hb; exact h4
  refine ⟨v, σ, ρ, I', cv, rfl, VRel.agree (n := 0) (fun a ha => by omega) _ _ hu hv, ?_, ⟨fun _ _ => rfl, ex.imm, Nat.le_refl _, fun _ _ _ => rfl⟩, hq⟩
  exact {
    low := rb.low
    base := rb.base
    blk := fun a p b h1 h2 => (rb.blk a p b h1 h2).world (RLe.refl _) ex.imm rfl
    inj := rb.inj
    imm := rl'.imm
    sep := fun a p b h1 h2 h3 => by
      cases hb : I' p.b with
      | none => rfl
      | some c =>
        have := hlow _ _ hb (rl.lt a p h1)
        rw [rl.sep a p b h1 h2 h3] at this
        cases this
    new := rb.new
    lt := rb.lt
    dom := rb.dom
    memdom := rb.memdom
    ilow := fun b c hb hlt => rl.ilow b c (hlow b c hb (Nat.lt_of_lt_of_le hlt rl.base)) hlt }

end
end Go.Proofs.Ytkfofdeceicfkaa.AM

/- A slice that a call gives, taken as unchanging, though the call has written elsewhere. -/
namespace Go.Proofs.Ytkfofdeceicfkaa.AM
open Go.RowKit
set_option linter.unusedVariables false
set_option linter.unusedSimpArgs false

section
variable {P : Program} {B : Nat} {w0 : Root} {w w' : World} {ρ ρ' : Rho} {I I' : Imm} {σ σ' : St}

def frzB (b : Nat) (c : Array Value) (I : Imm) : Imm := fun k => if k = b then some c else I k

theorem Rel.freeze1 (rl : Rel B w0 ρ I σ w) {n es : Nat} {vals : List AVal} {p : Place} (hρ : ρ n = some p) (hm : σ.mem.get n = some (.cells es vals)) :
    ∃ c, CRel ρ I vals (fun j => c[p.base + j]?) ∧ p.es = es ∧ vals.all AVal.one = true ∧ ILe I (frzB p.b c I) ∧ Rel B w0 ρ (frzB p.b c I) ⟨σ.mem.del n, σ.next⟩ w := by
  obtain ⟨k1, k2, k3, c, e, fr, k4, k5, k6, k7⟩ := rl.blk n p _ hρ hm
  have hI := rl.sep n p _ hρ hm rfl
  have hle : ILe I (frzB p.b c I) := fun b c' hb => by
    simp only [frzB]
    split
    · rename_i hbp; rw [hbp, hI] at hb; cases hb
    · exact hb
  have g : ∀ {a : Nat} {b : Blk}, (σ.mem.del n).get a = some b → a ≠ n ∧ σ.mem.get a = some b := fun {a b} h => by
    rw [Mem.get_del] at h
    split at h
    · cases h
    · rename_i hne; exact ⟨hne, h⟩
  refine ⟨c, k7, k1, k2, hle, ?_⟩
  exact {
    low := rl.low
    base := rl.base
    blk := fun a q b h1 h2 => (rl.blk a q b h1 (g h2).2).world (RLe.refl _) hle rfl
    inj := fun a a' q q' b b' h1 h2 h3 h4 => rl.inj a a' q q' b b' h1 h2 (g h3).2 (g h4).2
    imm := fun b c' hb => by
      simp only [frzB] at hb
      split at hb
      · rename_i hbp; cases hb; rw [hbp]; exact ⟨e, fr, k4⟩
      · exact rl.imm b c' hb
    sep := fun a q b h1 h2 h3 => by
      have := rl.inj a n q p b _ h1 hρ (g h2).2 hm h3 (g h2).1
      simp only [frzB, if_neg this]
      exact rl.sep a q b h1 (g h2).2 h3
    new := fun a q b h1 h2 => rl.new a q b h1 (g h2).2
    lt := rl.lt
    dom := rl.dom
    memdom := fun a ha => by
      show (σ.mem.del n).get a = none
      rw [Mem.get_del]; split
      · rfl
      · exact rl.memdom a ha
    ilow := fun b c' hb hlt => by
      simp only [frzB] at hb
      split at hb
      · rename_i hbp
        have := rl.new n p _ hρ hm rfl
        omega
      · exact rl.ilow b c' hb hlt }

theorem ACall.freeze1 {f : FuncId} {args : List AVal} {Q : AVal → St → Prop} (h : ACall P f args σ fun v σ' => Q v σ' ∨ ∃ n o len cap t es vals, v = .sl n o len cap t ∧ σ'.mem.get n = some (.cells es vals) ∧ σ.next ≤ n ∧ o + len * es ≤ vals.length ∧
    Q (.isl ((vals.drop o).take (len * es)) len (t && decide (cap = len))) ⟨σ'.mem.del n, σ'.next⟩) : ACall P f args σ Q := by
  refine ⟨h.1, fun B w0 ρ I w cargs rl h1 h2 => (h.2 B w0 ρ I w cargs rl h1 h2).mono ?_⟩
  rintro e w' ⟨v, σ', ρ', I', cv, rfl, hv, rl', ex, hq | ⟨n, o, len, cap, t, es, vals, rfl, hm, hn, hl, hq⟩⟩
  · exact ⟨v, σ', ρ', I', cv, rfl, hv, rl', ex, hq⟩
  · have hv0 := hv
    simp only [VRel] at hv
    obtain ⟨p, ad, cap', hp, rfl, g1, g2, g3, g4, g5, g6⟩ := hv
    obtain ⟨c, hc, hes, hone, hle, rl2⟩ := rl'.freeze1 hp hm
    refine ⟨_, _, ρ', frzB p.b c I', _, rfl, ?_, rl2, ⟨ex.rho, fun b c' hb => hle _ _ (ex.imm _ _ hb), ex.next, fun a ha hna => by
      show (σ'.mem.del n).get a = _
      rw [Mem.get_del, if_neg (by omega)]; exact ex.keep a ha hna⟩, hq⟩
    simp only [VRel]
    refine ⟨ad, cap', rfl, by omega, g3, ?_, ?_, ?_⟩
    · intro ht
      simp only [Bool.and_eq_true, decide_eq_true_eq] at ht
      rw [g4 ht.1]; exact ht.2
    · rw [List.all_eq_true]
      intro x hx
      exact List.all_eq_true.1 hone x (List.mem_of_mem_drop (List.mem_of_mem_take hx))
    · rcases g5 with g5 | g5
      · have hl0 : len = 0 := by omega
        subst hl0
        simp [CRel]
      · subst g5
        have hd := (((hc.mono (RLe.refl _) hle _ _ _ (fun _ _ h => h)) : CRel ρ' (frzB p.b c I') vals (fun j => c[p.base + j]?)).drop o).take (len * es)
        refine hd.congr fun j hj => ?_
        by_cases hj0 : j = 0 <;> simp [icell, Addr.add, hj0, frzB, Nat.add_assoc]

end
end Go.Proofs.Ytkfofdeceicfkaa.AM

/- The same for slices of slices: what lies in a new block is taken as unchanging too. -/
namespace Go.Proofs.Ytkfofdeceicfkaa.AM
open Go.RowKit
set_option linter.unusedVariables false
set_option linter.unusedSimpArgs false

/-- A value with its new slices' cells in it, d blocks deep. -/
def frzD (lo : Nat) (m : Mem) : Nat → AVal → Option AVal
  | 0, v => if v.upto lo then some v else none
  | d + 1, v => match v with
    | .sl n o len cap t => if n < lo then some (.sl n o len cap t) else match m.get n with
      | some (.cells es vals) => if o + len * es ≤ vals.length then (listM (frzD lo m d) ((vals.drop o).take (len * es))).map fun cs => .isl cs len (t && decide (cap = len)) else none
      | _ => none
    | .tup vs => (listM (frzD lo m d) vs).map .tup
    | .agg vs => (listM (frzD lo m d) vs).map .agg
    | v => if v.upto lo then some v else none

section
variable {P : Program} {B : Nat} {w0 : Root} {w w' : World} {ρ ρ' : Rho} {I I' : Imm} {σ σ' : St}

theorem frzD_one (lo : Nat) (m : Mem) : ∀ (d : Nat) (v v' : AVal), frzD lo m d v = some v' → v.one = true → v'.one = true := by
  intro d v v' h h1
  cases d with
  | zero =>
    simp only [frzD] at h
    split at h
    · cases h; exact h1
    · cases h
  | succ d =>
    cases v <;> simp only [frzD] at h
    case sl n o len cap t =>
      split at h
      · cases h; rfl
      · split at h
        · split at h
          · simp only [Option.map_eq_some_iff] at h
            obtain ⟨cs, _, rfl⟩ := h; rfl
          · cases h
        · cases h
    case tup vs => simp at h1
    case agg vs => simp at h1
    all_goals
      split at h
      · cases h; exact h1
      · cases h

theorem frzD_rel (rl : Rel B w0 ρ I σ w) (rl' : Rel B w0 ρ' I' σ' w') (ex : Ext ρ I σ ρ' I' σ') : ∀ (d : Nat) {v v' : AVal} {cv : Value}, frzD σ.next σ'.mem d v = some v' → VRel ρ' I' v cv → VRel ρ (frzI σ.next ρ' σ' w' I') v' cv := by
  have hle := frzI_le σ.next ρ' σ' w' I'
  have old : ∀ {x : AVal} {cx : Value}, x.upto σ.next = true → VRel ρ' I' x cx → VRel ρ (frzI σ.next ρ' σ' w' I') x cx := fun hu hx =>
    (VRel.agree (fun a ha => (ex.rho a ha).symm) _ _ hu hx).mono (RLe.refl _) hle
  intro d
  induction d with
  | zero =>
    intro v v' cv h hv
    simp only [frzD] at h
    split at h
    · rename_i hu; cases h; exact old hu hv
    · cases h
  | succ d ih =>
    intro v v' cv h hv
    have ihl : ∀ {xs ys : List AVal} {f : Nat → Option Value}, listM (frzD σ.next σ'.mem d) xs = some ys → CRel ρ' I' xs f → CRel ρ (frzI σ.next ρ' σ' w' I') ys f := fun {xs ys f} hl hc => by
      obtain ⟨l1, l2⟩ := listM_get hl
      refine CRel.mk fun j y hy => ?_
      obtain ⟨x, hx, hxy⟩ := l2 j y hy
      obtain ⟨u, hu, hux⟩ := hc.get j x hx
      exact ⟨u, hu, ih hxy hux⟩
    have ihone : ∀ {xs ys : List AVal}, listM (frzD σ.next σ'.mem d) xs = some ys → xs.all AVal.one = true → ys.all AVal.one = true := fun {xs ys} hl h1 => by
      obtain ⟨l1, l2⟩ := listM_get hl
      rw [List.all_eq_true]
      intro y hy
      obtain ⟨j, hj⟩ := List.mem_iff_getElem?.1 hy
      obtain ⟨x, hx, hxy⟩ := l2 j y hj
      exact frzD_one _ _ d x y hxy (List.all_eq_true.1 h1 x (List.mem_of_getElem? hx))
    cases v <;> simp only [frzD] at h
    case sl n o len cap t =>
      split at h
      · rename_i hn
        cases h
        exact old (by simp [AVal.upto, hn]) hv
      · rename_i hn
        split at h
        · rename_i es vals hm
          split at h
          · rename_i hl
            simp only [Option.map_eq_some_iff] at h
            obtain ⟨cs, hcs, rfl⟩ := h
            simp only [VRel] at hv ⊢
            obtain ⟨p, ad, cap', hp, rfl, h1, h2, h3, h4, h5, h6⟩ := hv
            obtain ⟨k1, k2, k3, c, e, fr, k4, k5, k6, k7⟩ := rl'.blk n p _ hp hm
            have hI := frzI_new (rl'.sep n p _ hp hm rfl) (by omega : σ.next ≤ n) hp hm k4
            refine ⟨ad, cap', rfl, by omega, h3, ?_, ihone hcs ?_, ?_⟩
            · intro ht
              simp only [Bool.and_eq_true, decide_eq_true_eq] at ht
              rw [h4 ht.1]; exact ht.2
            · rw [List.all_eq_true]
              intro x hx
              exact List.all_eq_true.1 k2 x (List.mem_of_mem_drop (List.mem_of_mem_take hx))
            · have hlen := (listM_get hcs).1
              rcases h5 with h5 | h5
              · have hl0 : len = 0 := by omega
                subst hl0
                simp at hlen
                subst hlen
                simp [CRel]
              · subst h5
                have hd := (k7.drop o).take (len * es)
                refine (ihl hcs hd).congr fun j hj => ?_
                by_cases hj0 : j = 0 <;> simp [icell, Addr.add, hj0, hI, Nat.add_assoc]
          · cases h
        · cases h
    case tup vs =>
      simp only [Option.map_eq_some_iff] at h
      obtain ⟨us, hus, rfl⟩ := h
      simp only [VRel] at hv ⊢
      obtain ⟨vs', rfl, hs, hc⟩ := hv
      exact ⟨vs', rfl, by rw [hs, (listM_get hus).1], ihl hus hc⟩
    case agg vs =>
      simp only [Option.map_eq_some_iff] at h
      obtain ⟨us, hus, rfl⟩ := h
      simp only [VRel] at hv ⊢
      obtain ⟨vs', rfl, hs, ho, hc⟩ := hv
      exact ⟨vs', rfl, by rw [hs, (listM_get hus).1], ihone hus ho, ihl hus hc⟩
    all_goals
      split at h
      · rename_i hu; cases h; exact old hu hv
      · cases h

theorem ACall.freezeD (d : Nat) {f : FuncId} {args : List AVal} {Q : AVal → St → Prop} (h : ACall P f args σ fun v σ' => Old σ σ' ∧ ∃ v', frzD σ.next σ'.mem d v = some v' ∧ Q v' σ) : ACall P f args σ Q := by
  refine ⟨h.1, fun B w0 ρ I w cargs rl h1 h2 => (h.2 B w0 ρ I w cargs rl h1 h2).mono ?_⟩
  rintro e w' ⟨v, σ', ρ', I', cv, rfl, hv, rl', ex, ho, v', hf, hq⟩
  exact ⟨v', σ, ρ, frzI σ.next ρ' σ' w' I', cv, rfl, frzD_rel rl rl' ex d hf hv, rl.freeze rl' ex ho, ⟨fun _ _ => rfl, fun b c hb => frzI_le _ _ _ _ _ b c (ex.imm b c hb), Nat.le_refl _, fun _ _ _ => rfl⟩, hq⟩

end
end Go.Proofs.Ytkfofdeceicfkaa.AM

/- What an argument's width says of its number. -/
namespace Go.Proofs.Ytkfofdeceicfkaa.AM
open Go.RowKit
theorem wf_u8 {n : Int} (h : (Lit.int .u8 n).wf = true) : ∃ k : Nat, n = (k : Int) ∧ k < 256 := by
  have h2 : IntKind.u8.min ≤ n ∧ n ≤ IntKind.u8.max := by simpa [Lit.wf] using h
  have e1 : IntKind.u8.min = 0 := by decide +kernel
  have e2 : IntKind.u8.max = 255 := by decide +kernel
  exact ⟨n.toNat, by omega, by omega⟩
theorem wf_u16 {n : Int} (h : (Lit.int .u16 n).wf = true) : ∃ k : Nat, n = (k : Int) ∧ k < 65536 := by
  have h2 : IntKind.u16.min ≤ n ∧ n ≤ IntKind.u16.max := by simpa [Lit.wf] using h
  have e1 : IntKind.u16.min = 0 := by decide +kernel
  have e2 : IntKind.u16.max = 65535 := by decide +kernel
  exact ⟨n.toNat, by omega, by omega⟩
theorem wf_u32 {n : Int} (h : (Lit.int .u32 n).wf = true) : ∃ k : Nat, n = (k : Int) ∧ k < 4294967296 := by
  have h2 : IntKind.u32.min ≤ n ∧ n ≤ IntKind.u32.max := by simpa [Lit.wf] using h
  have e1 : IntKind.u32.min = 0 := by decide +kernel
  have e2 : IntKind.u32.max = 4294967295 := by decide +kernel
  exact ⟨n.toNat, by omega, by omega⟩
theorem wf_u64 {n : Int} (h : (Lit.int .u64 n).wf = true) : ∃ k : Nat, n = (k : Int) ∧ k < 18446744073709551616 := by
  have h2 : IntKind.u64.min ≤ n ∧ n ≤ IntKind.u64.max := by simpa [Lit.wf] using h
  have e1 : IntKind.u64.min = 0 := by decide +kernel
  have e2 : IntKind.u64.max = 18446744073709551615 := by decide +kernel
  exact ⟨n.toNat, by omega, by omega⟩
theorem wf_i64 {n : Int} (h : (Lit.int .i64 n).wf = true) : -9223372036854775808 ≤ n ∧ n ≤ 9223372036854775807 := by
  have h2 : IntKind.i64.min ≤ n ∧ n ≤ IntKind.i64.max := by simpa [Lit.wf] using h
  have e1 : IntKind.i64.min = -9223372036854775808 := by decide +kernel
  have e2 : IntKind.i64.max = 9223372036854775807 := by decide +kernel
  omega
end Go.Proofs.Ytkfofdeceicfkaa.AM
