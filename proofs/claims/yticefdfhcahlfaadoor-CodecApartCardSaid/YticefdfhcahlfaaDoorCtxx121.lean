/- What the functions of this chapter give: their contracts over the machine. -/
import Derived.Test.YticefdfhcahlfaaDoorCtx121
import Derived.Test.YticefdfhcahlfaaDoorAm3
import Derived.Test.YticefdfhcahlfaaDoorCt121
/- Items, as an argument has them (of chapter 12's text). -/
namespace Go.Proofs.YticefdfhcahlfaaDoor.AM
set_option maxRecDepth 100000
set_option linter.unusedVariables false
set_option linter.unusedSimpArgs false

/-- Entries with their bytes, as cells. -/
def ICells : List AVal → List (Nat × List UInt8) → Prop
  | [], [] => True
  | c :: d :: cs, x :: xs => c = u64 (x.1 : Int) ∧ BytesOf d x.2 ∧ ICells cs xs
  | _, _ => False
theorem ICells.len : ∀ {cs : List AVal} {xs : List (Nat × List UInt8)}, ICells cs xs → cs.length = xs.length * 2
  | [], [], _ => rfl
  | c :: d :: cs, x :: xs, h => by have := h.2.2.len; simp [this]; omega
  | [], _ :: _, h => h.elim
  | [_], _, h => by cases ‹List (Nat × List UInt8)› <;> exact h.elim
  | _ :: _ :: _, [], h => h.elim
theorem ICells.get : ∀ {cs : List AVal} {xs : List (Nat × List UInt8)}, ICells cs xs → ∀ {i : Nat} {x : Nat × List UInt8}, xs[i]? = some x → ∃ d, BytesOf d x.2 ∧ (cs.drop (i * 2)).take 2 = [u64 (x.1 : Int), d]
  | c :: d :: cs, y :: xs, h, 0, x, hx => by
    simp at hx; subst hx
    exact ⟨d, h.2.1, by simp [h.1]⟩
  | c :: d :: cs, y :: xs, h, i + 1, x, hx => by
    obtain ⟨d', h1, h2⟩ := h.2.2.get (i := i) (by simpa using hx)
    exact ⟨d', h1, by rw [← h2, show (i + 1) * 2 = i * 2 + 1 + 1 by omega]; rfl⟩
  | [], [], _, _, _, hx => by simp at hx
  | [], _ :: _, h, _, _, _ => h.elim
  | [_], _, h, _, _, _ => by cases ‹List (Nat × List UInt8)› <;> exact h.elim
  | _ :: _ :: _, [], h, _, _, _ => h.elim
theorem ICells.take : ∀ {cs : List AVal} {xs : List (Nat × List UInt8)} (i : Nat), ICells cs xs → ICells (cs.take (i * 2)) (xs.take i)
  | [], [], i, _ => by simp [ICells]
  | c :: d :: cs, x :: xs, 0, _ => by simp [ICells]
  | c :: d :: cs, x :: xs, i + 1, h => by
    rw [show (i + 1) * 2 = i * 2 + 1 + 1 by omega]
    exact ⟨h.1, h.2.1, h.2.2.take i⟩
  | [], _ :: _, _, h => h.elim
  | [_], _, _, h => by cases ‹List (Nat × List UInt8)› <;> exact h.elim
  | _ :: _ :: _, [], _, h => h.elim
theorem ICells.append : ∀ {cs ds : List AVal} {xs ys : List (Nat × List UInt8)}, ICells cs xs → ICells ds ys → ICells (cs ++ ds) (xs ++ ys)
  | [], ds, [], ys, _, h => h
  | c :: d :: cs, ds, x :: xs, ys, h, k => ⟨h.1, h.2.1, h.2.2.append k⟩
  | [], _, _ :: _, _, h, _ => h.elim
  | [_], _, _, _, h, _ => by cases ‹List (Nat × List UInt8)› <;> exact h.elim
  | _ :: _ :: _, _, [], _, h, _ => h.elim
theorem ICells.upto (lo : Nat) : ∀ {cs : List AVal} {xs : List (Nat × List UInt8)}, ICells cs xs → uptoL lo cs = true
  | [], [], _ => rfl
  | c :: d :: cs, x :: xs, h => by simp [h.1, h.2.1.upto lo, h.2.2.upto lo]
  | [], _ :: _, h => h.elim
  | [_], _, h => by cases ‹List (Nat × List UInt8)› <;> exact h.elim
  | _ :: _ :: _, [], h => h.elim

/-- A slice of entries that does not change. -/
def ItemsOf (v : AVal) (xs : List (Nat × List UInt8)) : Prop := v = .nilsl ∧ xs = [] ∨ ∃ cs k t, v = .isl cs k t ∧ k = xs.length ∧ ICells cs xs
theorem ItemsOf.len {v : AVal} {xs : List (Nat × List UInt8)} (h : ItemsOf v xs) (ρ : St) : evalV ρ (.len 1 v) = some (i64 xs.length, ρ) := by
  rcases h with ⟨rfl, rfl⟩ | ⟨cs, k, t, rfl, rfl, _⟩ <;> simp
theorem ItemsOf.one {v : AVal} {xs : List (Nat × List UInt8)} (h : ItemsOf v xs) : v.one = true ∧ cellsOf v = [v] := by
  rcases h with ⟨rfl, rfl⟩ | ⟨cs, k, t, rfl, rfl, _⟩ <;> simp
theorem ItemsOf.upto {v : AVal} {xs : List (Nat × List UInt8)} (h : ItemsOf v xs) (lo : Nat) : v.upto lo = true := by
  rcases h with ⟨rfl, rfl⟩ | ⟨cs, k, t, rfl, rfl, hc⟩
  · rfl
  · simp [hc.upto lo]
end Go.Proofs.YticefdfhcahlfaaDoor.AM

/- Notes: Tell. -/
namespace Go.Proofs.YticefdfhcahlfaaDoor.AM
open Go.RowKit
set_option maxRecDepth 100000
set_option linter.unusedVariables false
set_option linter.unusedSimpArgs false

structure NoteV where
  kind : Nat
  topic : Nat
  yes : Bool
  code : Int
  nums : List Nat
  name : ByteArray
  key : ByteArray
  data : List UInt8
  items : List (Nat × List UInt8)
/-- A note's cells. -/
def noteC (x : NoteV) (dv iv : AVal) : List AVal := [.int .u8 (x.kind : Int), .int .u8 (x.topic : Int), .bool x.yes, .int .i64 x.code] ++ x.nums.map (fun (n : Nat) => u64 (n : Int)) ++ [.str x.name, .str x.key, dv, iv]
structure NoteV.Ok (x : NoteV) : Prop where
  kind : x.kind < 256
  topic : x.topic < 256
  nums : x.nums.length = 7
  lt : ∀ n ∈ x.nums, n < 18446744073709551616
def itB (x : Nat × List UInt8) : List UInt8 := beN 8 x.1 ++ byB x.2
def itsB (l : List (Nat × List UInt8)) : List UInt8 := (l.map itB).flatten
theorem itsB_snoc (l : List (Nat × List UInt8)) (x : Nat × List UInt8) : itsB (l ++ [x]) = itsB l ++ itB x := by simp [itsB]
/-- The code's byte. -/
def codeN (x : NoteV) : Nat := (IntKind.u8.wrap x.code).toNat
def noteH (x : NoteV) : List UInt8 := beN 1 x.kind ++ beN 1 x.topic ++ beN 1 (if x.yes then 1 else 0) ++ beN 1 (codeN x)
def noteM (x : NoteV) : List UInt8 := txB x.name ++ txB x.key ++ byB x.data ++ beN 2 (x.items.length % 65536)
def noteB (x : NoteV) : List UInt8 := noteH x ++ numsB x.nums ++ noteM x ++ itsB x.items
theorem flag_c {σ : St} (b : Bool) (Q : AVal → St → Prop) (hQ : Q (.int .u8 ((if b then 1 else 0 : Nat) : Int)) σ) : ACall Tryd.prog 36 [.bool b] σ Q := by
  refine ACall.of_compF hmx (fun a w => Tryd.call36 a w) Tryd.func36 cf36 (n := 1) (by decide) rfl ?_
  cases b
  · simp [ac36, rs36, lk_cons]; exact hQ
  · simp [ac36, rs36, lk_cons]; exact hQ
/-- The pointers to a note's numbers. -/
theorem numbers_c {σ : St} {p : Nat} (Q : AVal → St → Prop) (hQ : Q (.sl σ.next 0 7 7 true) ⟨σ.mem.set σ.next (.cells 1 ([4, 5, 6, 7, 8, 9, 10].map fun i => .ptr p i)), σ.next + 1⟩) : ACall Tryd.prog 37 [.ptr p 0] σ Q := by
  refine ACall.of_compF hmx (fun a w => Tryd.call37 a w) Tryd.func37 cf37 (n := 1) (by decide) rfl ?_
  simp [ac37, rs37, lk_cons, fillL, repL, storeL]
  exact hQ
end Go.Proofs.YticefdfhcahlfaaDoor.AM

/- Notes: Tell, walked. -/
namespace Go.Proofs.YticefdfhcahlfaaDoor.AM
open Go.RowKit
set_option maxRecDepth 100000
set_option linter.unusedVariables false
set_option linter.unusedSimpArgs false

structure NoteV.Few (x : NoteV) : Prop where
  name : x.name.size ≤ 5000
  key : x.key.size ≤ 5000
  data : x.data.length ≤ 5000
  items : x.items.length ≤ 60
  each : ∀ y ∈ x.items, y.2.length ≤ 1000
theorem itsB_len {l : List (Nat × List UInt8)} (h : ∀ y ∈ l, y.2.length ≤ 1000) : (itsB l).length ≤ 1012 * l.length := by
  induction l with
  | nil => simp [itsB]
  | cons x l ih =>
    have h1 := h x (by simp)
    have h2 := ih fun y hy => h y (by simp [hy])
    simp only [itsB, List.map_cons, List.flatten_cons, List.length_append, itB, byB_len, beN_len, List.length_cons] at h2 ⊢
    omega
def TnJ (p w o : Nat) (xs : List Nat) (l : List UInt8) (S σ0 : St) (mm : Nat) (rg : Regs) (σ' : St) : Prop := ∃ (i : Nat) (b : Option Nat), mm = 7 - i ∧ i ≤ 7 ∧ WB σ' w (l ++ numsB (xs.take i)) b ∧ WStp w none b S σ' ∧ (b ≠ some o ∧ o < σ'.next ∧ σ'.mem.get o = some (.cells 1 ([4, 5, 6, 7, 8, 9, 10].map fun i => AVal.ptr p i))) ∧ rg = [(1, .ptr p 0), (4, .ptr w 0), (5, .fn 34 [.ptr w 0] []), (35, .sl o 0 7 7 true), (36, i64 7), (37, i64 i)]
def TxJ (p w o : Nat) (n k : ByteArray) (l : List UInt8) (S : St) (mm : Nat) (rg : Regs) (σ' : St) : Prop := ∃ (i : Nat) (b : Option Nat), mm = 2 - i ∧ i ≤ 2 ∧ WB σ' w (l ++ (([n, k].take i).map txB).flatten) b ∧ WStp w none b S σ' ∧ (b ≠ some o ∧ o < σ'.next ∧ σ'.mem.get o = some (.cells 1 [.str n, .str k])) ∧ rg = [(1, .ptr p 0), (4, .ptr w 0), (5, .fn 34 [.ptr w 0] []), (51, .sl o 0 2 2 true), (52, i64 2), (53, i64 i)]
def ItJ (p w : Nat) (iv : AVal) (its : List (Nat × List UInt8)) (l : List UInt8) (S : St) (mm : Nat) (rg : Regs) (σ' : St) : Prop := ∃ (i : Nat) (b : Option Nat), mm = its.length - i ∧ i ≤ its.length ∧ WB σ' w (l ++ itsB (its.take i)) b ∧ WStp w none b S σ' ∧ rg = [(1, .ptr p 0), (4, .ptr w 0), (5, .fn 34 [.ptr w 0] []), (72, iv), (73, i64 (its.length : Nat)), (74, i64 i)]
theorem ItemsOf.at {v : AVal} {xs : List (Nat × List UInt8)} (h : ItemsOf v xs) {i : Nat} {x : Nat × List UInt8} (hx : xs[i]? = some x) : ∃ d, BytesOf d x.2 ∧ ∃ p, (∀ ρ, evalV ρ (.idxAddr 2 v (.int .i64 (i : Int))) = some (p, ρ)) ∧ ∀ ρ, evalV ρ (.ldn 2 p) = some (.agg [u64 (x.1 : Int), d], ρ) := by
  rcases h with ⟨rfl, rfl⟩ | ⟨cs, k, t, rfl, rfl, hc⟩
  · simp at hx
  · obtain ⟨d, h1, h2⟩ := hc.get hx
    have hi := (List.getElem?_eq_some_iff.1 hx).1
    refine ⟨d, h1, _, fun ρ => by simp [hi]; rfl, fun ρ => ?_⟩
    rw [h2]
    simp
theorem wu16_c {σ : St} {w : Nat} {l : List UInt8} {b : Option Nat} (h : WB σ w l b) {n : Nat} (hn : n < 65536) (hl : l.length ≤ 1000000000) (Q : AVal → St → Prop)
    (hQ : ∀ σ' b', WB σ' w (l ++ beN 2 n) b' → WStp w b b' σ σ' → Q (.tup []) σ') : ACall Tryd.prog 40 [.ptr w 0, .int .u16 (n : Int)] σ Q := by
  refine ACall.of_compF hmx (fun a w => Tryd.call40 a w) Tryd.func40 cf40 (n := 2) (by decide) rfl ?_
  have w1 : IntKind.u64.wrap (n : Int) = n := by rw [IntWalk.u64_in] <;> omega
  simp [ac40, rs40, lk_cons, w1]
  refine wnum_c h (size := 2) (by decide) hl _ fun σ' b' h1 h2 => ?_
  simp [lk_cons]
  exact hQ σ' b' h1 h2
set_option maxHeartbeats 2000000 in
theorem tell_c {σ : St} {x : NoteV} {dv iv : AVal} (ok : x.Ok) (fw : x.Few) (hd : BytesOf dv x.data) (hi : ItemsOf iv x.items) (Q : AVal → St → Prop)
    (hR : ∀ σ', Grow σ σ' → x.code < 0 ∨ 255 < x.code → Q (.tup [.nilsl, i64 2]) σ') (hL : ∀ σ', Grow σ σ' → ¬ (x.code < 0 ∨ 255 < x.code) → 4096 < (noteB x).length → Q (.tup [.nilsl, i64 3]) σ')
    (hQ : ∀ v b' σ', GS rwB σ' v (noteB x) b' → (∀ y, b' = some y → σ.next ≤ y) → Grow σ σ' → ¬ (x.code < 0 ∨ 255 < x.code) → (noteB x).length ≤ 4096 → Q (.tup [v, i64 0]) σ') : ACall Tryd.prog 14 [.agg (noteC x dv iv)] σ Q := by
  refine ACall.of_compF hmx (fun a w => Tryd.call14 a w) Tryd.func14 cf14 (n := 1) (by decide) rfl ?_
  obtain ⟨o1, o2⟩ := (RdB.ofI hd σ).one
  obtain ⟨o3, o4⟩ := hi.one
  obtain ⟨n1, n2, n3, n4, n5, n6, n7, hnums⟩ : ∃ a b c d e f g, x.nums = [a, b, c, d, e, f, g] := by
    have := ok.nums
    match h : x.nums, this with
    | [a, b, c, d, e, f, g], _ => exact ⟨a, b, c, d, e, f, g, rfl⟩
  have hC : noteC x dv iv = [.int .u8 (x.kind : Int), .int .u8 (x.topic : Int), .bool x.yes, .int .i64 x.code, u64 (n1 : Int), u64 (n2 : Int), u64 (n3 : Int), u64 (n4 : Int), u64 (n5 : Int), u64 (n6 : Int), u64 (n7 : Int), .str x.name, .str x.key, dv, iv] := by rw [noteC, hnums]; rfl
  rw [hC]
  simp [ac14, rs14, lk_cons, fillL, storeL, o1, o2, o3, o4]
  obtain ⟨S, hS⟩ : ∃ S : St, S = ⟨(σ.mem.set σ.next (.cells 15 [.int .u8 (x.kind : Int), .int .u8 (x.topic : Int), .bool x.yes, .int .i64 x.code, u64 (n1 : Int), u64 (n2 : Int), u64 (n3 : Int), u64 (n4 : Int), u64 (n5 : Int), u64 (n6 : Int), u64 (n7 : Int), .str x.name, .str x.key, dv, iv])).set (σ.next + 1) (.cells 1 [.nilsl]), σ.next + 1 + 1⟩ := ⟨_, rfl⟩
  have nS : S.next = σ.next + 2 := by rw [hS]
  have gS : Grow σ S := ⟨by omega, fun a ha => by rw [hS]; simp [show ¬ a = σ.next by omega, show ¬ a = σ.next + 1 by omega]⟩
  have mS : S.mem.get σ.next = some (.cells 15 [.int .u8 (x.kind : Int), .int .u8 (x.topic : Int), .bool x.yes, .int .i64 x.code, u64 (n1 : Int), u64 (n2 : Int), u64 (n3 : Int), u64 (n4 : Int), u64 (n5 : Int), u64 (n6 : Int), u64 (n7 : Int), .str x.name, .str x.key, dv, iv]) := by rw [hS]; simp
  have h0 : WB S (σ.next + 1) [] none := ⟨.nilsl, by rw [hS]; simp, GS.nil _, by simp, by omega⟩
  have mm : ∀ {σ' : St} {b : Option Nat}, WStp (σ.next + 1) none b S σ' → σ'.mem.get σ.next = S.mem.get σ.next := fun t => t.keep σ.next (by omega) (by omega) (by simp)
  have hcode : IntKind.u8.wrap x.code = (codeN x : Int) ∧ codeN x < 256 := by
    unfold codeN
    simp only [IntKind.wrap, IntKind.bits, IntKind.signed]; simp; omega
  rw [← hS]
  refine wu8_c h0 ok.kind (by simp) _ fun σ1 b1 h1 t1 => ?_
  simp [lk_cons, mm t1, mS]
  refine wu8_c h1 ok.topic (by simp [beN_len]) _ fun σ2 b2 h2 t2 => ?_
  have t2 := t1.trans t2
  simp [lk_cons, mm t2, mS]
  refine flag_c _ _ ?_
  simp [lk_cons]
  refine wu8_c h2 (n := if x.yes then 1 else 0) (by split <;> decide) (by simp [beN_len]) _ fun σ3 b3 h3 t3 => ?_
  have t3 := t2.trans t3
  simp [lk_cons, mm t3, mS, hcode.1]
  refine wu8_c h3 hcode.2 (by simp [beN_len]) _ fun σ4 b4 h4 t4 => ?_
  have t4 := t3.trans t4
  simp [lk_cons]
  refine numbers_c _ ?_
  simp [lk_cons]
  change WB σ4 (σ.next + 1) (noteH x) b4 at h4
  have hHl : (noteH x).length = 4 := by simp [noteH, beN_len]
  have n4' := t4.next
  obtain ⟨S4, hS4⟩ : ∃ S4 : St, S4 = ⟨σ4.mem.set σ4.next (.cells 1 [.ptr σ.next 4, .ptr σ.next 5, .ptr σ.next 6, .ptr σ.next 7, .ptr σ.next 8, .ptr σ.next 9, .ptr σ.next 10]), σ4.next + 1⟩ := ⟨_, rfl⟩
  have nS4 : S4.next = σ4.next + 1 := by rw [hS4]
  have kS4 : ∀ a, a < σ4.next → S4.mem.get a = σ4.mem.get a := fun a ha => by rw [hS4]; simp [show ¬ a = σ4.next by omega]
  have mS4 : S4.mem.get σ4.next = some (.cells 1 ([4, 5, 6, 7, 8, 9, 10].map fun i => AVal.ptr σ.next i)) := by rw [hS4]; simp
  have w4 : WB S4 (σ.next + 1) (noteH x) b4 := h4.keep (by omega) fun a ha _ => kS4 a ha
  have hb4 : b4 ≠ some σ4.next := fun e => by
    obtain ⟨_, _, hg, _, _⟩ := id h4
    have := hg.lt e; omega
  have s4 : WStp (σ.next + 1) none b4 S S4 := ⟨by omega, t4.own, fun a ha hw hb => (kS4 a (by omega)).trans (t4.keep a ha hw hb)⟩
  rw [← hS4]
  refine wp_loop (TnJ σ.next (σ.next + 1) σ4.next [n1, n2, n3, n4, n5, n6, n7] (noteH x) S σ4) 7 ?_ ?_
  · exact ⟨0, b4, rfl, by omega, by simpa [numsB] using w4, s4, ⟨hb4, by omega, mS4⟩, by simp [lk_cons]⟩
  rintro m rg σ5 ⟨i, b5, rfl, hi7, w5, s5, ⟨ob, on, om⟩, rfl⟩
  have m5 := (mm s5).trans mS
  by_cases hc : i < 7
  · have hc' : (i : Int) < 7 := by omega
    have w1 : IntKind.i64.wrap ((i : Int) + 1) = ((i + 1 : Nat) : Int) := by rw [IntWalk.i64_in] <;> omega
    obtain ⟨n, hx, hp, hv⟩ : ∃ n : Nat, [n1, n2, n3, n4, n5, n6, n7][i]? = some n ∧ ([4, 5, 6, 7, 8, 9, 10].map fun i => AVal.ptr σ.next i)[i]? = some (.ptr σ.next (4 + i)) ∧ ([.int .u8 (x.kind : Int), .int .u8 (x.topic : Int), .bool x.yes, .int .i64 x.code, u64 (n1 : Int), u64 (n2 : Int), u64 (n3 : Int), u64 (n4 : Int), u64 (n5 : Int), u64 (n6 : Int), u64 (n7 : Int), .str x.name, .str x.key, dv, iv] : List AVal)[4 + i]? = some (u64 (n : Int)) := by
      rcases (by omega : i = 0 ∨ i = 1 ∨ i = 2 ∨ i = 3 ∨ i = 4 ∨ i = 5 ∨ i = 6) with rfl | rfl | rfl | rfl | rfl | rfl | rfl <;> exact ⟨_, rfl, rfl, rfl⟩
    have htk : [n1, n2, n3, n4, n5, n6, n7].take (i + 1) = [n1, n2, n3, n4, n5, n6, n7].take i ++ [n] := by rw [List.take_add_one, hx]; rfl
    have om0 := om
    revert m5 om
    generalize ([.int .u8 (x.kind : Int), .int .u8 (x.topic : Int), .bool x.yes, .int .i64 x.code, u64 (n1 : Int), u64 (n2 : Int), u64 (n3 : Int), u64 (n4 : Int), u64 (n5 : Int), u64 (n6 : Int), u64 (n7 : Int), .str x.name, .str x.key, dv, iv] : List AVal) = cells at hv
    generalize ([4, 5, 6, 7, 8, 9, 10].map fun i => AVal.ptr σ.next i) = ptrs at hp
    intro om m5
    have hnl := numsB_len ([n1, n2, n3, n4, n5, n6, n7].take i)
    rw [List.length_take] at hnl
    simp [lk_cons, hc, hc', om, hp, m5, hv]
    refine wu64_c w5 (by rw [List.length_append]; simp at hnl; omega) _ fun σ6 b6 h6 t6 => ?_
    simp [lk_cons, w1]
    refine ⟨7 - (i + 1), by omega, i + 1, b6, rfl, by omega, ?_, s5.trans t6, ⟨fun e => ?_, by have := t6.next; omega, ?_⟩, rfl⟩
    · rw [htk, numsB_snoc, ← List.append_assoc]
      exact h6
    · rcases t6.own _ e with e | e
      · exact ob e
      · omega
    · exact (t6.keep σ4.next on (by omega) ob).trans om0
  · have : i = 7 := by omega
    subst this
    simp only [List.take_succ_cons, List.take_nil, List.take_zero] at w5
    rw [← hnums] at w5
    have hnl : (noteH x ++ numsB x.nums).length = 60 := by rw [List.length_append, hHl, numsB_len, ok.nums]
    simp [lk_cons, m5, fillL, repL, storeL]
    revert w5 hnl
    generalize hHM : noteH x ++ numsB x.nums = LH
    intro w5 hnl
    obtain ⟨S5, hS5⟩ : ∃ S5 : St, S5 = ⟨σ5.mem.set σ5.next (.cells 1 [.str x.name, .str x.key]), σ5.next + 1⟩ := ⟨_, rfl⟩
    have nS5 : S5.next = σ5.next + 1 := by rw [hS5]
    have n5 := s5.next
    have kS5 : ∀ a, a < σ5.next → S5.mem.get a = σ5.mem.get a := fun a ha => by rw [hS5]; simp [show ¬ a = σ5.next by omega]
    have mS5 : S5.mem.get σ5.next = some (.cells 1 [.str x.name, .str x.key]) := by rw [hS5]; simp
    have hb5 : b5 ≠ some σ5.next := fun e => by
      obtain ⟨_, _, hg, _, _⟩ := id w5
      have := hg.lt e; omega
    have s5' : WStp (σ.next + 1) none b5 S S5 := ⟨by omega, s5.own, fun a ha hw hb => (kS5 a (by omega)).trans (s5.keep a ha hw hb)⟩
    rw [← hS5]
    refine wp_loop (TxJ σ.next (σ.next + 1) σ5.next x.name x.key LH S) 2 ?_ ?_
    · exact ⟨0, b5, rfl, by omega, by simpa using w5.keep (by omega) fun a ha _ => kS5 a ha, s5', ⟨hb5, by omega, mS5⟩, by simp [lk_cons]⟩
    rintro m rg σ6 ⟨i, b6, rfl, hi2, w6, s6, ⟨ob6, on6, om6⟩, rfl⟩
    have m6 := (mm s6).trans mS
    have hTl : ∀ j, ((([x.name, x.key].take j).map txB).flatten).length ≤ 10008 := fun j => by
      have h1 := fw.name; have h2 := fw.key
      match j with
      | 0 => simp
      | 1 => simp [txB_len]; omega
      | j + 2 => simp [txB_len]; omega
    by_cases hc6 : i < 2
    · have hc6' : (i : Int) < 2 := by omega
      have w1 : IntKind.i64.wrap ((i : Int) + 1) = ((i + 1 : Nat) : Int) := by rw [IntWalk.i64_in] <;> omega
      obtain ⟨tx, hx, hp, htl⟩ : ∃ tx : ByteArray, [x.name, x.key][i]? = some tx ∧ ([.str x.name, .str x.key] : List AVal)[i]? = some (.str tx) ∧ tx.size ≤ 5000 := by
        rcases (by omega : i = 0 ∨ i = 1) with rfl | rfl
        · exact ⟨_, rfl, rfl, fw.name⟩
        · exact ⟨_, rfl, rfl, fw.key⟩
      have htk : [x.name, x.key].take (i + 1) = [x.name, x.key].take i ++ [tx] := by rw [List.take_add_one, hx]; rfl
      have om0 := om6
      revert om6
      generalize ([.str x.name, .str x.key] : List AVal) = strs at hp
      intro om6
      have hl6 := hTl i
      simp [lk_cons, hc6, hc6', om6, hp]
      refine wtext_c w6 (by rw [List.length_append]; omega) (by omega) _ fun σ7 b7 h7 t7 => ?_
      simp [lk_cons, w1]
      refine ⟨2 - (i + 1), by omega, i + 1, b7, rfl, by omega, ?_, s6.trans t7, ⟨fun e => ?_, by have := t7.next; omega, ?_⟩, rfl⟩
      · rw [htk, List.map_append, List.flatten_append, ← List.append_assoc]
        simpa [txB] using h7
      · rcases t7.own _ e with e | e
        · exact ob6 e
        · omega
      · exact (t7.keep σ5.next on6 (by omega) ob6).trans om0
    · have : i = 2 := by omega
      subst this
      simp only [List.take_succ_cons, List.take_nil, List.take_zero, List.map_cons, List.map_nil, List.flatten_cons, List.flatten_nil, List.append_nil] at w6
      simp [lk_cons, m6]
      have hilen := hi.len
      have hf1 := fw.name
      have hf2 := fw.key
      have hf3 := fw.data
      have hf4 := fw.items
      refine wbytes_c w6 (SrcB.ofI hd) (by simp [txB_len]; omega) (by omega) _ fun σ7 b7 h7 t7 => ?_
      have t7 := s6.trans t7
      have m7 := (mm t7).trans mS
      have wl : IntKind.u16.wrap (x.items.length : Int) = x.items.length := by rw [IntWalk.u16_in] <;> omega
      simp [lk_cons, m7, ↓hilen, wl]
      refine wu16_c h7 (by omega) (by simp [txB_len, beN_len]; omega) _ fun σ8 b8 h8 t8 => ?_
      have t8 := t7.trans t8
      have m8 := (mm t8).trans mS
      have hall : LH ++ (txB x.name ++ txB x.key) ++ (beN 4 x.data.length ++ x.data) ++ beN 2 x.items.length = noteH x ++ numsB x.nums ++ noteM x := by
        rw [← hHM, noteM, Nat.mod_eq_of_lt (by omega)]
        simp [byB, List.append_assoc]
      rw [hall] at h8
      have hML : (noteH x ++ numsB x.nums ++ noteM x).length = 74 + x.name.size + x.key.size + x.data.length := by
        rw [hHM]
        simp only [List.length_append, noteM, txB_len, byB_len, beN_len, hnl]; omega
      simp [lk_cons, m8, ↓hilen]
      revert h8 hML
      generalize hLM : noteH x ++ numsB x.nums ++ noteM x = LM
      intro h8 hML
      refine wp_loop (ItJ σ.next (σ.next + 1) iv x.items LM S) x.items.length ?_ ?_
      · exact ⟨0, b8, rfl, Nat.zero_le _, by simpa [itsB] using h8, t8, by simp [lk_cons]⟩
      rintro m rg σ9 ⟨i, b9, rfl, hi9, w9, s9, rfl⟩
      have m9 := (mm s9).trans mS
      have n9 := s9.next
      by_cases hc9 : i < x.items.length
      · obtain ⟨y, hy⟩ : ∃ y, x.items[i]? = some y := ⟨_, List.getElem?_eq_getElem hc9⟩
        obtain ⟨d, hyd, p, i1, i2⟩ := hi.at hy
        obtain ⟨p1, p2⟩ := (RdB.ofI hyd σ9).one
        have hye := fw.each y (List.mem_of_getElem? hy)
        have w1 : IntKind.i64.wrap ((i : Int) + 1) = ((i + 1 : Nat) : Int) := by rw [IntWalk.i64_in] <;> omega
        have htk : x.items.take (i + 1) = x.items.take i ++ [y] := by rw [List.take_add_one, hy]; rfl
        have hil := itsB_len (l := x.items.take i) fun z hz => fw.each z (List.mem_of_mem_take hz)
        rw [List.length_take] at hil
        simp [lk_cons, hc9, ↓i1, ↓i2, storeL, p1, p2]
        obtain ⟨S9, hS9⟩ : ∃ S9 : St, S9 = ⟨(σ9.mem.set σ9.next (.cells 2 [.int .u64 0, .nilsl])).set σ9.next (.cells 2 [u64 (y.1 : Int), d]), σ9.next + 1⟩ := ⟨_, rfl⟩
        have nS9 : S9.next = σ9.next + 1 := by rw [hS9]
        have kS9 : ∀ a, a < σ9.next → S9.mem.get a = σ9.mem.get a := fun a ha => by rw [hS9]; simp [show ¬ a = σ9.next by omega]
        have mS9 : S9.mem.get σ9.next = some (.cells 2 [u64 (y.1 : Int), d]) := by rw [hS9]; simp
        have hb9 : b9 ≠ some σ9.next := fun e => by
          obtain ⟨_, _, hg, _, _⟩ := id w9
          have := hg.lt e; omega
        have s9' : WStp (σ.next + 1) none b9 S S9 := ⟨by omega, s9.own, fun a ha hw hb => (kS9 a (by omega)).trans (s9.keep a ha hw hb)⟩
        rw [← hS9]
        refine wu64_c (w9.keep (by omega) fun a ha _ => kS9 a ha) (by rw [List.length_append]; omega) _ fun σa ba ha ta => ?_
        have mSa := (ta.keep σ9.next (by omega) (by omega) hb9).trans mS9
        simp [lk_cons, mSa]
        refine wbytes_c ha (SrcB.ofI hyd) (by simp only [List.length_append, beN_len]; omega) (by omega) _ fun σb bb hb tb => ?_
        simp [lk_cons, w1]
        refine ⟨x.items.length - (i + 1), by omega, i + 1, bb, rfl, by omega, ?_, s9'.trans (ta.trans tb), rfl⟩
        rw [htk, itsB_snoc]
        simpa [itB, byB, List.append_assoc] using hb
      · have : i = x.items.length := by omega
        subst this
        rw [List.take_length] at w9
        have hil := itsB_len (l := x.items) fw.each
        simp [lk_cons]
        refine wdone_c w9 (by rw [List.length_append]; omega) _ fun σd vd bd hd1 hd2 hd3 => ?_
        rw [← hLM] at hd1
        change GS rwB σd vd (noteB x) bd at hd1
        have md := (hd3.2 σ.next (by omega)).trans m9
        have gr : Grow σ σd := ⟨by have := hd3.1; omega, fun a ha => (hd3.2 a (by omega)).trans ((s9.keep a (by omega) (by omega) (by simp)).trans (gS.2 a ha))⟩
        have hlen := hd1.len
        by_cases hcd : x.code < 0
        · simp [lk_cons, md, hcd]
          exact hR σd gr (.inl hcd)
        by_cases hce : 255 < x.code
        · simp [lk_cons, md, hcd, hce]
          exact hR σd gr (.inr hce)
        have hit : ¬ (65535 : Int) < x.items.length := by omega
        have hit' : ¬ 65535 < x.items.length := by omega
        by_cases hcl : 4096 < (noteB x).length
        · have hcl' : (4096 : Int) < (noteB x).length := by omega
          simp [lk_cons, md, hcd, hce, ↓hilen, hit, hit', ↓hlen, hcl, hcl']
          exact hL σd gr (by omega) hcl
        · have hcl' : ¬ (4096 : Int) < (noteB x).length := by omega
          simp [lk_cons, md, hcd, hce, ↓hilen, hit, hit', ↓hlen, hcl, hcl']
          exact hQ vd bd σd hd1 (fun z hz => by have := hd2 z hz; omega) gr (by omega) (by omega)
end Go.Proofs.YticefdfhcahlfaaDoor.AM

/- Notes: the document's Note. -/
namespace Go.Proofs.YticefdfhcahlfaaDoor.AM
open Go.RowKit
set_option maxRecDepth 100000
set_option linter.unusedVariables false
set_option linter.unusedSimpArgs false

theorem ItemsOf.flds {v : AVal} {xs : List (Nat × List UInt8)} (h : ItemsOf v xs) {i : Nat} {x : Nat × List UInt8} (hx : xs[i]? = some x) : ∃ d, BytesOf d x.2 ∧ ∃ p p0 p1, (∀ ρ, evalV ρ (.idxAddr 2 v (.int .i64 (i : Int))) = some (p, ρ)) ∧ (∀ ρ, evalV ρ (.fieldAddr 0 p) = some (p0, ρ)) ∧ (∀ ρ, evalV ρ (.fieldAddr 1 p) = some (p1, ρ)) ∧ (∀ ρ, evalV ρ (.ld1 p0) = some (u64 (x.1 : Int), ρ)) ∧ ∀ ρ, evalV ρ (.ld1 p1) = some (d, ρ) := by
  rcases h with ⟨rfl, rfl⟩ | ⟨cs, k, t, rfl, rfl, hc⟩
  · simp at hx
  · obtain ⟨d, h1, h2⟩ := hc.get hx
    have hi := (List.getElem?_eq_some_iff.1 hx).1
    refine ⟨d, h1, .iptr [u64 (x.1 : Int), d], .iptr [u64 (x.1 : Int), d], .iptr [d], fun ρ => by simp [hi, h2], fun ρ => by simp, fun ρ => by simp, fun ρ => by simp, fun ρ => by simp⟩
theorem refyes_c {σ : St} (b : Bool) (Q : AVal → St → Prop) (hQ : Q (.int .u64 ((if b then 1 else 0 : Nat) : Int)) σ) : ACall Tryd.prog 43 [.bool b] σ Q := by
  refine ACall.of_compF hmx (fun a w => Tryd.call43 a w) Tryd.func43 cf43 (n := 1) (by decide) rfl ?_
  cases b
  · simp [ac43, rs43, lk_cons]; exact hQ
  · simp [ac43, rs43, lk_cons]; exact hQ
theorem BStp.grow0 {b' : Option Nat} {σ σ' : St} (h : BStp none b' σ σ') : Grow σ σ' := ⟨h.next, fun a ha => h.keep a ha (by simp)⟩
def NnJ (p o : Nat) (xs : List Nat) (l : List UInt8) (S : St) (mm : Nat) (rg : Regs) (σ' : St) : Prop := ∃ (i : Nat) (v : AVal) (b : Option Nat), mm = 7 - i ∧ i ≤ 7 ∧ GS rwB σ' v (l ++ numsB (xs.take i)) b ∧ BStp none b S σ' ∧ (b ≠ some o ∧ o < σ'.next ∧ σ'.mem.get o = some (.cells 1 (xs.map fun n : Nat => u64 (n : Int)))) ∧ rg = [(1, .ptr p 0), (4, v), (5, .sl o 0 7 7 true), (6, i64 i)]
def NiJ (p : Nat) (its : List (Nat × List UInt8)) (l : List UInt8) (S : St) (mm : Nat) (rg : Regs) (σ' : St) : Prop := ∃ (i : Nat) (v : AVal) (b : Option Nat), mm = its.length - i ∧ i ≤ its.length ∧ GS rwB σ' v (l ++ itsB (its.take i)) b ∧ BStp none b S σ' ∧ rg = [(1, .ptr p 0), (4, v), (7, i64 i)]
set_option maxHeartbeats 4000000 in
theorem note_c {σ : St} {x : NoteV} {dv iv : AVal} (ok : x.Ok) (fw : x.Few) (hd : BytesOf dv x.data) (hi : ItemsOf iv x.items) (he : ∀ y ∈ x.items, y.1 < 18446744073709551616) (Q : AVal → St → Prop)
    (hR : ∀ σ', Grow σ σ' → x.code < 0 ∨ 255 < x.code → Q (.tup [.nilsl, i64 2]) σ') (hL : ∀ σ', Grow σ σ' → ¬ (x.code < 0 ∨ 255 < x.code) → 4096 < (noteB x).length → Q (.tup [.nilsl, i64 3]) σ')
    (hQ : ∀ v b' σ', GS rwB σ' v (noteB x) b' → (∀ y, b' = some y → σ.next ≤ y) → Grow σ σ' → ¬ (x.code < 0 ∨ 255 < x.code) → (noteB x).length ≤ 4096 → Q (.tup [v, i64 0]) σ') : ACall Tryd.prog 15 [.agg (noteC x dv iv)] σ Q := by
  refine ACall.of_compF hmx (fun a w => Tryd.call15 a w) Tryd.func15 cf15 (n := 1) (by decide) rfl ?_
  obtain ⟨o1, o2⟩ := (RdB.ofI hd σ).one
  obtain ⟨o3, o4⟩ := hi.one
  have hilen := hi.len
  obtain ⟨n1, n2, n3, n4, n5, n6, n7, hnums⟩ : ∃ a b c d e f g, x.nums = [a, b, c, d, e, f, g] := by
    have := ok.nums
    match h : x.nums, this with
    | [a, b, c, d, e, f, g], _ => exact ⟨a, b, c, d, e, f, g, rfl⟩
  have hC : noteC x dv iv = [.int .u8 (x.kind : Int), .int .u8 (x.topic : Int), .bool x.yes, .int .i64 x.code, u64 (n1 : Int), u64 (n2 : Int), u64 (n3 : Int), u64 (n4 : Int), u64 (n5 : Int), u64 (n6 : Int), u64 (n7 : Int), .str x.name, .str x.key, dv, iv] := by rw [noteC, hnums]; rfl
  have hf1 := fw.name
  have hf2 := fw.key
  have hf3 := fw.data
  have hf4 := fw.items
  have hit : ¬ (65535 : Int) < x.items.length := by omega
  have hit' : ¬ 65535 < x.items.length := by omega
  rw [hC]
  simp [ac15, rs15, lk_cons, fillL, storeL, o1, o2, o3, o4]
  obtain ⟨S, hS⟩ : ∃ S : St, S = ⟨σ.mem.set σ.next (.cells 15 [.int .u8 (x.kind : Int), .int .u8 (x.topic : Int), .bool x.yes, .int .i64 x.code, u64 (n1 : Int), u64 (n2 : Int), u64 (n3 : Int), u64 (n4 : Int), u64 (n5 : Int), u64 (n6 : Int), u64 (n7 : Int), .str x.name, .str x.key, dv, iv]), σ.next + 1⟩ := ⟨_, rfl⟩
  have nS : S.next = σ.next + 1 := by rw [hS]
  have gS : Grow σ S := ⟨by omega, fun a ha => by rw [hS]; simp [show ¬ a = σ.next by omega]⟩
  have mS : S.mem.get σ.next = some (.cells 15 [.int .u8 (x.kind : Int), .int .u8 (x.topic : Int), .bool x.yes, .int .i64 x.code, u64 (n1 : Int), u64 (n2 : Int), u64 (n3 : Int), u64 (n4 : Int), u64 (n5 : Int), u64 (n6 : Int), u64 (n7 : Int), .str x.name, .str x.key, dv, iv]) := by rw [hS]; simp
  have mm : ∀ {σ' : St} {b : Option Nat}, BStp none b S σ' → σ'.mem.get σ.next = S.mem.get σ.next := fun t => t.keep σ.next (by omega) (by simp)
  by_cases hcd : x.code < 0
  · simp [← hS, lk_cons, mS, hcd]
    exact hR S gS (.inl hcd)
  by_cases hce : 255 < x.code
  · simp [← hS, lk_cons, mS, hcd, hce]
    exact hR S gS (.inr hce)
  have hcod : (codeN x : Int) = x.code := by
    unfold codeN
    simp only [IntKind.wrap, IntKind.bits, IntKind.signed]; simp; omega
  have hcodl : codeN x < 256 := by omega
  have hcw : IntKind.u64.wrap x.code = (codeN x : Int) := by rw [IntWalk.u64_in] <;> omega
  have wk : IntKind.u64.wrap (x.kind : Int) = x.kind := by have := ok.kind; rw [IntWalk.u64_in] <;> omega
  have wt : IntKind.u64.wrap (x.topic : Int) = x.topic := by have := ok.topic; rw [IntWalk.u64_in] <;> omega
  have okk := ok.kind
  have okt := ok.topic
  have oklt := ok.lt
  simp [← hS, lk_cons, mS, hcd, hce, ↓hilen, hit, hit', wk, wt]
  refine rput_c (GS.nil S) (n := x.kind) (size := 1) (by decide) (by simp) (by omega) _ fun v1 σ1 b1 g1 t1 => ?_
  simp [lk_cons, mm t1, mS, wk, wt]
  refine rput_c g1 (n := x.topic) (size := 1) (by decide) (by simp [beN_len]) (by omega) _ fun v2 σ2 b2 g2 t2 => ?_
  have t2 := t1.trans t2
  simp [lk_cons, mm t2, mS, hcw]
  refine refyes_c _ _ ?_
  simp [lk_cons, mm t2, mS, hcw]
  refine rput_c g2 (n := if x.yes then 1 else 0) (size := 1) (by decide) (by simp [beN_len]) (by split <;> decide) _ fun v3 σ3 b3 g3 t3 => ?_
  have t3 := t2.trans t3
  simp [lk_cons, mm t3, mS, hcw]
  refine rput_c g3 (n := codeN x) (size := 1) (by decide) (by simp [beN_len]) (by omega) _ fun v4 σ4 b4 g4 t4 => ?_
  have t4 := t3.trans t4
  simp [lk_cons, mm t4, mS, fillL, repL, storeL]
  change GS rwB σ4 v4 (noteH x) b4 at g4
  have hHl : (noteH x).length = 4 := by simp [noteH, beN_len]
  have hnl := ok.nums
  have n4' := t4.next
  obtain ⟨S4, hS4⟩ : ∃ S4 : St, S4 = ⟨σ4.mem.set σ4.next (.cells 1 [u64 (n1 : Int), u64 (n2 : Int), u64 (n3 : Int), u64 (n4 : Int), u64 (n5 : Int), u64 (n6 : Int), u64 (n7 : Int)]), σ4.next + 1⟩ := ⟨_, rfl⟩
  have nS4 : S4.next = σ4.next + 1 := by rw [hS4]
  have kS4 : ∀ a, a < σ4.next → S4.mem.get a = σ4.mem.get a := fun a ha => by rw [hS4]; simp [show ¬ a = σ4.next by omega]
  have mS4 : S4.mem.get σ4.next = some (.cells 1 (x.nums.map fun n : Nat => u64 (n : Int))) := by rw [hS4, hnums]; simp
  have hb4 : b4 ≠ some σ4.next := fun e => by have := g4.lt e; omega
  have s4 : BStp none b4 S S4 := ⟨by omega, t4.own, fun a ha hb => (kS4 a (by omega)).trans (t4.keep a ha hb)⟩
  have mS0 := mS
  revert mS
  generalize ([.int .u8 (x.kind : Int), .int .u8 (x.topic : Int), .bool x.yes, .int .i64 x.code, u64 (n1 : Int), u64 (n2 : Int), u64 (n3 : Int), u64 (n4 : Int), u64 (n5 : Int), u64 (n6 : Int), u64 (n7 : Int), .str x.name, .str x.key, dv, iv] : List AVal) = cells at hC
  rw [← hS4]
  intro mS
  have cn : cells[11]? = some (.str x.name) ∧ cells[12]? = some (.str x.key) ∧ cells[13]? = some dv ∧ cells[14]? = some iv := by rw [← hC, noteC, hnums]; exact ⟨rfl, rfl, rfl, rfl⟩
  obtain ⟨c1, c2, c3, c4⟩ := cn
  refine wp_loop (NnJ σ.next σ4.next x.nums (noteH x) S) 7 ?_ ?_
  · exact ⟨0, v4, b4, rfl, by omega, by simpa [numsB] using g4.keep (by omega) fun a ha _ => kS4 a ha, s4, ⟨hb4, by omega, mS4⟩, by simp [lk_cons]⟩
  rintro m rg σ5 ⟨i, v5, b5, rfl, hi7, w5, s5, ⟨ob, on, om⟩, rfl⟩
  have m5 := (mm s5).trans mS
  by_cases hc : i < 7
  · have hc' : (i : Int) < 7 := by omega
    have w1 : IntKind.i64.wrap ((i : Int) + 1) = ((i + 1 : Nat) : Int) := by rw [IntWalk.i64_in] <;> omega
    obtain ⟨n, hx⟩ : ∃ n, x.nums[i]? = some n := ⟨_, List.getElem?_eq_getElem (by omega)⟩
    have hp : (x.nums.map fun n : Nat => u64 (n : Int))[i]? = some (u64 (n : Int)) := by simp [hx]
    have htk : x.nums.take (i + 1) = x.nums.take i ++ [n] := by rw [List.take_add_one, hx]; rfl
    have hnl2 := numsB_len (x.nums.take i)
    rw [List.length_take] at hnl2
    have hnlt := oklt n (List.mem_of_getElem? hx)
    have om0 := om
    revert om
    generalize (x.nums.map fun n : Nat => u64 (n : Int)) = ncs at hp
    intro om
    simp [lk_cons, hc, hc', om, hp]
    refine rput_c w5 (size := 8) (by decide) (by rw [List.length_append]; omega) hnlt _ fun v6 σ6 b6 h6 t6 => ?_
    simp [lk_cons, w1]
    refine ⟨7 - (i + 1), by omega, i + 1, v6, b6, rfl, by omega, ?_, s5.trans t6, ⟨fun e => ?_, by have := t6.next; omega, ?_⟩, rfl⟩
    · rw [htk, numsB_snoc, ← List.append_assoc]
      exact h6
    · rcases t6.own _ e with e | e
      · exact ob e
      · omega
    · exact (t6.keep σ4.next on ob).trans om0
  have : i = 7 := by omega
  subst this
  rw [List.take_of_length_le (by omega)] at w5
  have hnl : (noteH x ++ numsB x.nums).length = 60 := by rw [List.length_append, hHl, numsB_len, ok.nums]
  revert w5 hnl
  generalize hHM : noteH x ++ numsB x.nums = LH
  intro w5 hnl
  have q1 : x.name.size ≤ 140737488355328 := by omega
  have q2 : x.key.size ≤ 140737488355328 := by omega
  have n5 := s5.next
  have ne5 : ¬ σ.next = σ5.next := by omega
  have ne6 : ¬ σ.next = σ5.next + 1 := by omega
  have ne7 : ¬ σ5.next = σ5.next + 1 := by omega
  simp [lk_cons, m5, c1, c2, c3, q1, q2, ne5, ne6]
  obtain ⟨S5, hS5⟩ : ∃ S5 : St, S5 = ⟨(σ5.mem.set σ5.next (.cells 1 (x.name.data.toList.map fun b => .int .u8 (b.toNat : Int)))).set (σ5.next + 1) (.cells 1 (x.key.data.toList.map fun b => .int .u8 (b.toNat : Int))), σ5.next + 1 + 1⟩ := ⟨_, rfl⟩
  have nS5 : S5.next = σ5.next + 2 := by rw [hS5]
  have kS5 : ∀ a, a < σ5.next → S5.mem.get a = σ5.mem.get a := fun a ha => by rw [hS5]; simp [show ¬ a = σ5.next by omega, show ¬ a = σ5.next + 1 by omega]
  have hb5 : ∀ y, b5 = some y → y < σ5.next ∧ S.next ≤ y := fun y hy => ⟨w5.lt hy, by
    rcases s5.own y hy with e | e
    · cases e
    · exact e⟩
  have gn : RdB S5 (.sl σ5.next 0 x.name.size x.name.size false) x.name.data.toList (some σ5.next) := RdB.ofGS (.inr ⟨σ5.next, false, rfl, by simp, by omega, by rw [hS5]; simp [rwsB, bytesV, ne7]⟩)
  have gk : RdB S5 (.sl (σ5.next + 1) 0 x.key.size x.key.size false) x.key.data.toList (some (σ5.next + 1)) := RdB.ofGS (.inr ⟨σ5.next + 1, false, rfl, by simp, by omega, by rw [hS5]; simp [rwsB, bytesV]⟩)
  have w5' : GS rwB S5 v5 LH b5 := w5.keep (by omega) fun a ha _ => kS5 a ha
  have s5' : BStp none b5 S S5 := ⟨by omega, s5.own, fun a ha hb => (kS5 a (by omega)).trans (s5.keep a ha hb)⟩
  have mS5 := (mm s5').trans mS
  have ln : x.name.data.toList.length = x.name.size := by simp
  have lk : x.key.data.toList.length = x.key.size := by simp
  rw [← hS5]
  refine rputb_r w5' gn (fun y hy hy2 => by cases hy; have := hb5 _ hy2; omega) (by omega) (by omega) _ fun v6 σ6 b6 g6 t6 => ?_
  have hb6 : ∀ y, b6 = some y → y < σ5.next ∧ S.next ≤ y ∨ S5.next ≤ y := fun y hy => by
    rcases t6.own y hy with e | e
    · exact .inl (hb5 y e)
    · exact .inr e
  have gk6 := gk.keep (σ' := σ6) t6.next fun a ha hc => t6.keep a ha fun e => by cases hc; have := hb5 _ e; omega
  have s6 := s5'.trans t6
  have m6 := (mm s6).trans mS
  simp [lk_cons, m6, c2, c3, q2]
  refine rputb_r g6 gk6 (fun y hy hy2 => by cases hy; rcases hb6 _ hy2 with e | e <;> omega) (by simp only [List.length_append, beN_len]; omega) (by omega) _ fun v7 σ7 b7 g7 t7 => ?_
  have s7 := s6.trans t7
  have m7 := (mm s7).trans mS
  simp [lk_cons, m7, c3]
  refine rputb_r g7 (RdB.ofI hd σ7) (by simp) (by simp only [List.length_append, beN_len]; omega) (by omega) _ fun v8 σ8 b8 g8 t8 => ?_
  have s8 := s7.trans t8
  have m8 := (mm s8).trans mS
  have wl : IntKind.u64.wrap (x.items.length : Int) = x.items.length := by rw [IntWalk.u64_in] <;> omega
  simp [lk_cons, m8, c4, ↓hilen, wl]
  refine rput_c g8 (n := x.items.length) (size := 2) (by decide) (by simp only [List.length_append, beN_len]; omega) (by omega) _ fun v9 σ9 b9 g9 t9 => ?_
  have s9 := s8.trans t9
  simp [lk_cons]
  have hall : LH ++ (beN 4 x.name.data.toList.length ++ x.name.data.toList) ++ (beN 4 x.key.data.toList.length ++ x.key.data.toList) ++ (beN 4 x.data.length ++ x.data) ++ beN 2 x.items.length = noteH x ++ numsB x.nums ++ noteM x := by
    rw [← hHM, noteM, Nat.mod_eq_of_lt (by omega), ln, lk]
    simp [byB, txB, List.append_assoc]
  rw [hall] at g9
  have hML : (noteH x ++ numsB x.nums ++ noteM x).length = 74 + x.name.size + x.key.size + x.data.length := by
    rw [hHM]
    simp only [List.length_append, noteM, txB_len, byB_len, beN_len, hnl]; omega
  revert g9 hML
  generalize hLM : noteH x ++ numsB x.nums ++ noteM x = LM
  intro g9 hML
  refine wp_loop (NiJ σ.next x.items LM S) x.items.length ?_ ?_
  · exact ⟨0, v9, b9, rfl, Nat.zero_le _, by simpa [itsB] using g9, s9, by simp [lk_cons]⟩
  rintro m rg σa ⟨i, va, ba, rfl, hia, ga, sa, rfl⟩
  have ma := (mm sa).trans mS
  by_cases hca : i < x.items.length
  · obtain ⟨y, hy⟩ : ∃ y, x.items[i]? = some y := ⟨_, List.getElem?_eq_getElem hca⟩
    obtain ⟨d, hyd, p, p0, p1, i1, i2, i3, i4, i5⟩ := hi.flds hy
    have hye := fw.each y (List.mem_of_getElem? hy)
    have w1 : IntKind.i64.wrap ((i : Int) + 1) = ((i + 1 : Nat) : Int) := by rw [IntWalk.i64_in] <;> omega
    have htk : x.items.take (i + 1) = x.items.take i ++ [y] := by rw [List.take_add_one, hy]; rfl
    have hil := itsB_len (l := x.items.take i) fun z hz => fw.each z (List.mem_of_mem_take hz)
    rw [List.length_take] at hil
    simp [lk_cons, ma, c4, ↓hilen, hca, ↓i1, ↓i2, ↓i3, ↓i4, ↓i5]
    refine rput_c ga (n := y.1) (size := 8) (by decide) (by rw [List.length_append]; omega) (he y (List.mem_of_getElem? hy)) _ fun vb σb bb gb tb => ?_
    have sb := sa.trans tb
    have mb := (mm sb).trans mS
    simp [lk_cons, mb, c4, ↓hilen, hca, ↓i1, ↓i2, ↓i3, ↓i4, ↓i5]
    refine rputb_r gb (RdB.ofI hyd σb) (by simp) (by simp only [List.length_append, beN_len]; omega) (by omega) _ fun vc σc bc gc tc => ?_
    simp [lk_cons, w1]
    refine ⟨x.items.length - (i + 1), by omega, i + 1, vc, bc, rfl, by omega, ?_, sb.trans tc, rfl⟩
    rw [htk, itsB_snoc]
    simpa [itB, byB, List.append_assoc] using gc
  have : i = x.items.length := by omega
  subst this
  rw [List.take_length] at ga
  have hil := itsB_len (l := x.items) fw.each
  rw [← hLM] at ga
  change GS rwB σa va (noteB x) ba at ga
  have hlen := ga.len
  have gr : Grow σ σa := gS.trans sa.grow0
  by_cases hcl : 4096 < (noteB x).length
  · have hcl' : (4096 : Int) < (noteB x).length := by omega
    simp [lk_cons, ma, c4, ↓hilen, ↓hlen, hcl, hcl']
    exact hL σa gr (by omega) hcl
  · have hcl' : ¬ (4096 : Int) < (noteB x).length := by omega
    simp [lk_cons, ma, c4, ↓hilen, ↓hlen, hcl, hcl']
    exact hQ va ba σa ga (fun z hz => by rcases sa.own z hz with e | e; (· cases e); omega) gr (by omega) (by omega)
end Go.Proofs.YticefdfhcahlfaaDoor.AM

/- Notes: a note's bytes as a plain parse; items in memory. -/
namespace Go.Proofs.YticefdfhcahlfaaDoor.AM
open Go.RowKit
set_option maxRecDepth 100000
set_option linter.unusedVariables false
set_option linter.unusedSimpArgs false

abbrev Prs (α : Type) := List UInt8 → Except Nat (α × List UInt8)
/-- Parses, one behind the other. -/
def pB {α β : Type} (p : Prs α) (f : α → Prs β) : Prs β := fun l => match p l with
  | .error e => .error e
  | .ok x => f x.1 x.2
theorem pB_err {α β : Type} {p : Prs α} {f : α → Prs β} {l : List UInt8} {e : Nat} (h : p l = .error e) : pB p f l = .error e := by simp only [pB, h]
theorem pB_ok {α β : Type} {p : Prs α} {f : α → Prs β} {l r : List UInt8} {x : α} (h : p l = .ok (x, r)) : pB p f l = f x r := by simp only [pB, h]
theorem pB_assoc {α β γ : Type} (p : Prs α) (f : α → Prs β) (g : β → Prs γ) : pB (pB p f) g = pB p fun x => pB (f x) g := by
  funext l
  simp only [pB]
  cases p l <;> rfl
def pR {α : Type} (x : α) : Prs α := fun l => .ok (x, l)
theorem pB_pR {α β : Type} (x : α) (f : α → Prs β) : pB (pR x) f = f x := rfl
theorem pB_inv {α β : Type} {p : Prs α} {f : α → Prs β} {l r : List UInt8} {y : β} (h : pB p f l = .ok (y, r)) : ∃ x m, p l = .ok (x, m) ∧ f x m = .ok (y, r) := by
  cases hp : p l with
  | error e => rw [pB_err hp] at h; cases h
  | ok x => exact ⟨x.1, x.2, rfl, by rw [pB_ok (r := x.2) (x := x.1) hp] at h; exact h⟩
theorem pB_inve {α β : Type} {p : Prs α} {f : α → Prs β} {l : List UInt8} {e : Nat} (h : pB p f l = .error e) : p l = .error e ∨ ∃ x m, p l = .ok (x, m) ∧ f x m = .error e := by
  cases hp : p l with
  | error e' => rw [pB_err hp] at h; cases h; exact .inl rfl
  | ok x => exact .inr ⟨x.1, x.2, rfl, by rw [pB_ok (r := x.2) (x := x.1) hp] at h; exact h⟩
def pFlag : Prs Bool := pB (pNum 1) fun n l => if 1 < n then .error 16 else .ok (decide (n = 1), l)
def pTx : Prs ByteArray := pB pText fun b => pR ⟨b.toArray⟩
def pMany {α : Type} (p : Prs α) : Nat → Prs (List α)
  | 0 => pR []
  | k + 1 => pB p fun x => pB (pMany p k) fun xs => pR (x :: xs)
theorem pMany_step {α β : Type} (p : Prs α) (k : Nat) (F : List α → Prs β) : pB (pMany p (k + 1)) F = pB p fun x => pB (pMany p k) fun xs => F (x :: xs) := by
  rw [pMany, pB_assoc]
  congr 1
  funext x
  rw [pB_assoc]
  rfl
def pItem : Prs (Nat × List UInt8) := pB (pNum 8) fun n => pB pBytes fun d => pR (n, d)
def pNote : Prs NoteV := pB (pNum 1) fun k => pB (pNum 1) fun t => pB pFlag fun y => pB (pNum 1) fun c => pB (pMany (pNum 8) 7) fun ns => pB pTx fun nm => pB pTx fun ky => pB pBytes fun d => pB (pNum 2) fun n => pB (pMany pItem n) fun is => pR ⟨k, t, y, (c : Int), ns, nm, ky, d, is⟩

theorem ne0 {α β : Type} {p : Prs α} {f : α → Prs β} (hp : ∀ l e, p l = .error e → e ≠ 0) (hf : ∀ x l e, f x l = .error e → e ≠ 0) (l : List UInt8) (e : Nat) (h : pB p f l = .error e) : e ≠ 0 := by
  rcases pB_inve h with h | ⟨x, m, _, h⟩
  · exact hp _ _ h
  · exact hf _ _ _ h
theorem pR_ne0 {α : Type} (x : α) (l : List UInt8) (e : Nat) (h : pR x l = .error e) : e ≠ 0 := by cases h
theorem pMany_ne0 {α : Type} {p : Prs α} (hp : ∀ l e, p l = .error e → e ≠ 0) : ∀ k l e, pMany p k l = .error e → e ≠ 0
  | 0, l, e, h => by cases h
  | k + 1, l, e, h => ne0 hp (fun x => ne0 (pMany_ne0 hp k) fun y => pR_ne0 _) l e h
theorem pItem_ne0 : ∀ l e, pItem l = .error e → e ≠ 0 := ne0 (fun l e => pNum_err) fun _ => ne0 (fun l e => pBytes_err) fun _ => pR_ne0 _
theorem pFlag_ne0 : ∀ l e, pFlag l = .error e → e ≠ 0 := ne0 (fun l e => pNum_err) fun n l e h => by
  split at h
  · cases h; decide
  · cases h
theorem pTx_ne0 : ∀ l e, pTx l = .error e → e ≠ 0 := ne0 (fun l e => pText_err) fun _ => pR_ne0 _
theorem pNote_err : ∀ {l : List UInt8} {e : Nat}, pNote l = .error e → e ≠ 0 := fun {l e} h =>
  ne0 (fun l e => pNum_err) (fun _ => ne0 (fun l e => pNum_err) fun _ => ne0 pFlag_ne0 fun _ => ne0 (fun l e => pNum_err) fun _ => ne0 (pMany_ne0 (fun l e => pNum_err) 7) fun _ => ne0 pTx_ne0 fun _ => ne0 pTx_ne0 fun _ => ne0 (fun l e => pBytes_err) fun _ => ne0 (fun l e => pNum_err) fun n => ne0 (pMany_ne0 pItem_ne0 n) fun _ => pR_ne0 _) l e h
/-- What is read and left is not more than there was. -/
theorem pMany_len {α : Type} {p : Prs α} (hp : ∀ l x r, p l = .ok (x, r) → r.length ≤ l.length) : ∀ k l x r, pMany p k l = .ok (x, r) → r.length ≤ l.length ∧ x.length = k
  | 0, l, x, r, h => by cases h; exact ⟨Nat.le_refl _, rfl⟩
  | k + 1, l, x, r, h => by
    obtain ⟨y, m, h1, h2⟩ := pB_inv h
    obtain ⟨ys, m2, h3, h4⟩ := pB_inv h2
    cases h4
    have := hp _ _ _ h1
    have := pMany_len hp k _ _ _ h3
    exact ⟨by omega, by rw [List.length_cons, this.2]⟩

/-! ### items in memory -/
abbrev IV := Nat × {v : AVal // v.one = true}
def rwI : Rw IV 2 := ⟨fun x => [u64 (x.1 : Int), x.2.1], fun _ => rfl, fun x => by simp [x.2.2]⟩
/-- Each of the items has its bytes; its block is kept, and isn't the items' own. -/
def Its (σ : St) (K : Nat → Prop) (b : Option Nat) (its : List IV) (xs : List (Nat × List UInt8)) : Prop := its.length = xs.length ∧ ∀ (i : Nat) (it : IV) (x : Nat × List UInt8), its[i]? = some it → xs[i]? = some x → it.1 = x.1 ∧ ∃ c, RdB σ it.2.1 x.2 c ∧ ∀ y, c = some y → K y ∧ b ≠ some y
theorem Its.nil (σ : St) (K : Nat → Prop) (b : Option Nat) : Its σ K b [] [] := ⟨rfl, fun i it x h => by simp at h⟩
theorem Its.snoc {σ : St} {K : Nat → Prop} {b : Option Nat} {its : List IV} {xs : List (Nat × List UInt8)} (h : Its σ K b its xs) {n : Nat} {v : AVal} {hv : v.one = true} {d : List UInt8} {c : Option Nat} (hd : RdB σ v d c) (hc : ∀ y, c = some y → K y ∧ b ≠ some y) : Its σ K b (its ++ [(n, ⟨v, hv⟩)]) (xs ++ [(n, d)]) := by
  refine ⟨by simp [h.1], fun i it x h1 h2 => ?_⟩
  by_cases hi : i < its.length
  · rw [List.getElem?_append_left hi] at h1
    rw [List.getElem?_append_left (by rw [← h.1]; exact hi)] at h2
    exact h.2 i it x h1 h2
  · rw [List.getElem?_append_right (by omega)] at h1
    rw [List.getElem?_append_right (by rw [← h.1]; omega), ← h.1] at h2
    cases hk : i - its.length with
    | zero =>
      rw [hk] at h1 h2
      simp at h1 h2
      subst h1; subst h2
      exact ⟨rfl, c, hd, hc⟩
    | succ k => rw [hk] at h1; simp at h1
theorem Its.keep {σ σ' : St} {K : Nat → Prop} {b b' : Option Nat} {its : List IV} {xs : List (Nat × List UInt8)} (h : Its σ K b its xs) (hn : σ.next ≤ σ'.next) (hm : ∀ a, a < σ.next → K a → b ≠ some a → σ'.mem.get a = σ.mem.get a) (hb : ∀ a, a < σ.next → b' = some a → b = some a) : Its σ' K b' its xs := by
  refine ⟨h.1, fun i it x h1 h2 => ?_⟩
  obtain ⟨e, c, hr, hc⟩ := h.2 i it x h1 h2
  exact ⟨e, c, hr.keep hn fun a ha hca => hm a ha (hc a hca).1 (hc a hca).2, fun y hy => ⟨(hc y hy).1, fun e => (hc y hy).2 (hb y (hr.lt hy) e)⟩⟩
/-- Items of an argument, or in memory. -/
def ItR (σ : St) (K : Nat → Prop) (v : AVal) (xs : List (Nat × List UInt8)) : Prop := ItemsOf v xs ∨ ∃ its b, GS rwI σ v its b ∧ (∀ y, b = some y → K y) ∧ Its σ K b its xs
theorem ItR.keep {σ σ' : St} {K : Nat → Prop} {v : AVal} {xs : List (Nat × List UInt8)} (h : ItR σ K v xs) (hn : σ.next ≤ σ'.next) (hm : ∀ a, a < σ.next → K a → σ'.mem.get a = σ.mem.get a) : ItR σ' K v xs := by
  rcases h with h | ⟨its, b, h1, h2, h3⟩
  · exact .inl h
  · exact .inr ⟨its, b, h1.keep hn fun a ha hb => hm a ha (h2 a hb), h2, h3.keep hn (fun a ha hk _ => hm a ha hk) fun _ _ e => e⟩
theorem ItR.mono {σ : St} {K K' : Nat → Prop} {v : AVal} {xs : List (Nat × List UInt8)} (h : ItR σ K v xs) (hk : ∀ a, K a → K' a) : ItR σ K' v xs := by
  rcases h with h | ⟨its, b, h1, h2, h3⟩
  · exact .inl h
  · exact .inr ⟨its, b, h1, fun y hy => hk _ (h2 y hy), h3.1, fun i it x a1 a2 => by
      obtain ⟨e, c, hr, hc⟩ := h3.2 i it x a1 a2
      exact ⟨e, c, hr, fun y hy => ⟨hk _ (hc y hy).1, (hc y hy).2⟩⟩⟩
theorem ItR.len {σ : St} {K : Nat → Prop} {v : AVal} {xs : List (Nat × List UInt8)} (h : ItR σ K v xs) (ρ : St) : evalV ρ (.len 1 v) = some (i64 xs.length, ρ) := by
  rcases h with h | ⟨its, b, h1, h2, h3⟩
  · exact h.len ρ
  · rw [← h3.1]; exact h1.len ρ
theorem ItR.one {σ : St} {K : Nat → Prop} {v : AVal} {xs : List (Nat × List UInt8)} (h : ItR σ K v xs) : v.one = true ∧ cellsOf v = [v] := by
  rcases h with h | ⟨its, b, h1, h2, h3⟩
  · exact h.one
  · exact h1.one
theorem ItR.flds {σ : St} {K : Nat → Prop} {v : AVal} {xs : List (Nat × List UInt8)} (h : ItR σ K v xs) {i : Nat} {x : Nat × List UInt8} (hx : xs[i]? = some x) : ∃ d c, RdB σ d x.2 c ∧ ∃ p p0 p1, (∀ ρ, evalV ρ (.idxAddr 2 v (.int .i64 (i : Int))) = some (p, ρ)) ∧ (∀ ρ, evalV ρ (.fieldAddr 0 p) = some (p0, ρ)) ∧ (∀ ρ, evalV ρ (.fieldAddr 1 p) = some (p1, ρ)) ∧ evalV σ (.ld1 p0) = some (u64 (x.1 : Int), σ) ∧ evalV σ (.ld1 p1) = some (d, σ) := by
  rcases h with h | ⟨its, b, h1, h2, h3⟩
  · obtain ⟨d, hd, p, p0, p1, e1, e2, e3, e4, e5⟩ := h.flds hx
    exact ⟨d, none, RdB.ofI hd σ, p, p0, p1, e1, e2, e3, e4 σ, e5 σ⟩
  · have hi : i < its.length := by rw [h3.1]; exact (List.getElem?_eq_some_iff.1 hx).1
    obtain ⟨it, hit⟩ : ∃ it, its[i]? = some it := ⟨_, List.getElem?_eq_getElem hi⟩
    obtain ⟨e, c, hr, _⟩ := h3.2 i it x hit hx
    obtain ⟨o, hb, ho, hm, hp⟩ := h1.idx hi
    have g0 := rws_get rwI hit (j := 0) (by decide)
    have g1 := rws_get rwI hit (j := 1) (by decide)
    refine ⟨it.2.1, c, hr, .ptr o (i * 2), .ptr o (i * 2), .ptr o (i * 2 + 1), hp, fun ρ => by simp, fun ρ => by simp, ?_, ?_⟩
    · have g0 : (rws rwI its)[i * 2]? = some (u64 (x.1 : Int)) := by rw [← e]; exact g0
      simp [hm, g0]
    · have g1 : (rws rwI its)[i * 2 + 1]? = some it.2.1 := g1
      simp [hm, g1]
def SaJ (x y : AVal) (xs ys : List (Nat × List UInt8)) (σ0 : St) (mm : Nat) (rg : Regs) (σ' : St) : Prop := ∃ i, mm = xs.length - i ∧ i ≤ xs.length ∧ xs.take i = ys.take i ∧ σ' = σ0 ∧ rg = [(0, x), (1, y), (5, i64 i)]
theorem samei_c {σ : St} {K K' : Nat → Prop} {x y : AVal} {xs ys : List (Nat × List UInt8)} (hx : ItR σ K x xs) (hy : ItR σ K' y ys) (hl : xs.length ≤ 1000000) (Q : AVal → St → Prop) (h : Q (.bool (decide (xs = ys))) σ) : ACall Tryd.prog 57 [x, y] σ Q := by
  refine ACall.of_compF hmx (fun a w => Tryd.call57 a w) Tryd.func57 cf57 (n := 2) (by decide) rfl ?_
  have l1 := hx.len
  have l2 := hy.len
  simp [ac57, rs57, lk_cons, ↓l1, ↓l2]
  by_cases hlen : xs.length = ys.length
  · have hlen' : (xs.length : Int) = ys.length := by omega
    simp [lk_cons, hlen, hlen']
    refine wp_loop (SaJ x y xs ys σ) xs.length ?_ ?_
    · exact ⟨0, rfl, by omega, rfl, rfl, rfl⟩
    · rintro m r σ' ⟨i, rfl, hi, hp, rfl, rfl⟩
      by_cases hlt : i < xs.length
      · have hlt2 : i < ys.length := by omega
        obtain ⟨p, hpx⟩ : ∃ p, xs[i]? = some p := ⟨_, List.getElem?_eq_getElem hlt⟩
        obtain ⟨q, hqy⟩ : ∃ q, ys[i]? = some q := ⟨_, List.getElem?_eq_getElem hlt2⟩
        obtain ⟨k, hk⟩ : ∃ k, i + 1 = k := ⟨_, rfl⟩
        have hw : IntKind.i64.wrap ((i : Int) + 1) = (k : Int) := by rw [IntWalk.i64_in] <;> omega
        obtain ⟨a, ca, ha, p1, p2, p3, a1, a2, a3, a4, a5⟩ := hx.flds hpx
        obtain ⟨b, cb, hb, q1, q2, q3, b1, b2, b3, b4, b5⟩ := hy.flds hqy
        have s1 := ha.str
        have s2 := hb.str
        have notEq : p ≠ q → ¬ xs = ys := by
          intro hne he
          subst he
          rw [hpx] at hqy; cases hqy; exact hne rfl
        by_cases hn : p.1 = q.1
        · have hn' : (p.1 : Int) = (q.1 : Int) := by omega
          by_cases hl2 : p.2 = q.2
          · have hpq : p = q := by cases p; cases q; simp_all
            simp [lk_cons, ↓l1, hlt, hlt2, ↓a1, ↓a2, ↓a3, ↓a4, ↓a5, ↓b1, ↓b2, ↓b3, ↓b4, ↓b5, ↓s1, ↓s2, hn, hl2, str_ne, hw]
            exact ⟨xs.length - k, by omega, k, rfl, by omega, by rw [← hk, List.take_add_one, List.take_add_one, hp, hpx, hqy, hpq], rfl, rfl⟩
          · have := notEq (fun e => hl2 (by rw [e]))
            simp [this] at h
            simp [lk_cons, ↓l1, hlt, hlt2, ↓a1, ↓a2, ↓a3, ↓a4, ↓a5, ↓b1, ↓b2, ↓b3, ↓b4, ↓b5, ↓s1, ↓s2, hn, hl2, str_ne]
            exact h
        · have := notEq (fun e => hn (by rw [e]))
          simp [this] at h
          have hn' : ¬ (p.1 : Int) = (q.1 : Int) := by omega
          simp [lk_cons, ↓l1, hlt, hlt2, ↓a1, ↓a2, ↓a3, ↓a4, ↓a5, ↓b1, ↓b2, ↓b3, ↓b4, ↓b5, ↓s1, ↓s2, hn, hn', str_ne]
          exact h
      · have : i = xs.length := by omega
        subst this
        have : xs = ys := by rwa [List.take_length, hlen, List.take_length] at hp
        simp [this] at h
        simp [lk_cons, ↓l1]
        exact h
  · have hlen' : ¬ (xs.length : Int) = ys.length := by omega
    have : ¬ xs = ys := fun e => hlen (by rw [e])
    simp [this] at h
    simp [lk_cons, hlen, hlen']
    exact h
end Go.Proofs.YticefdfhcahlfaaDoor.AM

/- Notes: Hear. -/
namespace Go.Proofs.YticefdfhcahlfaaDoor.AM
open Go.RowKit
set_option maxRecDepth 100000
set_option linter.unusedVariables false
set_option linter.unusedSimpArgs false

def pN5 (k t : Nat) (y : Bool) (c : Nat) (ns : List Nat) (nm ky : ByteArray) : Prs NoteV := pB pBytes fun d => pB (pNum 2) fun n => pB (pMany pItem n) fun is => pR ⟨k, t, y, (c : Int), ns, nm, ky, d, is⟩
def pN4 (k t : Nat) (y : Bool) (c : Nat) (ns : List Nat) : Prs NoteV := pB pTx fun nm => pB pTx fun ky => pN5 k t y c ns nm ky
def pN3 (k t : Nat) (y : Bool) (c : Nat) : Prs NoteV := pB (pMany (pNum 8) 7) fun ns => pN4 k t y c ns
def pN2 (k t : Nat) : Prs NoteV := pB pFlag fun y => pB (pNum 1) fun c => pN3 k t y c
theorem pNote_eq : pNote = pB (pNum 1) fun k => pB (pNum 1) fun t => pN2 k t := rfl

section
variable {T : AVal → St → Prop} {σ : St} {r : Nat} {l : List UInt8} {c : Option Nat} {Q : AVal → St → Prop}
theorem ru16_c (h : RR σ r l c) (hl : l.length < 4611686018427387904) (hT : ∀ e, pNum 2 l = .error e → T (thrownV (e : Int)) σ)
    (hQ : ∀ x l' σ', pNum 2 l = .ok (x, l') → RR σ' r l' c → RStp r σ σ' → Q (.int .u16 (x : Int)) σ') : ACall (Env.th Tryd.prog T) 52 [.ptr r 0] σ Q := by
  refine ACall.of_compF hmx (fun a w => Tryd.call52 a w) Tryd.func52 cf52 (n := 1) (by decide) rfl ?_
  simp [ac52, rs52, lk_cons]
  refine rnum_c h hl (n := 2) (by decide) hT fun x l' σ' h1 h2 h3 => ?_
  have hx := (pNum_len h1).2
  have w1 : IntKind.u16.wrap (x : Int) = x := by rw [IntWalk.u16_in] <;> omega
  simp [lk_cons, w1]
  exact hQ x l' σ' h1 h2 h3
theorem ryes_c (h : RR σ r l c) (hl : l.length < 4611686018427387904) (hT : ∀ e σ', pFlag l = .error e → RStp r σ σ' → T (thrownV (e : Int)) σ')
    (hQ : ∀ x l' σ', pFlag l = .ok (x, l') → RR σ' r l' c → RStp r σ σ' → l'.length ≤ l.length → Q (.bool x) σ') : ACall (Env.th Tryd.prog T) 49 [.ptr r 0] σ Q := by
  refine ACall.of_compF hmx (fun a w => Tryd.call49 a w) Tryd.func49 cf49 (n := 1) (by decide) rfl ?_
  simp [ac49, rs49, lk_cons]
  refine ru8_c h hl (fun e he => hT e σ (pB_err he) (RStp.refl _ _)) fun x l' σ' h1 h2 h3 => ?_
  have hx := (pNum_len h1).2
  have hlen := (pNum_len h1).1
  by_cases hc : 1 < x
  · have hc' : (1 : Int) < x := by omega
    simp [lk_cons, hc, hc']
    refine fail_c (fun _ => hT 16 σ' (by rw [pFlag, pB_ok h1]; simp [hc]) h3) fun e => by cases e
  · have hc' : ¬ (1 : Int) < x := by omega
    have hd : decide ((x : Int) = 1) = decide (x = 1) := decide_eq_decide.2 (by omega)
    simp [lk_cons, hc, hc']
    have := hQ (decide (x = 1)) l' σ' (by rw [pFlag, pB_ok h1]; simp [hc]) h2 h3 (by omega)
    simpa [hd] using this
end
theorem RStp.c {r tc : Nat} {σ σ' : St} (h : RStp r σ σ') : RStpC r tc σ σ' := ⟨h.next, fun a ha h1 _ => h.keep a ha h1⟩
theorem RStpC.trans {r tc : Nat} {a b d : St} (h : RStpC r tc a b) (k : RStpC r tc b d) : RStpC r tc a d := ⟨Nat.le_trans h.next k.next, fun x hx h1 h2 => (k.keep x (Nat.lt_of_lt_of_le hx h.next) h1 h2).trans (h.keep x hx h1 h2)⟩
theorem Grow.rstpc {r tc : Nat} {σ σ' : St} (h : Grow σ σ') : RStpC r tc σ σ' := ⟨h.1, fun a ha _ _ => h.2 a ha⟩
/-- tc alone is written. -/
theorem RStpC.st {r tc : Nat} {σ : St} {b : Blk} : RStpC r tc σ ⟨σ.mem.set tc b, σ.next⟩ := ⟨Nat.le_refl _, fun a _ _ h => by simp [h]⟩

def zN7 : List Nat := [0, 0, 0, 0, 0, 0, 0]
/-- What has been heard into the cell so far. -/
def HcN (tc : Nat) (σ : St) (k t : Nat) (y : Bool) (cd : Nat) (ns : List Nat) (nm ky : ByteArray) (dv iv : AVal) : Prop := σ.mem.get tc = some (.cells 15 (noteC ⟨k, t, y, cd, ns, nm, ky, [], []⟩ dv iv))
def HaJ (res : Except Nat (NoteV × List UInt8)) (r tc o : Nat) (c : Option Nat) (σ0 : St) (mm : Nat) (rg : Regs) (σ' : St) : Prop := ∃ (i : Nat) (l : List UInt8) (k t : Nat), mm = 2 - i ∧ i ≤ 2 ∧ RR σ' r l c ∧ l.length ≤ 1000000 ∧ RStpC r tc σ0 σ' ∧ HcN tc σ' k t false 0 zN7 ⟨#[]⟩ ⟨#[]⟩ .nilsl .nilsl ∧ (o < σ'.next ∧ σ'.mem.get o = some (.cells 1 [.ptr tc 0, .ptr tc 1])) ∧ (i = 0 ∧ res = pNote l ∨ i = 1 ∧ res = pB (pNum 1) (fun t => pN2 k t) l ∨ i = 2 ∧ res = pN2 k t l) ∧ rg = [(0, .ptr r 0), (1, .ptr tc 0), (3, .fn 47 [.ptr r 0] []), (14, .sl o 0 2 2 true), (15, i64 2), (16, i64 i)]
def HnJ (res : Except Nat (NoteV × List UInt8)) (r tc o : Nat) (c : Option Nat) (k t : Nat) (y : Bool) (cd : Nat) (σ0 : St) (mm : Nat) (rg : Regs) (σ' : St) : Prop := ∃ (i : Nat) (l : List UInt8) (xs : List Nat), mm = 7 - i ∧ i ≤ 7 ∧ xs.length = i ∧ RR σ' r l c ∧ l.length ≤ 1000000 ∧ RStpC r tc σ0 σ' ∧ HcN tc σ' k t y cd (xs ++ List.replicate (7 - i) 0) ⟨#[]⟩ ⟨#[]⟩ .nilsl .nilsl ∧ (o < σ'.next ∧ σ'.mem.get o = some (.cells 1 ([4, 5, 6, 7, 8, 9, 10].map fun i => AVal.ptr tc i))) ∧ res = pB (pMany (pNum 8) (7 - i)) (fun ns => pN4 k t y cd (xs ++ ns)) l ∧ rg = [(0, .ptr r 0), (1, .ptr tc 0), (3, .fn 47 [.ptr r 0] []), (32, .sl o 0 7 7 true), (33, i64 7), (34, i64 i)]
def HtJ (res : Except Nat (NoteV × List UInt8)) (r tc o : Nat) (c : Option Nat) (k t : Nat) (y : Bool) (cd : Nat) (ns : List Nat) (σ0 : St) (mm : Nat) (rg : Regs) (σ' : St) : Prop := ∃ (i : Nat) (l : List UInt8) (nm ky : ByteArray), mm = 2 - i ∧ i ≤ 2 ∧ RR σ' r l c ∧ l.length ≤ 1000000 ∧ RStpC r tc σ0 σ' ∧ HcN tc σ' k t y cd ns nm ky .nilsl .nilsl ∧ (o < σ'.next ∧ σ'.mem.get o = some (.cells 1 [.ptr tc 11, .ptr tc 12])) ∧ (i = 0 ∧ res = pN4 k t y cd ns l ∧ ky = ⟨#[]⟩ ∨ i = 1 ∧ res = pB pTx (fun ky => pN5 k t y cd ns nm ky) l ∨ i = 2 ∧ res = pN5 k t y cd ns nm ky l) ∧ rg = [(0, .ptr r 0), (1, .ptr tc 0), (3, .fn 47 [.ptr r 0] []), (45, .sl o 0 2 2 true), (46, i64 2), (47, i64 i)]
def HiJ (res : Except Nat (NoteV × List UInt8)) (r tc : Nat) (c : Option Nat) (k t : Nat) (y : Bool) (cd : Nat) (ns : List Nat) (nm ky : ByteArray) (dv : AVal) (d : List UInt8) (bd : Option Nat) (N : Nat) (σ0 S : St) (mm : Nat) (rg : Regs) (σ' : St) : Prop := ∃ (i : Nat) (l : List UInt8) (iv : AVal) (its : List IV) (b : Option Nat) (xs : List (Nat × List UInt8)), mm = N - i ∧ i ≤ N ∧ xs.length = i ∧ RR σ' r l c ∧ l.length ≤ 1000000 ∧ RStpC r tc S σ' ∧ HcN tc σ' k t y cd ns nm ky dv iv ∧ GS rwI σ' iv its b ∧ Its σ' (fun a => σ0.next ≤ a) b its xs ∧ (∀ z, b = some z → S.next ≤ z) ∧ res = pB (pMany pItem (N - i)) (fun is => pR ⟨k, t, y, (cd : Int), ns, nm, ky, d, xs ++ is⟩) l ∧ rg = [(0, .ptr r 0), (1, .ptr tc 0), (3, .fn 47 [.ptr r 0] []), (60, .int .u16 N), (61, .int .u16 i)]
/-- A note in a cell. -/
def NoteM (tc : Nat) (x : NoteV) (σ σ' : St) : Prop := ∃ dv iv bd, σ'.mem.get tc = some (.cells 15 (noteC x dv iv)) ∧ GS rwB σ' dv x.data bd ∧ (∀ y, bd = some y → σ.next ≤ y) ∧ ItR σ' (fun a => σ.next ≤ a) iv x.items
theorem noteC_num {x : NoteV} {dv iv : AVal} {i n : Nat} (hi : i < x.nums.length) : (noteC x dv iv).set (4 + i) (u64 (n : Int)) = noteC { x with nums := x.nums.set i n } dv iv := by
  unfold noteC
  rw [List.set_append, if_pos (by simp; omega), List.set_append, if_neg (by simp)]
  congr 2
  rw [List.map_set]
  simp
theorem zip_set {xs : List Nat} {i n k : Nat} (h : xs.length = i) : (xs ++ List.replicate (k + 1) 0).set i n = (xs ++ [n]) ++ List.replicate k 0 := by
  rw [List.set_append, if_neg (by omega), h, Nat.sub_self, List.replicate_succ, List.set_cons_zero]
  simp

theorem noteC_len {x : NoteV} {dv iv : AVal} (h : x.nums.length = 7) : (noteC x dv iv).length = 15 := by simp [noteC, h]
theorem noteC_tail {x : NoteV} {dv iv : AVal} (h : x.nums.length = 7) : (∀ s : ByteArray, (noteC x dv iv).set 11 (.str s) = noteC { x with name := s } dv iv) ∧ (∀ s : ByteArray, (noteC x dv iv).set 12 (.str s) = noteC { x with key := s } dv iv) ∧ (∀ v, (noteC x dv iv).set 13 v = noteC x v iv) ∧ (∀ v, (noteC x dv iv).set 14 v = noteC x dv v) ∧ (noteC x dv iv)[14]? = some iv := by
  obtain ⟨a, b, c, d, e, f, g, hn⟩ : ∃ a b c d e f g, x.nums = [a, b, c, d, e, f, g] := by
    match h2 : x.nums, h with
    | [a, b, c, d, e, f, g], _ => exact ⟨a, b, c, d, e, f, g, rfl⟩
  unfold noteC
  rw [hn]
  exact ⟨fun _ => rfl, fun _ => rfl, fun _ => rfl, fun _ => rfl, rfl⟩
set_option maxHeartbeats 4000000 in
theorem hearc_c {T : AVal → St → Prop} {σ : St} {r tc : Nat} {l : List UInt8} {c : Option Nat} {K : AVal → St → Prop} (h : RR σ r l c) (hl : l.length ≤ 1000000) (htc : σ.mem.get tc = some (.cells 15 noteCs)) (htl : tc < σ.next) (hrt : tc ≠ r) (hct : c ≠ some tc)
    (hT : ∀ e σ', pNote l = .error e → RStpC r tc σ σ' → T (thrownV (e : Int)) σ')
    (hK : ∀ x l' σ', pNote l = .ok (x, l') → RR σ' r l' c → NoteM tc x σ σ' → RStpC r tc σ σ' → K (.tup []) σ') : ACall (Env.th Tryd.prog T) 46 [.ptr r 0, .ptr tc 0] σ K := by
  refine ACall.of_compF hmx (fun a w => Tryd.call46 a w) Tryd.func46 cf46 (n := 2) (by decide) rfl ?_
  obtain ⟨v, q1, q2, q3, q4⟩ := id h
  have hto : ¬ tc = σ.next := by omega
  have hto' : ¬ σ.next = tc := by omega
  have kR : ∀ {σ' : St} {l' : List UInt8} (B : Blk), RR σ' r l' c → RR ⟨σ'.mem.set tc B, σ'.next⟩ r l' c := fun B hr => hr.keep (Nat.le_refl _) fun a ha hac => by
    have : a ≠ tc := by
      rcases hac with rfl | hac
      · exact Ne.symm hrt
      · exact fun e => hct (by rw [hac, e])
    simp [this]
  simp [ac46, rs46, lk_cons, fillL, storeL, repL]
  refine wp_loop (HaJ (pNote l) r tc σ.next c σ) 2 ?_ ?_
  · exact ⟨0, l, 0, 0, rfl, by omega, h.keep (by simp) fun a ha _ => by simp [show ¬ a = σ.next by omega], hl, ⟨by simp, fun a ha _ _ => by simp [show ¬ a = σ.next by omega]⟩, by unfold HcN; simp only [Mem.get_set, if_neg hto]; exact htc, ⟨by simp, by simp⟩, .inl ⟨rfl, rfl⟩, by simp [lk_cons]⟩
  rintro mm rg σ1 ⟨i, l1, k, t, rfl, hi, h1, hl1, s1, hc1, ⟨hol, ho⟩, hr1, rfl⟩
  have tl1 : tc < σ1.next := Nat.lt_of_lt_of_le htl s1.next
  unfold HcN at hc1
  obtain ⟨cs, hcs⟩ : ∃ cs, noteC ⟨k, t, false, ((0 : Nat) : Int), zN7, ⟨#[]⟩, ⟨#[]⟩, [], []⟩ .nilsl .nilsl = cs := ⟨_, rfl⟩
  have csl : cs.length = 15 := by rw [← hcs]; rfl
  rw [hcs] at hc1
  have q5 : σ.next ≠ r := by omega
  rcases hr1 with ⟨rfl, hr1⟩ | ⟨rfl, hr1⟩ | ⟨rfl, hr1⟩
  · simp [lk_cons, ho]
    refine ru8_c h1 (by omega) (fun e he => hT e σ1 (by rw [hr1, pNote_eq]; exact pB_err he) s1) fun x l' σ2 p1 p2 p3 => ?_
    have hz2 := (p3.keep tc tl1 hrt).trans hc1
    have ho2 := (p3.keep σ.next hol q5).trans ho
    have hlen := (pNum_len p1).1
    have n3 := p3.next
    simp [lk_cons, hz2, storeL, csl]
    refine ⟨1, by omega, 1, l', x, t, rfl, by omega, kR _ p2, by omega, s1.trans (p3.c.trans RStpC.st), by unfold HcN; simp [← hcs]; rfl, ⟨by show σ.next < σ2.next; omega, by simp [hto']; exact ho2⟩, .inr (.inl ⟨rfl, by rw [hr1, pNote_eq]; exact pB_ok p1⟩), by simp [show IntKind.i64.wrap 1 = 1 from rfl]⟩
  · simp [lk_cons, ho]
    refine ru8_c h1 (by omega) (fun e he => hT e σ1 (by rw [hr1]; exact pB_err he) s1) fun x l' σ2 p1 p2 p3 => ?_
    have hz2 := (p3.keep tc tl1 hrt).trans hc1
    have ho2 := (p3.keep σ.next hol q5).trans ho
    have hlen := (pNum_len p1).1
    have n3 := p3.next
    simp [lk_cons, hz2, storeL, csl]
    refine ⟨2, l', k, x, rfl, by omega, kR _ p2, by omega, s1.trans (p3.c.trans RStpC.st), by unfold HcN; simp [← hcs]; rfl, ⟨by show σ.next < σ2.next; omega, by simp [hto']; exact ho2⟩, .inr (.inr ⟨rfl, by rw [hr1]; exact pB_ok p1⟩), by simp [show IntKind.i64.wrap 2 = 2 from rfl]⟩
  simp [lk_cons, ho]
  refine ryes_c h1 (by omega) (fun e σ' he hs => hT e σ' (by rw [hr1]; exact pB_err he) (s1.trans hs.c)) fun y l2 σ2 p1 p2 p3 p4 => ?_
  have s2 := s1.trans p3.c
  have c2 := (p3.keep tc tl1 hrt).trans hc1
  have n2 := p3.next
  simp [lk_cons]
  refine ru8_c p2 (by omega) (fun e he => hT e σ2 (by rw [hr1, pN2, pB_ok p1]; exact pB_err he) s2) fun cd l3 σ3 p5 p6 p7 => ?_
  have s3 := s2.trans p7.c
  have c3 := (p7.keep tc (by omega) hrt).trans c2
  have n3 := p7.next
  have hr3 : pNote l = pN3 k t y cd l3 := by rw [hr1, pN2, pB_ok p1, pB_ok p5]
  have hl3 := (pNum_len p5).1
  have hcd := (pNum_len p5).2
  have w1 : IntKind.i64.wrap (cd : Int) = cd := by rw [IntWalk.i64_in] <;> omega
  simp [lk_cons, c3, storeL, csl, w1]
  obtain ⟨S, hS⟩ : ∃ S : St, S = ⟨(σ3.mem.set tc (.cells 15 (cs.set 2 (.bool y)))).set tc (.cells 15 ((cs.set 2 (.bool y)).set 3 (.int .i64 (cd : Int)))), σ3.next⟩ := ⟨_, rfl⟩
  have nS : S.next = σ3.next := by rw [hS]
  have hS' := hS
  have cS : HcN tc S k t y cd zN7 ⟨#[]⟩ ⟨#[]⟩ .nilsl .nilsl := by rw [hS]; unfold HcN; simp [← hcs]; rfl
  have rS : RR S r l3 c := by rw [hS]; exact kR (σ' := ⟨_, σ3.next⟩) _ (kR (.cells 15 (cs.set 2 (.bool y))) p6)
  have sS : RStpC r tc σ S := by rw [hS]; exact (s3.trans RStpC.st).trans (RStpC.st (σ := ⟨_, σ3.next⟩))
  rw [← hS]
  refine ACall.into (numbers_c _ ?_)
  simp [lk_cons]
  have hSr : r < S.next := by obtain ⟨_, _, _, _, h⟩ := rS; exact h
  have hcS : ∀ a, c = some a → a < S.next := fun a ha => by obtain ⟨_, _, h, _, _⟩ := rS; exact h.lt ha
  have tSn : tc < S.next := by omega
  have e1 : ¬ tc = S.next := by omega
  refine wp_loop (HnJ (pNote l) r tc S.next c k t y cd σ) 7 ?_ ?_
  · exact ⟨0, l3, [], rfl, by omega, rfl, rS.keep (by simp) fun a ha _ => by simp [show ¬ a = S.next by omega], by omega, sS.trans ⟨by simp, fun a ha _ _ => by simp [show ¬ a = S.next by omega]⟩, by unfold HcN at cS ⊢; simp only [Mem.get_set, if_neg e1]; exact cS, ⟨by simp, by simp⟩, hr3, by simp [lk_cons]⟩
  clear w1
  rintro mm rg σ4 ⟨i, l4, xs, rfl, hi, hxs, h4, hl4, s4, hc4, ⟨hol4, ho4⟩, hr4, rfl⟩
  have tl4 : tc < σ4.next := Nat.lt_of_lt_of_le htl s4.next
  by_cases hi7 : i < 7
  · have hi7' : (i : Int) < 7 := by omega
    have w1 : IntKind.i64.wrap ((i : Int) + 1) = ((i + 1 : Nat) : Int) := by rw [IntWalk.i64_in] <;> omega
    obtain ⟨j, hj⟩ : ∃ j, 7 - i = j + 1 := ⟨6 - i, by omega⟩
    have hp : ([4, 5, 6, 7, 8, 9, 10].map fun i => AVal.ptr tc i)[i]? = some (.ptr tc (4 + i)) := by
      rcases (by omega : i = 0 ∨ i = 1 ∨ i = 2 ∨ i = 3 ∨ i = 4 ∨ i = 5 ∨ i = 6) with rfl | rfl | rfl | rfl | rfl | rfl | rfl <;> rfl
    have ho40 := ho4
    revert ho4
    generalize ([4, 5, 6, 7, 8, 9, 10].map fun i => AVal.ptr tc i) = ptrs at hp
    intro ho4
    rw [hj, pMany_step] at hr4
    simp [lk_cons, hi7, hi7', ho4, hp]
    refine ACall.of_compF hmx (fun a w => Tryd.call47 a w) Tryd.func47 cf47 (n := 1) (by decide) rfl ?_
    simp [ac47, rs47, lk_cons]
    refine rnum_c h4 (by omega) (n := 8) (by decide) (fun e he => hT e σ4 (by rw [hr4]; exact pB_err he) s4) fun n l5 σ5 p8 p9 p10 => ?_
    have c5 := (p10.keep tc tl4 hrt).trans hc4
    have ho5 := (p10.keep S.next hol4 (by omega)).trans ho40
    have hlen := (pNum_len p8).1
    have n5 := p10.next
    rw [hj] at c5
    obtain ⟨ds, hds⟩ : ∃ ds, noteC ⟨k, t, y, (cd : Int), xs ++ List.replicate (j + 1) 0, ⟨#[]⟩, ⟨#[]⟩, [], []⟩ .nilsl .nilsl = ds := ⟨_, rfl⟩
    have dsl : ds.length = 15 := by rw [← hds]; exact noteC_len (by simp; omega)
    rw [hds] at c5
    have hb : 4 + i + 1 ≤ 15 := by omega
    have hb' : 4 + i < 15 := by omega
    simp [lk_cons, c5, storeL, dsl, hb, hb', w1]
    refine ⟨7 - (i + 1), by omega, i + 1, l5, xs ++ [n], rfl, by omega, by simp [hxs], kR _ p9, by omega, s4.trans (p10.c.trans RStpC.st), ?_, ⟨by show S.next < σ5.next; omega, by simp [show ¬ S.next = tc by omega]; exact ho5⟩, ?_, rfl⟩
    · unfold HcN
      have := noteC_num (x := ⟨k, t, y, (cd : Int), xs ++ List.replicate (j + 1) 0, ⟨#[]⟩, ⟨#[]⟩, [], []⟩) (dv := .nilsl) (iv := .nilsl) (i := i) (n := n) (by simp; omega)
      rw [hds] at this
      simp only [Mem.get_set, if_true, this, zip_set hxs, show 7 - (i + 1) = j by omega]
    · rw [hr4, pB_ok p8, show 7 - (i + 1) = j by omega]
      simp
  have : i = 7 := by omega
  subst this
  simp only [Nat.sub_self, List.replicate_zero, List.append_nil] at hc4 hr4
  have hr4 : pNote l = pN4 k t y cd xs l4 := by rw [hr4, pMany]; exact congrFun (congrArg (pN4 k t y cd) (List.append_nil xs)) l4
  simp [lk_cons, fillL, repL, storeL]
  obtain ⟨S4, hS4⟩ : ∃ S4 : St, S4 = ⟨σ4.mem.set σ4.next (.cells 1 [.ptr tc 11, .ptr tc 12]), σ4.next + 1⟩ := ⟨_, rfl⟩
  have nS4 : S4.next = σ4.next + 1 := by rw [hS4]
  have kS4 : ∀ a, a < σ4.next → S4.mem.get a = σ4.mem.get a := fun a ha => by rw [hS4]; simp [show ¬ a = σ4.next by omega]
  have mS4 : S4.mem.get σ4.next = some (.cells 1 [.ptr tc 11, .ptr tc 12]) := by rw [hS4]; simp
  have g4 : Grow σ4 S4 := ⟨by omega, kS4⟩
  rw [← hS4]
  have hr4n : r < σ4.next := by obtain ⟨_, _, _, _, h⟩ := h4; exact h
  have e4 : ¬ σ4.next = tc := by omega
  have hnlen : (NoteV.mk k t y (cd : Int) xs ⟨#[]⟩ ⟨#[]⟩ [] []).nums.length = 7 := hxs
  refine wp_loop (HtJ (pNote l) r tc σ4.next c k t y cd xs σ) 2 ?_ ?_
  · exact ⟨0, l4, ⟨#[]⟩, ⟨#[]⟩, rfl, by omega, h4.grow g4, hl4, s4.trans g4.rstpc, (kS4 tc tl4).trans hc4, ⟨by omega, mS4⟩, .inl ⟨rfl, hr4, rfl⟩, by simp [lk_cons]⟩
  rintro mm rg σ5 ⟨i, l5, nm, ky, rfl, hi5, h5, hl5, s5, hc5, ⟨hol5, ho5⟩, hr5, rfl⟩
  have tl5 : tc < σ5.next := Nat.lt_of_lt_of_le htl s5.next
  unfold HcN at hc5
  obtain ⟨ds, hds⟩ : ∃ ds, noteC ⟨k, t, y, (cd : Int), xs, nm, ky, [], []⟩ .nilsl .nilsl = ds := ⟨_, rfl⟩
  have dsl : ds.length = 15 := by rw [← hds]; exact noteC_len hxs
  obtain ⟨z1, z2, z3, z4, z5⟩ := noteC_tail (x := ⟨k, t, y, (cd : Int), xs, nm, ky, [], []⟩) (dv := .nilsl) (iv := .nilsl) hxs
  rw [hds] at hc5 z1 z2 z3 z4 z5
  rcases hr5 with ⟨rfl, hr5, rfl⟩ | ⟨rfl, hr5⟩ | ⟨rfl, hr5⟩
  · simp [lk_cons, ho5]
    refine rtext_c h5 (by omega) (fun e σ' he hs => hT e σ' (by rw [hr5, pN4]; exact pB_err (by rw [pTx]; exact pB_err he)) (s5.trans hs.c)) fun x l' σ6 p1 p2 p3 => ?_
    have hz2 := (p3.keep tc tl5 hrt).trans hc5
    have ho2 := (p3.keep σ4.next hol5 (by omega)).trans ho5
    have hlen := (pText_len p1).1
    have n3 := p3.next
    simp [lk_cons, hz2, storeL, dsl]
    refine ⟨1, by omega, 1, l', ⟨x.toArray⟩, ⟨#[]⟩, rfl, by omega, kR _ p2, by omega, s5.trans (p3.c.trans RStpC.st), by unfold HcN; simp [z1], ⟨by show σ4.next < σ6.next; omega, by simp [e4]; exact ho2⟩, .inr (.inl ⟨rfl, by rw [hr5, pN4]; exact pB_ok (by rw [pTx, pB_ok p1]; rfl)⟩), by simp [show IntKind.i64.wrap 1 = 1 from rfl]⟩
  · simp [lk_cons, ho5]
    refine rtext_c h5 (by omega) (fun e σ' he hs => hT e σ' (by rw [hr5]; exact pB_err (by rw [pTx]; exact pB_err he)) (s5.trans hs.c)) fun x l' σ6 p1 p2 p3 => ?_
    have hz2 := (p3.keep tc tl5 hrt).trans hc5
    have ho2 := (p3.keep σ4.next hol5 (by omega)).trans ho5
    have hlen := (pText_len p1).1
    have n3 := p3.next
    simp [lk_cons, hz2, storeL, dsl]
    refine ⟨2, l', nm, ⟨x.toArray⟩, rfl, by omega, kR _ p2, by omega, s5.trans (p3.c.trans RStpC.st), by unfold HcN; simp [z2], ⟨by show σ4.next < σ6.next; omega, by simp [e4]; exact ho2⟩, .inr (.inr ⟨rfl, by rw [hr5]; exact pB_ok (by rw [pTx, pB_ok p1]; rfl)⟩), by simp [show IntKind.i64.wrap 2 = 2 from rfl]⟩
  simp [lk_cons, ho5]
  refine rbytes_b h5 (by omega) (fun e σ' he hs => hT e σ' (by rw [hr5, pN5]; exact pB_err he) (s5.trans hs.c)) fun d l6 dv bd σ6 p1 p2 p3 p4 p5 => ?_
  have c6 := (p5.keep tc tl5 hrt).trans hc5
  have n6 := p5.next
  have hlen6 := (pBytes_len p1).1
  have hdone := p3.one
  simp [lk_cons, c6, storeL, dsl, hdone]
  obtain ⟨S6, hS6⟩ : ∃ S6 : St, S6 = ⟨σ6.mem.set tc (.cells 15 (ds.set 13 dv)), σ6.next⟩ := ⟨_, rfl⟩
  have nS6 : S6.next = σ6.next := by rw [hS6]
  have rS6 : RR S6 r l6 c := by rw [hS6]; exact kR _ p2
  have sS6 : RStpC r tc σ S6 := by rw [hS6]; exact s5.trans (p5.c.trans RStpC.st)
  have cS6 : HcN tc S6 k t y cd xs nm ky dv .nilsl := by rw [hS6]; unfold HcN; simp [z3]
  have dS6 : GS rwB S6 dv d bd := by
    rw [hS6]
    refine p3.keep (Nat.le_refl _) fun a ha hab => ?_
    have := p4 a hab
    simp [show ¬ a = tc by omega]
  rw [← hS6]
  refine ru16_c rS6 (by omega) (fun e he => hT e S6 (by rw [hr5, pN5, pB_ok p1]; exact pB_err he) sS6) fun N l7 σ7 q6 q7 q8 => ?_
  have hN := (pNum_len q6).2
  have hlen7 := (pNum_len q6).1
  have s7 := sS6.trans q8.c
  have c7 := (q8.keep tc (by omega) hrt).trans cS6
  have hbd : ∀ z, bd = some z → z < S6.next ∧ σ5.next ≤ z := fun z hz => ⟨dS6.lt hz, p4 z hz⟩
  have hr5n : r < σ5.next := by obtain ⟨_, _, _, _, h⟩ := h5; exact h
  have d7 : GS rwB σ7 dv d bd := dS6.keep q8.next fun a ha hab => q8.keep a ha (by have := hbd a hab; omega)
  have hr7 : pNote l = pB (pMany pItem N) (fun is => pR ⟨k, t, y, (cd : Int), xs, nm, ky, d, is⟩) l7 := by rw [hr5, pN5, pB_ok p1, pB_ok q6]
  have n7 := q8.next
  simp [lk_cons]
  refine wp_loop (HiJ (pNote l) r tc c k t y cd xs nm ky dv d bd N σ σ7) N ?_ ?_
  · exact ⟨0, l7, .nilsl, [], none, [], rfl, by omega, rfl, q7, by omega, ⟨Nat.le_refl _, fun _ _ _ _ => rfl⟩, c7, GS.nil _, Its.nil _ _ _, by simp, hr7, by simp [lk_cons]⟩
  rintro mm rg σ8 ⟨i, l8, iv, its, b, is, rfl, hi8, his, h8, hl8, s8, hc8, hg8, hi2, hb8, hr8, rfl⟩
  have tl8 : tc < σ8.next := by have := s8.next; omega
  unfold HcN at hc8
  have hnl2 : (NoteV.mk k t y (cd : Int) xs nm ky [] []).nums.length = 7 := hxs
  obtain ⟨y1, y2, y3, y4, y5⟩ := noteC_tail (x := ⟨k, t, y, (cd : Int), xs, nm, ky, [], []⟩) (dv := dv) (iv := iv) hxs
  by_cases hlt : i < N
  · have hlt' : (i : Int) < N := by omega
    have w1 : IntKind.u16.wrap ((i : Int) + 1) = ((i + 1 : Nat) : Int) := by rw [IntWalk.u16_in] <;> omega
    obtain ⟨j, hj⟩ : ∃ j, N - i = j + 1 := ⟨N - i - 1, by omega⟩
    rw [hj, pMany_step] at hr8
    obtain ⟨es, hes⟩ : ∃ es, noteC ⟨k, t, y, (cd : Int), xs, nm, ky, [], []⟩ dv iv = es := ⟨_, rfl⟩
    have esl : es.length = 15 := by rw [← hes]; exact noteC_len hxs
    rw [hes] at hc8 y4 y5
    simp [lk_cons, hlt, hlt', hc8, y5]
    have htb : b ≠ some tc := fun e => by have := hb8 _ e; omega
    refine ru64_c h8 (by omega) (fun e he => hT e σ8 (by rw [hr8]; exact pB_err (pB_err he)) (s7.trans s8)) fun n l9 σ9 u1 u2 u3 => ?_
    have s9 := s8.trans u3.c
    have c9 := (u3.keep tc tl8 hrt).trans hc8
    have n9 := u3.next
    have hlen9 := (pNum_len u1).1
    simp [lk_cons, c9, y5]
    refine rbytes_b u2 (by omega) (fun e σ' he hs => hT e σ' (by rw [hr8]; exact pB_err (by rw [pItem, pB_ok u1]; exact pB_err he)) ((s7.trans s9).trans hs.c)) fun d2 l10 v2 b2 σ10 x1 x2 x3 x4 x5 => ?_
    have s10 := s9.trans x5.c
    have c10 := (x5.keep tc (by omega) hrt).trans c9
    have n10 := x5.next
    have hlen10 := (pBytes_len x1).1
    have n8 := s8.next
    have hv2 := x3.one
    have hit8 : ∀ a, a < σ8.next → a ≠ r → σ10.mem.get a = σ8.mem.get a := fun a ha hr => (x5.keep a (by omega) hr).trans (u3.keep a ha hr)
    have hr7n : r < σ.next := q4
    have hg10 : GS rwI σ10 iv its b := hg8.keep (by omega) fun a ha hab => hit8 a ha (by have := hb8 a hab; omega)
    have hi10 : Its σ10 (fun a => σ.next ≤ a) b its is := hi2.keep (by omega) (fun a ha hk _ => hit8 a ha (by omega)) fun _ _ e => e
    obtain ⟨SA, hSA⟩ : ∃ SA : St, SA = ⟨σ10.mem.set σ10.next (.cells 2 [u64 (n : Int), v2]), σ10.next + 1⟩ := ⟨_, rfl⟩
    have nSA : SA.next = σ10.next + 1 := by rw [hSA]
    have kSA : ∀ a, a < σ10.next → SA.mem.get a = σ10.mem.get a := fun a ha => by rw [hSA]; simp [show ¬ a = σ10.next by omega]
    have hblt : ∀ z, b = some z → z < σ10.next := fun z hz => hg10.lt hz
    obtain ⟨σ11, a1, a2, a3, a4⟩ := gs_app1 (hg10.keep (σ' := SA) (by omega) fun a ha _ => kSA a ha) (nb := σ10.next) (by_ := 32) (t := true) (x := (n, ⟨v2, hv2.1⟩)) (by decide) (by rw [hSA]; simp [rwI]) (fun e => by have := hblt _ e; omega) (by rw [hi2.1, his]; omega) (by rw [hi2.1, his]; omega)
    rw [hi2.1, his] at a1 a2
    have a1' := a1
    rw [hSA] at a1
    have c11 : σ11.mem.get tc = some (.cells 15 es) := (a4 tc (by omega) htb).trans ((kSA tc (by omega)).trans c10)
    simp [lk_cons, c10, y5, hv2, fillL, repL, storeL, ↓a1, c11, esl, w1]
    have kB : ∀ a, a < σ10.next → a ≠ tc → b ≠ some a → (σ11.mem.set tc (.cells 15 (es.set 14 (.sl SA.next 0 (i + 1) (i + 1) false)))).get a = σ10.mem.get a := fun a ha h1 h2 => by
      simp [h1]
      exact (a4 a (by omega) h2).trans (kSA a ha)
    rw [nSA] at kB a2 a3
    obtain ⟨q1, q2⟩ : c ≠ some r ∧ (∀ z, c = some z → z < σ7.next) := by
      obtain ⟨_, _, hh, h3, _⟩ := q7
      exact ⟨h3, fun z hz => hh.lt hz⟩
    refine ⟨by rw [List.getElem?_eq_getElem (by omega)] at y5; exact Option.some.inj y5, N - (i + 1), by omega, i + 1, l10, .sl (σ10.next + 1) 0 (i + 1) (i + 1) false, its ++ [(n, ⟨v2, hv2.1⟩)], some (σ10.next + 1), is ++ [(n, d2)], rfl, by omega, by simp [his], ?_, by omega, ?_, ?_, ?_, ?_, ?_, ?_, rfl⟩
    · refine x2.keep (by show σ10.next ≤ σ11.next; omega) fun a ha hac => kB a ha ?_ ?_
      · rcases hac with rfl | hac
        · exact Ne.symm hrt
        · exact fun e => hct (by rw [hac, e])
      · intro e
        have := hb8 _ e
        rcases hac with rfl | hac
        · omega
        · have := q2 a hac; omega
    · refine ⟨by show σ7.next ≤ σ11.next; omega, fun a ha h1 h2 => ?_⟩
      rw [kB a (by omega) h2 (fun e => by have := hb8 _ e; omega)]
      exact s10.keep a ha h1 h2
    · unfold HcN
      simp [y4]
    · refine a2.keep (by show σ11.next ≤ σ11.next; omega) fun a ha hab => ?_
      cases hab
      simp [show ¬ σ10.next + 1 = tc by omega]
    · refine (Its.snoc (hv := hv2.1) (hi10) (RdB.ofGS x3) (fun z hz => ⟨by have := x4 z hz; omega, fun e => by have := x4 z hz; have := hg8.lt e; omega⟩)).keep (by show σ10.next ≤ σ11.next; omega) (fun a ha hk hb => kB a ha (by omega) hb) fun a ha e => by cases e; omega
    · intro z hz; cases hz; omega
    · rw [hr8, pB_ok (by rw [pItem, pB_ok u1, pB_ok x1]; rfl : pItem l8 = .ok ((n, d2), l10)), show N - (i + 1) = j by omega]
      simp
  have : i = N := by omega
  subst this
  simp [lk_cons]
  rw [Nat.sub_self] at hr8
  refine hK ⟨k, t, y, (cd : Int), xs, nm, ky, d, is⟩ l8 σ8 (by rw [hr8]; simp [pMany, pB, pR]) h8 ⟨dv, iv, bd, ?_, ?_, ?_, .inr ⟨its, b, hg8, ?_, hi2⟩⟩ (s7.trans s8)
  · exact hc8
  · exact d7.keep s8.next fun a ha hab => s8.keep a ha (by have := hbd a hab; omega) (by have := hbd a hab; omega)
  · intro z hz; have := hbd z hz; have := s5.next; omega
  · intro z hz; have := hb8 z hz; have := s7.next; omega
end Go.Proofs.YticefdfhcahlfaaDoor.AM

/- Notes: SameNotes. -/
namespace Go.Proofs.YticefdfhcahlfaaDoor.AM
open Go.RowKit
set_option maxRecDepth 100000
set_option linter.unusedVariables false
set_option linter.unusedSimpArgs false

theorem nums7 {x : NoteV} (h : x.nums.length = 7) : ∃ a b c d e f g, x.nums = [a, b, c, d, e, f, g] := by
  match h2 : x.nums, h with
  | [a, b, c, d, e, f, g], _ => exact ⟨a, b, c, d, e, f, g, rfl⟩
set_option maxHeartbeats 4000000 in
theorem samenote_c {σ : St} {x y : NoteV} {dv iv ev jv : AVal} {c c' : Option Nat} {K K' : Nat → Prop} (ox : x.nums.length = 7) (oy : y.nums.length = 7) (hd : RdB σ dv x.data c) (he : RdB σ ev y.data c') (hi : ItR σ K iv x.items) (hj : ItR σ K' jv y.items) (hl : x.items.length ≤ 1000000) (Q : AVal → St → Prop)
    (hQ : ∀ b σ', (b = true ↔ x = y) → Grow σ σ' → Q (.bool b) σ') : ACall Tryd.prog 19 [.agg (noteC x dv iv), .agg (noteC y ev jv)] σ Q := by
  refine ACall.of_compF hmx (fun a w => Tryd.call19 a w) Tryd.func19 cf19 (n := 2) (by decide) rfl ?_
  obtain ⟨o1, o2⟩ := hd.one
  obtain ⟨o3, o4⟩ := he.one
  obtain ⟨o5, o6⟩ := hi.one
  obtain ⟨o7, o8⟩ := hj.one
  obtain ⟨a1, a2, a3, a4, a5, a6, a7, hx⟩ := nums7 ox
  obtain ⟨b1, b2, b3, b4, b5, b6, b7, hy⟩ := nums7 oy
  obtain ⟨xk, xt, xy, xc, xn, xnm, xky, xd, xi⟩ := x
  obtain ⟨yk, yt, yy, yc, yn, ynm, yky, yd, yi⟩ := y
  simp only at hx hy hd he hi hj hl
  subst hx; subst hy
  have strE : ∀ a b : ByteArray, abinS .eql a b = some (.bool (decide (a = b))) := strEq
  simp only [noteC, List.map_cons, List.map_nil, List.cons_append, List.nil_append]
  have e1 : ¬ σ.next = σ.next + 1 := by omega
  have e2 : ¬ σ.next + 1 = σ.next := by omega
  simp [ac19, rs19, lk_cons, fillL, storeL, o1, o2, o3, o4, o5, o6, o7, o8]
  obtain ⟨S, hS⟩ : ∃ S : St, S = ⟨(σ.mem.set σ.next (.cells 15 [.int .u8 (xk : Int), .int .u8 (xt : Int), .bool xy, .int .i64 xc, u64 (a1 : Int), u64 (a2 : Int), u64 (a3 : Int), u64 (a4 : Int), u64 (a5 : Int), u64 (a6 : Int), u64 (a7 : Int), .str xnm, .str xky, dv, iv])).set (σ.next + 1) (.cells 15 [.int .u8 (yk : Int), .int .u8 (yt : Int), .bool yy, .int .i64 yc, u64 (b1 : Int), u64 (b2 : Int), u64 (b3 : Int), u64 (b4 : Int), u64 (b5 : Int), u64 (b6 : Int), u64 (b7 : Int), .str ynm, .str yky, ev, jv]), σ.next + 1 + 1⟩ := ⟨_, rfl⟩
  have nS : S.next = σ.next + 2 := by rw [hS]
  have kS : ∀ a, a < σ.next → S.mem.get a = σ.mem.get a := fun a ha => by rw [hS]; simp [show ¬ a = σ.next by omega, show ¬ a = σ.next + 1 by omega]
  have gS : Grow σ S := ⟨by omega, kS⟩
  have m1 : S.mem.get σ.next = some (.cells 15 [.int .u8 (xk : Int), .int .u8 (xt : Int), .bool xy, .int .i64 xc, u64 (a1 : Int), u64 (a2 : Int), u64 (a3 : Int), u64 (a4 : Int), u64 (a5 : Int), u64 (a6 : Int), u64 (a7 : Int), .str xnm, .str xky, dv, iv]) := by rw [hS]; simp [e1]
  have m2 : S.mem.get (σ.next + 1) = some (.cells 15 [.int .u8 (yk : Int), .int .u8 (yt : Int), .bool yy, .int .i64 yc, u64 (b1 : Int), u64 (b2 : Int), u64 (b3 : Int), u64 (b4 : Int), u64 (b5 : Int), u64 (b6 : Int), u64 (b7 : Int), .str ynm, .str yky, ev, jv]) := by rw [hS]; simp
  have hs := (hd.keep (σ' := S) gS.1 fun a ha _ => kS a ha).str
  have ks := (he.keep (σ' := S) gS.1 fun a ha _ => kS a ha).str
  have hi' := hi.keep (σ' := S) gS.1 fun a ha _ => kS a ha
  have hj' := hj.keep (σ' := S) gS.1 fun a ha _ => kS a ha
  rw [← hS]
  by_cases e : xk = yk
  case neg =>
    have e' : ¬ (xk : Int) = yk := by omega
    simp [lk_cons, m1, m2, e, e']
    exact hQ false S (by simp [e]) gS
  subst e
  simp [lk_cons, m1, m2]
  by_cases e : xt = yt
  case neg =>
    have e' : ¬ (xt : Int) = yt := by omega
    simp [lk_cons, m1, m2, e, e']
    exact hQ false S (by simp [e]) gS
  subst e
  simp [lk_cons, m1, m2]
  by_cases e : xy = yy
  case neg =>
    have be : (xy == yy) = false := beq_eq_false_iff_ne.2 e
    simp [lk_cons, m1, m2, be]
    exact hQ false S (by simp [e]) gS
  subst e
  simp [lk_cons, m1, m2]
  by_cases e : xc = yc
  case neg =>
    simp [lk_cons, m1, m2, e]
    exact hQ false S (by simp [e]) gS
  subst e
  simp [lk_cons, m1, m2]
  by_cases e : a1 = b1
  case neg =>
    have e' : ¬ (a1 : Int) = b1 := by omega
    simp [lk_cons, m1, m2, e, e']
    exact hQ false S (by simp [e]) gS
  subst e
  simp [lk_cons, m1, m2]
  by_cases e : a2 = b2
  case neg =>
    have e' : ¬ (a2 : Int) = b2 := by omega
    simp [lk_cons, m1, m2, e, e']
    exact hQ false S (by simp [e]) gS
  subst e
  simp [lk_cons, m1, m2]
  by_cases e : a3 = b3
  case neg =>
    have e' : ¬ (a3 : Int) = b3 := by omega
    simp [lk_cons, m1, m2, e, e']
    exact hQ false S (by simp [e]) gS
  subst e
  simp [lk_cons, m1, m2]
  by_cases e : a4 = b4
  case neg =>
    have e' : ¬ (a4 : Int) = b4 := by omega
    simp [lk_cons, m1, m2, e, e']
    exact hQ false S (by simp [e]) gS
  subst e
  simp [lk_cons, m1, m2]
  by_cases e : a5 = b5
  case neg =>
    have e' : ¬ (a5 : Int) = b5 := by omega
    simp [lk_cons, m1, m2, e, e']
    exact hQ false S (by simp [e]) gS
  subst e
  simp [lk_cons, m1, m2]
  by_cases e : a6 = b6 ∧ a7 = b7
  case neg =>
    have e' : ¬ ((a6 : Int) = b6 ∧ (a7 : Int) = b7) := by omega
    have e2 : keysEq [u64 (a6 : Int), u64 (a7 : Int)] [u64 (b6 : Int), u64 (b7 : Int)] = some false := by
      by_cases h6 : (a6 : Int) = b6
      · have h7 : ¬ (a7 : Int) = b7 := fun h7 => e' ⟨h6, h7⟩
        have h7b : ((a7 : Int) == b7) = false := beq_eq_false_iff_ne.2 h7
        simp only [keysEq, keyEq, h6, h7b, if_true, beq_self_eq_true]
      · have h6b : ((a6 : Int) == b6) = false := beq_eq_false_iff_ne.2 h6
        simp only [keysEq, keyEq, h6b, if_true]
    simp [lk_cons, m1, m2, e2, shapeOk, kShape]
    exact hQ false S (by simp; omega) gS
  obtain ⟨rfl, rfl⟩ := e
  have e2 : keysEq [u64 (a6 : Int), u64 (a7 : Int)] [u64 (a6 : Int), u64 (a7 : Int)] = some true := by simp [keysEq, keyEq]
  simp [lk_cons, m1, m2, e2, shapeOk, kShape, strE]
  by_cases e : xnm = ynm
  case neg =>
    simp [lk_cons, m1, m2, e, strE]
    exact hQ false S (by simp [e]) gS
  subst e
  simp [lk_cons, m1, m2, strE]
  by_cases e : xky = yky
  case neg =>
    simp [lk_cons, m1, m2, e, strE]
    exact hQ false S (by simp [e]) gS
  subst e
  simp [lk_cons, m1, m2, strE, ↓hs, ↓ks, str_eq]
  by_cases e : xd = yd
  case neg =>
    simp [lk_cons, m1, m2, e]
    exact hQ false S (by simp [e]) gS
  subst e
  simp [lk_cons, m1, m2]
  refine samei_c hi' hj' hl _ ?_
  simp [lk_cons]
  exact hQ _ S (by simp) gS
end Go.Proofs.YticefdfhcahlfaaDoor.AM

/- Notes: the document's ReadNote. -/
namespace Go.Proofs.YticefdfhcahlfaaDoor.AM
open Go.RowKit
set_option maxRecDepth 100000
set_option linter.unusedVariables false
set_option linter.unusedSimpArgs false

/-- The document's reader goes along with a parse. -/
def Tr {β : Type} (res : Except Nat (β × List UInt8)) (st : RSt) (G : Prs β) : Prop := (∃ m, st = .ok m ∧ res = G m) ∨ ∃ e, st = .error e ∧ res = .error e
section
variable {β : Type} {res : Except Nat (β × List UInt8)} {st : RSt}
theorem Tr.num {k : Nat} {F : Nat → Prs β} (h : Tr res st (pB (pNum k) F)) : Tr res (sNum k st).2 (F (sNum k st).1) := by
  rcases h with ⟨m, rfl, h⟩ | ⟨e, rfl, h⟩
  · rcases sNum_st k m with ⟨x, r, h1, h2⟩ | ⟨e, h1, h2⟩
    · rw [h2]; exact .inl ⟨r, rfl, by rw [h, pB_ok h1]⟩
    · rw [h2]; exact .inr ⟨e, rfl, by rw [h, pB_err h1]⟩
  · exact .inr ⟨e, rfl, h⟩
theorem Tr.text {F : ByteArray → Prs β} (h : Tr res st (pB pTx F)) : Tr res (sText st).2 (F ⟨(sText st).1.toArray⟩) := by
  rcases h with ⟨m, rfl, h⟩ | ⟨e, rfl, h⟩
  · rcases sText_st m with ⟨x, r, h1, h2⟩ | ⟨e, x, h1, h2⟩
    · rw [h2]; exact .inl ⟨r, rfl, by rw [h, pTx, pB_assoc, pB_ok h1]; rfl⟩
    · rw [h2]; exact .inr ⟨e, rfl, by rw [h, pTx, pB_assoc, pB_err h1]⟩
  · exact .inr ⟨e, rfl, h⟩
theorem Tr.bytes {F : List UInt8 → Prs β} (h : Tr res st (pB pBytes F)) : Tr res (sBytes st).2 (F (sBytes st).1) := by
  rcases h with ⟨m, rfl, h⟩ | ⟨e, rfl, h⟩
  · rcases sBytes_st m with ⟨x, r, h1, h2⟩ | ⟨e, x, h1, h2⟩
    · rw [h2]; exact .inl ⟨r, rfl, by rw [h, pB_ok h1]⟩
    · rw [h2]; exact .inr ⟨e, rfl, by rw [h, pB_err h1]⟩
  · exact .inr ⟨e, rfl, h⟩
def sFlag (st : RSt) : Bool × RSt := (decide ((sNum 1 st).1 = 1), match (sNum 1 st).2 with
  | .ok l => if 1 < (sNum 1 st).1 then .error 16 else .ok l
  | .error e => .error e)
theorem Tr.flag {F : Bool → Prs β} (h : Tr res st (pB pFlag F)) : Tr res (sFlag st).2 (F (sFlag st).1) := by
  rcases h with ⟨m, rfl, h⟩ | ⟨e, rfl, h⟩
  · unfold sFlag
    rcases sNum_st 1 m with ⟨x, r, h1, h2⟩ | ⟨e, h1, h2⟩
    · rw [h2, h, pFlag, pB_assoc, pB_ok h1]
      by_cases hx : 1 < x
      · simp only [hx, if_true]
        exact .inr ⟨16, rfl, by simp [pB]⟩
      · simp only [hx, if_false]
        exact .inl ⟨r, rfl, by simp [pB]⟩
    · rw [h2]; exact .inr ⟨e, rfl, by rw [h, pFlag, pB_assoc, pB_err h1]⟩
  · exact .inr ⟨e, rfl, h⟩
end
theorem sNum_lt (k : Nat) (st : RSt) : (sNum k st).1 < 256 ^ k := by
  cases st with
  | error e => exact Nat.pow_pos (by decide)
  | ok l =>
    rcases sNum_st k l with ⟨x, r, h1, h2⟩ | ⟨e, h1, h2⟩
    · rw [h2]; exact (pNum_len h1).2
    · rw [h2]; exact Nat.pow_pos (by decide)
theorem SR.code {σ : St} {r : Nat} {st : RSt} {c : Option Nat} (h : SR σ r st c) : ∃ v e, σ.mem.get r = some (.cells 2 [v, .int .i64 ((e : Nat) : Int)]) ∧ (e = 0 ∧ (∃ l, st = .ok l) ∨ e ≠ 0 ∧ st = .error e) := by
  obtain ⟨h1, h2, h3, h4⟩ := h
  cases st with
  | ok l => obtain ⟨v, k1, _⟩ := h4; exact ⟨v, 0, k1, .inl ⟨rfl, l, rfl⟩⟩
  | error e => obtain ⟨k0, v, _, k1⟩ := h4; exact ⟨v, e, k1, .inr ⟨k0, rfl⟩⟩
theorem rflag_c {σ : St} {r : Nat} {st : RSt} {c : Option Nat} (h : SR σ r st c) (Q : AVal → St → Prop)
    (hQ : ∀ σ', SR σ' r (sFlag st).2 c → σ'.next = σ.next → (∀ a, a ≠ r → σ'.mem.get a = σ.mem.get a) → Q (.bool (sFlag st).1) σ') : ACall Tryd.prog 53 [.ptr r 0] σ Q := by
  refine ACall.of_compF hmx (fun a w => Tryd.call53 a w) Tryd.func53 cf53 (n := 1) (by decide) rfl ?_
  simp [ac53, rs53, lk_cons]
  refine snum_c h (k := 1) (by decide) _ fun σ1 h1 n1 k1 => ?_
  obtain ⟨v, e, hm, he⟩ := h1.code
  have hd : decide (((sNum 1 st).1 : Int) = 1) = decide ((sNum 1 st).1 = 1) := decide_eq_decide.2 (by omega)
  unfold sFlag at hQ
  revert h1 he hQ hd
  generalize hs2 : (sNum 1 st).2 = s2
  generalize hs1 : (sNum 1 st).1 = n
  intro hQ h1 he hd
  rcases he with ⟨rfl, l, rfl⟩ | ⟨he, rfl⟩
  · by_cases hn : 1 < n
    · have hn' : (1 : Int) < n := by omega
      simp [lk_cons, hm, hn, hn']
      refine sfail_c h1 (e := 16) (by decide) _ fun σ2 h2 n2 k2 => ?_
      simp [lk_cons]
      simp only [hn, if_true] at hQ
      have := hQ σ2 (by simpa [sFail] using h2) (by omega) fun a ha => (k2 a ha).trans (k1 a ha)
      simpa [hd] using this
    · have hn' : ¬ (1 : Int) < n := by omega
      simp [lk_cons, hm, hn, hn']
      simp only [hn, if_false] at hQ
      have := hQ σ1 h1 n1 k1
      simpa [hd] using this
  · have he' : ¬ (e : Int) = 0 := by omega
    simp [lk_cons, hm, he, he']
    have := hQ σ1 h1 n1 k1
    simpa [hd] using this
theorem pNote_nums {l r : List UInt8} {x : NoteV} (h : pNote l = .ok (x, r)) : x.nums.length = 7 := by
  obtain ⟨k, l1, _, h⟩ := pB_inv h
  obtain ⟨t, l2, _, h⟩ := pB_inv h
  obtain ⟨y, l3, _, h⟩ := pB_inv h
  obtain ⟨c, l4, _, h⟩ := pB_inv h
  obtain ⟨ns, l5, h5, h⟩ := pB_inv h
  obtain ⟨nm, l6, _, h⟩ := pB_inv h
  obtain ⟨ky, l7, _, h⟩ := pB_inv h
  obtain ⟨d, l8, _, h⟩ := pB_inv h
  obtain ⟨n, l9, _, h⟩ := pB_inv h
  obtain ⟨is, l10, _, h⟩ := pB_inv h
  cases h
  exact (pMany_len (fun l x r h => by have := (pNum_len h).1; omega) 7 _ _ _ h5).2
/-- What is heard, in one. -/
def NtRel (σ : St) (K : Nat → Prop) (l : List UInt8) (gv : AVal) (code : Nat) : Prop := (pNote l = .error code ∧ gv = .agg noteCs) ∨ (∃ x l', pNote l = .ok (x, l') ∧ l' ≠ [] ∧ gv = .agg noteCs ∧ code = 5) ∨ ∃ x dv iv b, pNote l = .ok (x, []) ∧ gv = .agg (noteC x dv iv) ∧ RdB σ dv x.data b ∧ (∀ y, b = some y → K y) ∧ ItR σ K iv x.items ∧ code = 0
theorem hear_c {σ : St} {bv : AVal} {l : List UInt8} {c : Option Nat} (hb : RdB σ bv l c) (hl : l.length ≤ 1000000) (Q : AVal → St → Prop) (hQ : ∀ gv code σ', NtRel σ' (fun a => σ.next ≤ a) l gv code → Grow σ σ' → Q (.tup [gv, i64 (code : Nat)]) σ') : ACall Tryd.prog 17 [bv] σ Q := by
  refine ACall.of_compF hmx (fun a w => Tryd.call17 a w) Tryd.func17 cf17 (n := 1) (by decide) rfl ?_
  simp [ac17, rs17, lk_cons]
  obtain ⟨S, hS⟩ : ∃ S : St, S = ⟨(σ.mem.set σ.next (.cells 15 noteCs)).set (σ.next + 1) (.cells 15 noteCs), σ.next + 1 + 1⟩ := ⟨_, rfl⟩
  have nS : S.next = σ.next + 2 := by rw [hS]
  have kS : ∀ a, a < σ.next → S.mem.get a = σ.mem.get a := fun a ha => by rw [hS]; simp [show ¬ a = σ.next by omega, show ¬ a = σ.next + 1 by omega]
  have m2 : S.mem.get σ.next = some (.cells 15 noteCs) := by rw [hS]; simp
  have m4 : S.mem.get (σ.next + 1) = some (.cells 15 noteCs) := by rw [hS]; simp
  unfold noteCs at hS
  rw [← hS]
  refine read_h (X := NoteV) (res := pNote l) (Post := fun x σ1 σ' => NoteM (σ.next + 1) x σ1 σ') (hb.keep (by omega) fun a ha _ => kS a ha) (cell := σ.next + 1) (by omega) _ (fun T r σa K k1 k2 k3 k4 k5 => ?_) (fun e σb he hn hk => ?_) (fun x l' σa σb σc hx hpost hga hna hmem hnx hnab hkeep => ?_)
  · have htc := (k3.2 (σ.next + 1) (by omega)).trans m4
    exact hearc_c k1 hl htc (by have := k3.1; omega) (by omega) (fun ec => by have := hb.lt ec; omega) (fun e σ' he hs => k4 e σ' he hs) fun x l' σ' h1 h2 h3 h4 => k5 x l' σ' h1 h2 h3 h4.next h4.keep
  · have he0 := pNote_err he
    have he0' : ¬ (e : Int) = 0 := by omega
    have hm := (hk σ.next (by omega) (by omega)).trans m2
    have hmn := hm
    unfold noteCs at hm
    simp [lk_cons, he0, he0', hm, storeL, fillL]
    exact hQ _ e _ (.inl ⟨he, rfl⟩) ⟨by show σ.next ≤ σb.next; omega, fun a ha => by
      simp [show ¬ a = σ.next by omega]
      exact (hk a (by omega) (by omega)).trans (kS a ha)⟩
  · obtain ⟨dv, iv, bd, z1, z2, z3, z4⟩ := hpost
    have hm : σc.mem.get (σ.next + 1) = some (.cells 15 (noteC x dv iv)) := (hmem (σ.next + 1) (by omega)).trans z1
    have hm2 : σc.mem.get σ.next = some (.cells 15 noteCs) := (hmem σ.next (by omega)).trans ((hkeep σ.next (by omega) (by omega)).trans m2)
    have gk : ∀ a, a < σ.next → σc.mem.get a = σ.mem.get a := fun a ha => by
      rw [hmem a (by omega), hkeep a (by omega) (by omega), kS a ha]
    have gq : ∀ b, Grow σ ⟨σc.mem.set σ.next b, σc.next⟩ := fun b => ⟨by have := hga.1; show σ.next ≤ σc.next; omega, fun a ha => by
      simp [show ¬ a = σ.next by omega]
      exact gk a ha⟩
    unfold noteCs at hm2
    obtain ⟨n1, n2, n3, n4, n5, n6, n7, hnm⟩ := nums7 (pNote_nums hx)
    have hC : noteC x dv iv = [.int .u8 (x.kind : Int), .int .u8 (x.topic : Int), .bool x.yes, .int .i64 x.code, u64 (n1 : Int), u64 (n2 : Int), u64 (n3 : Int), u64 (n4 : Int), u64 (n5 : Int), u64 (n6 : Int), u64 (n7 : Int), .str x.name, .str x.key, dv, iv] := by rw [noteC, hnm]; rfl
    have hone := z2.one
    have hione := z4.one
    have hn1 := hga.1
    cases l' with
    | nil =>
      rw [hC] at hm
      simp [lk_cons, hm, hm2, storeL, fillL, hone, hione]
      rw [← hC]
      refine hQ _ 0 _ (.inr (.inr ⟨x, dv, iv, bd, hx, rfl, RdB.ofGS (z2.keep (by show _ ≤ σc.next; omega) fun a ha hab => ?_), fun y hy => by have := z3 y hy; omega, (z4.keep (by show _ ≤ σc.next; omega) fun a ha hk => ?_).mono fun a ha => by omega, rfl⟩)) (gq _)
      · have := z3 a hab
        simp [show ¬ a = σ.next by omega]
        exact hmem a (by omega)
      · simp [show ¬ a = σ.next by omega]
        exact hmem a (by omega)
    | cons y l' =>
      simp [lk_cons, hm2, storeL, fillL]
      exact hQ _ 5 _ (.inr (.inl ⟨x, y :: l', hx, by simp, rfl, rfl⟩)) (gq _)
end Go.Proofs.YticefdfhcahlfaaDoor.AM

/- Notes: the document's ReadNote, walked. -/
namespace Go.Proofs.YticefdfhcahlfaaDoor.AM
open Go.RowKit
set_option maxRecDepth 100000
set_option linter.unusedVariables false
set_option linter.unusedSimpArgs false

/-- The reader r and the cell tc, that is filled. -/
structure RN {β : Type} (S : St) (r tc k : Nat) (c : Option Nat) (res : Except Nat (β × List UInt8)) (σ : St) (st : RSt) (G : Prs β) (cells : List AVal) : Prop where
  sr : SR σ r st c
  tr : Tr res st G
  cell : σ.mem.get tc = some (.cells k cells)
  next : σ.next = S.next
  keep : ∀ a, a ≠ r → a ≠ tc → σ.mem.get a = S.mem.get a
  ne : tc ≠ r
  nc : c ≠ some tc
section
variable {β : Type} {S : St} {r tc w : Nat} {c : Option Nat} {res : Except Nat (β × List UInt8)} {σ : St} {st : RSt} {cells : List AVal}
theorem RN.step {G G' : Prs β} (R : RN S r tc w c res σ st G cells) {st' : RSt} {σ2 : St} (h : SR σ2 r st' c) (hn : σ2.next = σ.next) (hm : ∀ a, a ≠ r → σ2.mem.get a = σ.mem.get a) (ht : Tr res st' G') (cells' : List AVal) : RN S r tc w c res ⟨σ2.mem.set tc (.cells w cells'), σ2.next⟩ st' G' cells' :=
  ⟨h.keep (Nat.le_refl _) fun a _ hac => by
    have : a ≠ tc := by
      rcases hac with rfl | hac
      · exact Ne.symm R.ne
      · exact fun e => R.nc (by rw [hac, e])
    simp [this], ht, by simp, hn.trans R.next, fun a h1 h2 => by simp [h2]; exact (hm a h1).trans (R.keep a h1 h2), R.ne, R.nc⟩
theorem rn_num {k : Nat} {F : Nat → Prs β} (R : RN S r tc w c res σ st (pB (pNum k) F) cells) (hk : k ≤ 8) (Q : AVal → St → Prop)
    (hQ : ∀ n st' σ2, n < 256 ^ k → σ2.mem.get tc = some (.cells w cells) → (∀ cells', RN S r tc w c res ⟨σ2.mem.set tc (.cells w cells'), σ2.next⟩ st' (F n) cells') → Q (.int .u64 (n : Nat)) σ2) : ACall Tryd.prog 20 [.ptr r 0, .int .i64 (k : Int)] σ Q :=
  snum_c R.sr hk Q fun σ2 h1 h2 h3 => hQ _ _ σ2 (sNum_lt k st) ((h3 tc R.ne).trans R.cell) (R.step h1 h2 h3 R.tr.num)
theorem rn_num0 {k : Nat} {F : Nat → Prs β} (R : RN S r tc w c res σ st (pB (pNum k) F) cells) (hk : k ≤ 8) (Q : AVal → St → Prop)
    (hQ : ∀ n st' σ2, n < 256 ^ k → RN S r tc w c res σ2 st' (F n) cells → Q (.int .u64 (n : Nat)) σ2) : ACall Tryd.prog 20 [.ptr r 0, .int .i64 (k : Int)] σ Q :=
  snum_c R.sr hk Q fun σ2 h1 h2 h3 => hQ _ _ σ2 (sNum_lt k st) ⟨h1, R.tr.num, (h3 tc R.ne).trans R.cell, h2.trans R.next, fun a h1 h2 => (h3 a h1).trans (R.keep a h1 h2), R.ne, R.nc⟩
theorem rn_flag {F : Bool → Prs β} (R : RN S r tc w c res σ st (pB pFlag F) cells) (Q : AVal → St → Prop)
    (hQ : ∀ y st' σ2, σ2.mem.get tc = some (.cells w cells) → (∀ cells', RN S r tc w c res ⟨σ2.mem.set tc (.cells w cells'), σ2.next⟩ st' (F y) cells') → Q (.bool y) σ2) : ACall Tryd.prog 53 [.ptr r 0] σ Q :=
  rflag_c R.sr Q fun σ2 h1 h2 h3 => hQ _ _ σ2 ((h3 tc R.ne).trans R.cell) (R.step h1 h2 h3 R.tr.flag)
theorem rn_text {F : ByteArray → Prs β} (R : RN S r tc w c res σ st (pB pTx F) cells) (Q : AVal → St → Prop)
    (hQ : ∀ s st' σ2, σ2.mem.get tc = some (.cells w cells) → (∀ cells', RN S r tc w c res ⟨σ2.mem.set tc (.cells w cells'), σ2.next⟩ st' (F s) cells') → Q (.str s) σ2) : ACall Tryd.prog 54 [.ptr r 0] σ Q :=
  stext_c R.sr Q fun σ2 h1 h2 h3 => hQ _ _ σ2 ((h3 tc R.ne).trans R.cell) (R.step h1 h2 h3 R.tr.text)
theorem rn_bytes {F : List UInt8 → Prs β} (R : RN S r tc w c res σ st (pB pBytes F) cells) (Q : AVal → St → Prop)
    (hQ : ∀ d v c' st' σ2, RdB σ2 v d c' → (c' = c ∨ c' = none) → σ2.mem.get tc = some (.cells w cells) → (∀ cells', RN S r tc w c res ⟨σ2.mem.set tc (.cells w cells'), σ2.next⟩ st' (F d) cells') → Q v σ2) : ACall Tryd.prog 55 [.ptr r 0] σ Q :=
  sbytes_c R.sr Q fun σ2 v c' h1 h2 h3 h4 h5 => hQ _ v c' _ σ2 h2 h3 ((h5 tc R.ne).trans R.cell) (R.step h1 h4 h5 R.tr.bytes)
end
/-- Numbers in the way they stand in the text. -/
theorem pMany7 {F : List Nat → Prs NoteV} : pB (pMany (pNum 8) 7) F = pB (pNum 8) fun a => pB (pNum 8) fun b => pB (pNum 8) fun c => pB (pNum 8) fun d => pB (pNum 8) fun e => pB (pNum 8) fun f => pB (pNum 8) fun g => F [a, b, c, d, e, f, g] := by
  rw [pMany_step]; congr 1; funext a
  rw [pMany_step]; congr 1; funext b
  rw [pMany_step]; congr 1; funext c
  rw [pMany_step]; congr 1; funext d
  rw [pMany_step]; congr 1; funext e
  rw [pMany_step]; congr 1; funext f
  rw [pMany_step]; congr 1
theorem pNote7 : pNote = pB (pNum 1) fun k => pB (pNum 1) fun t => pB pFlag fun y => pB (pNum 1) fun cd => pB (pNum 8) fun a => pB (pNum 8) fun b => pB (pNum 8) fun c => pB (pNum 8) fun d => pB (pNum 8) fun e => pB (pNum 8) fun f => pB (pNum 8) fun g => pB pTx fun nm => pB pTx fun ky => pB pBytes fun dl => pB (pNum 2) fun n => pB (pMany pItem n) fun is => pR ⟨k, t, y, (cd : Int), [a, b, c, d, e, f, g], nm, ky, dl, is⟩ := by
  unfold pNote
  simp only [pMany7]
theorem Its.mono {σ : St} {K K' : Nat → Prop} {b : Option Nat} {its : List IV} {xs : List (Nat × List UInt8)} (h : Its σ K b its xs) (hk : ∀ a, K a → K' a) : Its σ K' b its xs :=
  ⟨h.1, fun i it x h3 h4 => by
    obtain ⟨e1, cc, e2, e3⟩ := h.2 i it x h3 h4
    exact ⟨e1, cc, e2, fun y hy => ⟨hk y (e3 y hy).1, (e3 y hy).2⟩⟩⟩
def RiJ (res : Except Nat (NoteV × List UInt8)) (r tc rc : Nat) (c : Option Nat) (K : Nat → Prop) (x : NoteV) (dv : AVal) (N : Nat) (S : St) (mm : Nat) (rg : Regs) (σ' : St) : Prop := ∃ (i : Nat) (st : RSt) (iv : AVal) (its : List IV) (b : Option Nat) (xs : List (Nat × List UInt8)), mm = N - i ∧ i ≤ N ∧ xs.length = i ∧ SR σ' r st c ∧ Tr res st (pB (pMany pItem (N - i)) fun is => pR { x with items := xs ++ is }) ∧ σ'.mem.get tc = some (.cells 15 (noteC x dv iv)) ∧ GS rwI σ' iv its b ∧ Its σ' K b its xs ∧ (∀ z, b = some z → S.next ≤ z) ∧ RStpC r tc S σ' ∧ rg = [(2, .ptr rc 0), (4, .ptr r 0), (5, .ptr tc 0), (6, i64 N), (7, i64 i)]
set_option maxHeartbeats 4000000 in
theorem rnote_c {σ : St} {bv : AVal} {l : List UInt8} {c : Option Nat} (hb : RdB σ bv l c) (hl : l.length ≤ 1000000) (Q : AVal → St → Prop) (hQ : ∀ gv code σ', NtRel σ' (fun a => c = some a ∨ σ.next ≤ a) l gv code → Grow σ σ' → Q (.tup [gv, i64 (code : Nat)]) σ') : ACall Tryd.prog 18 [bv] σ Q := by
  refine ACall.of_compF hmx (fun a w => Tryd.call18 a w) Tryd.func18 cf18 (n := 1) (by decide) rfl ?_
  obtain ⟨o1, o2⟩ := hb.one
  have hcl : ∀ x, c = some x → x < σ.next := fun x hx => hb.lt hx
  simp [ac18, rs18, lk_cons, fillL, storeL, o1, o2]
  obtain ⟨S, hS⟩ : ∃ S : St, S = ⟨(((σ.mem.set σ.next (.cells 15 noteCs)).set (σ.next + 1) (.cells 2 [bv, i64 0])).set (σ.next + 1 + 1) (.cells 15 noteCs)).set (σ.next + 1 + 1) (.cells 15 noteCs), σ.next + 1 + 1 + 1⟩ := ⟨_, rfl⟩
  have nS : S.next = σ.next + 3 := by rw [hS]
  have kS : ∀ a, a < σ.next → S.mem.get a = σ.mem.get a := fun a ha => by rw [hS]; simp [show ¬ a = σ.next by omega, show ¬ a = σ.next + 1 by omega, show ¬ a = σ.next + 1 + 1 by omega]
  have mRes : S.mem.get σ.next = some (.cells 15 noteCs) := by rw [hS]; simp
  have m5 : S.mem.get (σ.next + 1 + 1) = some (.cells 15 noteCs) := by rw [hS]; simp
  have sr : SR S (σ.next + 1) (.ok l) c := ⟨by omega, fun e => by have := hcl _ e; omega, fun x hx => by have := hcl x hx; omega, bv, by rw [hS]; simp, hb.keep (by omega) fun a ha _ => kS a ha, hl⟩
  obtain ⟨res, hres⟩ : ∃ res, pNote l = res := ⟨_, rfl⟩
  have R0 : RN S (σ.next + 1) (σ.next + 1 + 1) 15 c res S (.ok l) pNote noteCs := ⟨sr, .inl ⟨l, rfl, hres.symm⟩, m5, rfl, fun _ _ _ => rfl, by omega, fun e => by have := hcl _ e; omega⟩
  unfold noteCs at hS R0
  rw [← hS]
  rw [pNote7] at R0
  have hlt8 : ∀ n : Nat, n < 256 ^ 1 → IntKind.u8.wrap (n : Int) = n := fun n hn => by rw [IntWalk.u8_in]; omega
  have hlt64 : ∀ n : Nat, n < 256 ^ 1 → IntKind.i64.wrap (n : Int) = n := fun n hn => by rw [IntWalk.i64_in] <;> omega
  have hlt64' : ∀ n : Nat, n < 256 ^ 2 → IntKind.i64.wrap (n : Int) = n := fun n hn => by rw [IntWalk.i64_in] <;> omega
  refine rn_num R0 (k := 1) (by decide) _ fun k s1 σ1 l1 m1 R1 => ?_
  simp [lk_cons, m1, storeL, hlt8 k l1]
  refine rn_num (R1 _) (k := 1) (by decide) _ fun t s2 σ2 l2 m2 R2 => ?_
  simp [lk_cons, m2, storeL, hlt8 t l2]
  refine rn_flag (R2 _) _ fun y s3 σ3 m3 R3 => ?_
  simp [lk_cons, m3, storeL]
  refine rn_num (R3 _) (k := 1) (by decide) _ fun cd s4 σ4 l4 m4 R4 => ?_
  simp [lk_cons, m4, storeL, hlt64 cd l4]
  refine rn_num (R4 _) (k := 8) (by decide) _ fun n1 s5 σ5 l5 m5 R5 => ?_
  simp [lk_cons, m5, storeL]
  refine rn_num (R5 _) (k := 8) (by decide) _ fun n2 s6 σ6 l6 m6 R6 => ?_
  simp [lk_cons, m6, storeL]
  refine rn_num (R6 _) (k := 8) (by decide) _ fun n3 s7 σ7 l7 m7 R7 => ?_
  simp [lk_cons, m7, storeL]
  refine rn_num (R7 _) (k := 8) (by decide) _ fun n4 s8 σ8 l8 m8 R8 => ?_
  simp [lk_cons, m8, storeL]
  refine rn_num (R8 _) (k := 8) (by decide) _ fun n5 s9 σ9 l9 m9 R9 => ?_
  simp [lk_cons, m9, storeL]
  refine rn_num (R9 _) (k := 8) (by decide) _ fun n6 s10 σ10 l10 m10 R10 => ?_
  simp [lk_cons, m10, storeL]
  refine rn_num (R10 _) (k := 8) (by decide) _ fun n7 s11 σ11 l11 m11 R11 => ?_
  simp [lk_cons, m11, storeL]
  refine rn_text (R11 _) _ fun nm s12 σ12 m12 R12 => ?_
  simp [lk_cons, m12, storeL]
  refine rn_text (R12 _) _ fun ky s13 σ13 m13 R13 => ?_
  simp [lk_cons, m13, storeL]
  refine rn_bytes (R13 _) _ fun d dv c' s14 σ14 rd hc' m14 R14 => ?_
  obtain ⟨o3, o4⟩ := rd.one
  simp [lk_cons, m14, storeL, o3, o4]
  have hrd : ∀ x, c' = some x → c = some x := fun x hx => by
    rcases hc' with rfl | rfl
    · exact hx
    · cases hx
  have rd14 : ∀ B, RdB ⟨σ14.mem.set (σ.next + 1 + 1) B, σ14.next⟩ dv d c' := fun B => rd.keep (Nat.le_refl _) fun a ha hac => by
    have := hcl a (hrd a hac)
    simp [show ¬ a = σ.next + 1 + 1 by omega]
  have n14 := (R14 []).next
  refine snum_c (R14 _).sr (k := 2) (by decide) _ fun σ15 g1 g2 g3 => ?_
  have l15 := sNum_lt 2 s14
  have t15 := (R14 []).tr.num
  have R15 := R14 [.int .u8 (k : Int), .int .u8 (t : Int), .bool y, .int .i64 (cd : Int), u64 (n1 : Int), u64 (n2 : Int), u64 (n3 : Int), u64 (n4 : Int), u64 (n5 : Int), u64 (n6 : Int), u64 (n7 : Int), .str nm, .str ky, dv, .nilsl]
  have m15 := (g3 (σ.next + 1 + 1) (by omega)).trans R15.cell
  have n15 : σ15.next = σ.next + 3 := by rw [g2]; have : σ14.next = S.next := R15.next; show σ14.next = _; omega
  have rd15 : RdB σ15 dv d c' := (rd14 _).keep (Nat.le_of_eq g2.symm) fun a ha hac => g3 a (by have := hcl a (hrd a hac); omega)
  have k15 : ∀ a, a ≠ σ.next + 1 → a ≠ σ.next + 1 + 1 → σ15.mem.get a = S.mem.get a := fun a h1 h2 => (g3 a h1).trans (R15.keep a h1 h2)
  revert g1 t15 l15
  generalize (sNum 2 s14).1 = N
  generalize (sNum 2 s14).2 = s15
  intro g1 l15 t15
  simp [lk_cons, hlt64' N l15]
  obtain ⟨X, hX⟩ : ∃ X : NoteV, X = ⟨k, t, y, (cd : Int), [n1, n2, n3, n4, n5, n6, n7], nm, ky, d, []⟩ := ⟨_, rfl⟩
  have hXn : X.nums.length = 7 := by rw [hX]; rfl
  have hXd : X.data = d := by rw [hX]
  have hXc : ∀ iv, [.int .u8 (k : Int), .int .u8 (t : Int), .bool y, .int .i64 (cd : Int), u64 (n1 : Int), u64 (n2 : Int), u64 (n3 : Int), u64 (n4 : Int), u64 (n5 : Int), u64 (n6 : Int), u64 (n7 : Int), .str nm, .str ky, dv, iv] = noteC X dv iv := fun iv => by rw [hX]; rfl
  rw [hXc] at m15
  have t15 : Tr res s15 (pB (pMany pItem N) fun is => pR { X with items := [] ++ is }) := by rw [hX]; exact t15
  clear R0 R1 R2 R3 R4 R5 R6 R7 R8 R9 R10 R11 R12 R13 R14 R15 m1 m3 m4 m5 m6 m7 m8 m9 m10 m11 m12 m13 m14
  refine wp_loop (RiJ res (σ.next + 1) (σ.next + 1 + 1) σ.next c (fun a => c = some a ∨ σ15.next ≤ a) X dv N σ15) N ?_ ?_
  · exact ⟨0, s15, .nilsl, [], none, [], rfl, Nat.zero_le _, rfl, g1, t15, m15, GS.nil _, Its.nil _ _ _, by simp, ⟨Nat.le_refl _, fun _ _ _ _ => rfl⟩, by simp [lk_cons]⟩
  rintro mm rg σ16 ⟨i, st, iv, its, b, is, rfl, hi, his, h16, t16, c16, hg, hits, hb16, s16, rfl⟩
  obtain ⟨z1, z2, z3, z4, z5⟩ := noteC_tail (dv := dv) (iv := iv) hXn
  have n16 := s16.next
  have e1 : ¬ σ16.next = σ.next + 1 := by omega
  obtain ⟨xs, hxs⟩ : ∃ xs, noteC X dv iv = xs := ⟨_, rfl⟩
  have xsl : xs.length = 15 := by rw [← hxs]; exact noteC_len hXn
  rw [hxs] at c16 z4 z5
  obtain ⟨rv, e, hm, he⟩ := h16.code
  by_cases hgo : i < N ∧ e = 0
  · obtain ⟨hlt, rfl⟩ := hgo
    have hlt' : (i : Int) < N := by omega
    have w1 : IntKind.i64.wrap ((i : Int) + 1) = ((i + 1 : Nat) : Int) := by rw [IntWalk.i64_in] <;> omega
    obtain ⟨j, hj⟩ : ∃ j, N - i = j + 1 := ⟨N - i - 1, by omega⟩
    rw [hj, pMany_step, pItem, pB_assoc] at t16
    simp [lk_cons, hlt, hlt', hm]
    refine snum_c h16 (k := 8) (by decide) _ fun σ17 q1 q2 q3 => ?_
    have t17 := t16.num
    revert q1 t17
    generalize (sNum 8 st).1 = n
    generalize (sNum 8 st).2 = st17
    intro q1 t17
    rw [pB_assoc] at t17
    simp [lk_cons, fillL, storeL]
    have n17 : σ17.next = σ16.next := q2
    have e2 : ¬ σ17.next = σ.next + 1 := by omega
    have hcl17 : ∀ a, a = σ.next + 1 ∨ c = some a → a < σ17.next := fun a h => by
      rcases h with rfl | h
      · omega
      · have := hcl a h; omega
    refine sbytes_c (st := st17) (c := c) (q1.keep (by simp) fun a ha hac => by have := hcl17 a hac; simp [show ¬ a = σ17.next by omega]) _ fun σ18 v2 c2 x1 x2 x3 x4 x5 => ?_
    have t18 := t17.bytes
    revert x1 x2 t18
    generalize (sBytes st17).1 = d2
    generalize (sBytes st17).2 = st18
    intro x1 x2 t18
    have m18 := x5 σ17.next e2
    simp only [Mem.get_set, if_true] at m18
    have x4 : σ18.next = σ17.next + 1 := x4
    have hv2 := x2.one
    have hrd2 : ∀ x, c2 = some x → c = some x := fun x hx => by
      rcases x3 with rfl | rfl
      · exact hx
      · cases hx
    have k18 : ∀ a, a < σ16.next → a ≠ σ.next + 1 → σ18.mem.get a = σ16.mem.get a := fun a ha hr => by
      rw [x5 a hr]
      simp only [Mem.get_set, if_neg (show ¬ a = σ17.next by omega)]
      exact q3 a hr
    have c18 : σ18.mem.get (σ.next + 1 + 1) = some (.cells 15 xs) := (k18 _ (by omega) (by omega)).trans c16
    obtain ⟨SB, hSB⟩ : ∃ SB : St, SB = ⟨σ18.mem.set σ17.next (.cells 2 [u64 (n : Int), v2]), σ18.next⟩ := ⟨_, rfl⟩
    have nSB : SB.next = σ16.next + 1 := by rw [hSB]; show σ18.next = _; omega
    have kSB : ∀ a, a < σ16.next → SB.mem.get a = σ18.mem.get a := fun a ha => by rw [hSB]; simp [show ¬ a = σ17.next by omega]
    have cSB : SB.mem.get (σ.next + 1 + 1) = some (.cells 15 xs) := (kSB _ (by omega)).trans c18
    have bSB : SB.mem.get σ17.next = some (.cells 2 [u64 (n : Int), v2]) := by rw [hSB]; simp
    obtain ⟨SA, hSA⟩ : ∃ SA : St, SA = ⟨SB.mem.set SB.next (.cells 2 [u64 (n : Int), v2]), SB.next + 1⟩ := ⟨_, rfl⟩
    have nSA : SA.next = σ16.next + 2 := by rw [hSA]; show SB.next + 1 = _; omega
    have kSA : ∀ a, a < SB.next → SA.mem.get a = SB.mem.get a := fun a ha => by rw [hSA]; simp [show ¬ a = SB.next by omega]
    have hblt : ∀ z, b = some z → z < σ16.next := fun z hz => hg.lt hz
    have gB : GS rwI SB iv its b := hg.keep (by omega) fun a ha hab => by
      have := hb16 a hab
      rw [kSB a ha, k18 a ha (by omega)]
    have iB : Its SB (fun a => c = some a ∨ σ15.next ≤ a) b its is := hits.keep (by omega) (fun a ha hk _ => by
      have h1 : a ≠ σ.next + 1 := by
        rcases hk with hk | hk
        · have := hcl a hk; omega
        · omega
      rw [kSB a ha, k18 a ha h1]) fun _ _ e => e
    obtain ⟨σ11, a1, a2, a3, a4⟩ := gs_app1 (gB.keep (σ' := SA) (by omega) fun a ha _ => kSA a ha) (nb := SB.next) (by_ := 32) (t := true) (x := (n, ⟨v2, hv2.1⟩)) (by decide) (by rw [hSA]; simp [rwI]) (fun e => by have := hblt _ e; omega) (by rw [hits.1, his]; omega) (by rw [hits.1, his]; omega)
    rw [hits.1, his] at a1 a2
    rw [hSA] at a1
    have htb : b ≠ some (σ.next + 1 + 1) := fun e => by have := hb16 _ e; omega
    have c11 : σ11.mem.get (σ.next + 1 + 1) = some (.cells 15 xs) := (a4 _ (by omega) htb).trans ((kSA _ (by omega)).trans cSB)
    rw [hSB] at a1
    simp only at a1
    have e3 : ¬ σ.next + 1 + 1 = σ17.next := by omega
    have e4 : ¬ σ17.next = σ18.next := by omega
    have z6 : xs[14]'(by omega) = iv := by rw [List.getElem?_eq_getElem (by omega)] at z5; exact Option.some.inj z5
    simp [lk_cons, m18, e3, e4, c18, z6, hv2, fillL, repL, storeL, ↓a1, c11, xsl, w1]
    have nSA' : SA.next = σ18.next + 1 := by omega
    rw [nSA'] at a2 a3
    have kB : ∀ a, a < σ16.next → a ≠ σ.next + 1 + 1 → b ≠ some a → (σ11.mem.set (σ.next + 1 + 1) (.cells 15 (xs.set 14 (.sl (σ18.next + 1) 0 (i + 1) (i + 1) false)))).get a = σ18.mem.get a := fun a ha h1 h2 => by
      simp [h1]
      rw [a4 a (by omega) h2, kSA a (by omega), kSB a ha]
    have hbc : ∀ a, a < σ15.next → b ≠ some a := fun a ha e => by have := hb16 _ e; omega
    refine ⟨N - (i + 1), by omega, i + 1, st18, .sl (σ18.next + 1) 0 (i + 1) (i + 1) false, its ++ [(n, ⟨v2, hv2.1⟩)], some (σ18.next + 1), is ++ [(n, d2)], rfl, by omega, by simp [his], ?_, ?_, ?_, ?_, ?_, ?_, ?_, rfl⟩
    · refine x1.keep (by show σ18.next ≤ σ11.next; omega) fun a ha hac => ?_
      have h1 := hcl17 a hac
      have h2 : a < σ15.next := by
        rcases hac with rfl | hac
        · omega
        · have := hcl a hac; omega
      refine kB a (by omega) ?_ (hbc a h2)
      rcases hac with rfl | hac
      · omega
      · have := hcl a hac; omega
    · rw [show N - (i + 1) = j by omega]
      simp only [List.append_assoc]
      exact t18
    · simp [z4, show ¬ σ.next + 1 + 1 = σ18.next + 1 by omega]
    · refine a2.keep (by show σ11.next ≤ σ11.next; omega) fun a ha hab => ?_
      cases hab
      simp only [Mem.get_set, if_neg (show ¬ σ18.next + 1 = σ.next + 1 + 1 by omega)]
    · have hK16 : ∀ a, a < σ16.next → (c = some a ∨ σ15.next ≤ a) → a ≠ σ.next + 1 ∧ a ≠ σ.next + 1 + 1 := fun a _ hk => by
        rcases hk with hk | hk
        · have := hcl a hk; omega
        · omega
      have hF : Its ⟨σ11.mem.set (σ.next + 1 + 1) (.cells 15 (xs.set 14 (.sl (σ18.next + 1) 0 (i + 1) (i + 1) false))), σ11.next⟩ (fun a => c = some a ∨ σ15.next ≤ a) (some (σ18.next + 1)) its is := hits.keep (by show σ16.next ≤ σ11.next; omega) (fun a ha hk hb => by rw [kB a ha (hK16 a ha hk).2 hb, k18 a ha (hK16 a ha hk).1]) fun a ha e => by cases e; omega
      refine Its.snoc (hv := hv2.1) hF (x2.keep (by show σ18.next ≤ σ11.next; omega) fun a ha hac => ?_) fun z hz => ⟨.inl (hrd2 z hz), fun e => by cases e; have := hcl _ (hrd2 _ hz); omega⟩
      have := hcl a (hrd2 a hac)
      exact kB a (by omega) (by omega) (hbc a (by omega))
    · intro z hz; cases hz; omega
    · refine ⟨by show σ15.next ≤ σ11.next; omega, fun a ha h1 h2 => ?_⟩
      rw [kB a (by omega) h2 (hbc a ha), k18 a (by omega) h1]
      exact s16.keep a ha h1 h2
  have kS16 : ∀ a, a < σ.next + 3 → a ≠ σ.next + 1 → a ≠ σ.next + 1 + 1 → σ16.mem.get a = S.mem.get a := fun a ha h1 h2 => (s16.keep a (by omega) h1 h2).trans (k15 a h1 h2)
  have m16 := (kS16 σ.next (by omega) (by omega) (by omega)).trans mRes
  unfold noteCs at m16
  have rd16 : RdB σ16 dv d c' := rd15.keep n16 fun a ha hac => s16.keep a ha (by have := hcl a (hrd a hac); omega) (by have := hcl a (hrd a hac); omega)
  have key : (∃ m, st = .ok m ∧ res = .ok ({ X with items := is }, m)) ∨ ∃ e, st = .error e ∧ res = .error e := by
    rcases t16 with ⟨m, h1, h2⟩ | h
    · refine .inl ⟨m, h1, ?_⟩
      rcases he with ⟨rfl, _⟩ | ⟨_, h3⟩
      · have : N - i = 0 := by omega
        rw [this] at h2
        rw [h2]
        simp [pMany, pB, pR]
      · rw [h1] at h3; cases h3
    · exact .inr h
  have hex : (i < N ∧ e ≠ 0) ∨ i = N := by omega
  have gq : ∀ (ρ : St) (b : Blk), σ16.next ≤ ρ.next → (∀ a, a ≠ σ.next + 1 → ρ.mem.get a = σ16.mem.get a) → Grow σ ⟨ρ.mem.set σ.next b, ρ.next⟩ := fun ρ b h1 h2 => ⟨by show σ.next ≤ ρ.next; omega, fun a ha => by
    simp [show ¬ a = σ.next by omega]
    rw [h2 a (by omega), kS16 a (by omega) (by omega) (by omega), kS a ha]⟩
  rcases hex with hex | rfl
  case' inl =>
    obtain ⟨hlt, hne⟩ := hex
    have hlt' : (i : Int) < N := by omega
    have he' : ¬ (e : Int) = 0 := by omega
    simp [lk_cons, hlt, hlt', hm, he', hne]
  case' inr => simp [lk_cons]
  all_goals
    refine send_c h16 _ fun σ19 y1 y2 => ?_
    have m19 := (y2 σ.next (by omega)).trans m16
    have c19 := (y2 (σ.next + 1 + 1) (by omega)).trans c16
    rw [← hxs, ← hXc] at c19
    have o5 := rd16.one
    have o6 := hg.one
    rcases key with ⟨m, rfl, hr⟩ | ⟨e', rfl, hr⟩
    · by_cases hm0 : m = []
      · subst hm0
        simp [lk_cons, sEnd, m19, c19, storeL, fillL, o5, o6]
        rw [hXc]
        refine hQ _ 0 _ (.inr (.inr ⟨{ X with items := is }, dv, iv, c', hres.trans hr, rfl, ?_, ?_, ?_, rfl⟩)) (gq σ19 _ (by omega) y2)
        · rw [hXd]
          refine rd16.keep (by show σ16.next ≤ σ19.next; omega) fun a ha hac => ?_
          have := hcl a (hrd a hac)
          simp [show ¬ a = σ.next by omega]
          exact y2 a (by omega)
        · exact fun z hz => .inl (hrd z hz)
        · refine .inr ⟨its, b, hg.keep (by show σ16.next ≤ σ19.next; omega) fun a ha hab => ?_, fun z hz => .inr (by have := hb16 z hz; omega), ?_⟩
          · have := hb16 a hab
            simp [show ¬ a = σ.next by omega]
            exact y2 a (by omega)
          · refine (hits.keep (by show σ16.next ≤ σ19.next; omega) (fun a ha hk hb => ?_) fun _ _ e => e).mono fun a ha => ha.imp id fun h => by omega
            have hne : a ≠ σ.next ∧ a ≠ σ.next + 1 := by
              rcases hk with hk | hk
              · have := hcl a hk; omega
              · omega
            simp [hne.1]
            exact y2 a hne.2
      · simp [lk_cons, sEnd, hm0, m19, storeL, fillL]
        exact hQ _ 5 _ (.inr (.inl ⟨_, m, hres.trans hr, hm0, rfl, rfl⟩)) (gq σ19 _ (by omega) y2)
    · have h0 := pNote_err (hres.trans hr)
      have h0' : ¬ (e' : Int) = 0 := by omega
      simp [lk_cons, sEnd, h0, h0', m19, storeL, fillL]
      exact hQ _ e' _ (.inl ⟨hres.trans hr, rfl⟩) (gq σ19 _ (by omega) y2)
end Go.Proofs.YticefdfhcahlfaaDoor.AM

/- Notes: bytes with bits turned. -/
namespace Go.Proofs.YticefdfhcahlfaaDoor.AM
open Go.RowKit
set_option maxRecDepth 100000
set_option linter.unusedVariables false
set_option linter.unusedSimpArgs false

/-- A slice of ints that does not change. -/
def IntsOf (v : AVal) (xs : List Int) : Prop := v = .nilsl ∧ xs = [] ∨ ∃ t, v = .isl (xs.map fun z => .int .i64 z) xs.length t
theorem IntsOf.len {v : AVal} {xs : List Int} (h : IntsOf v xs) (ρ : St) : evalV ρ (.len 1 v) = some (i64 xs.length, ρ) := by
  rcases h with ⟨rfl, rfl⟩ | ⟨t, rfl⟩ <;> simp
theorem IntsOf.at {v : AVal} {xs : List Int} (h : IntsOf v xs) {i : Nat} {z : Int} (hx : xs[i]? = some z) : ∃ p, (∀ ρ, evalV ρ (.idxAddr 1 v (.int .i64 (i : Int))) = some (p, ρ)) ∧ ∀ ρ, evalV ρ (.ld1 p) = some (.int .i64 z, ρ) := by
  rcases h with ⟨rfl, rfl⟩ | ⟨t, rfl⟩
  · simp at hx
  · have hi := (List.getElem?_eq_some_iff.1 hx).1
    refine ⟨_, fun ρ => by simp [hi]; rfl, fun ρ => ?_⟩
    have : ((xs.map fun z => AVal.int .i64 z).drop i).take 1 = [.int .i64 z] := by
      rw [← List.map_drop, ← List.map_take, List.drop_eq_getElem_cons hi, (List.getElem?_eq_some_iff.1 hx).2]; simp
    simp [this]
theorem bytesV_set (L : List UInt8) (k : Nat) (y : UInt8) : (bytesV L).set k (.int .u8 (y.toNat : Int)) = bytesV (L.set k y) := by
  rw [bytesV, bytesV, List.map_set]
theorem shl8u (r : Nat) : ∃ s : Int, ashift .shl .u8 1 (r : Int) = some (.int .u8 s) := by
  have h1 : ¬ ((r : Int) < 0) := by omega
  simp only [ashift, if_neg h1]
  exact ⟨_, rfl⟩
theorem xor8u (a b : Int) : ∃ y : UInt8, abits .xor .u8 a b = some (.int .u8 (y.toNat : Int)) := by
  simp only [abits]
  refine ⟨UInt8.ofNat (BitVec.ofInt IntKind.u8.bits a ^^^ BitVec.ofInt IntKind.u8.bits b).toNat, ?_⟩
  congr 2
/-- Bytes in a block of their own, perhaps with others behind them. -/
def TB (lo : Nat) (σ : St) (v : AVal) (n : Nat) : Prop := ∃ o cap t L, v = .sl o 0 n cap t ∧ o < σ.next ∧ lo ≤ o ∧ σ.mem.get o = some (.cells 1 (bytesV L)) ∧ n ≤ cap ∧ n ≤ L.length
def TuJ (av bv : AVal) (N : Nat) (S : St) (mm : Nat) (rg : Regs) (σ' : St) : Prop := ∃ (i n : Nat) (v : AVal), mm = 4 - i ∧ i ≤ 4 ∧ n ≤ N ∧ TB S.next σ' v n ∧ Grow S σ' ∧ rg = [(1, av), (2, bv), (7, v), (8, i64 i)]
set_option maxHeartbeats 1000000 in
theorem turned_c {σ : St} {b av bv : AVal} {l bl : List UInt8} {c : Option Nat} {xs : List Int} (hb : RdB σ b l c) (ha : IntsOf av xs) (hc : BytesOf bv bl) (hl : l.length ≤ 100000) (Q : AVal → St → Prop)
    (hQ : ∀ v l' c' σ', RdB σ' v l' c' → l'.length ≤ l.length → (∀ y, c' = some y → σ.next ≤ y) → Grow σ σ' → Q v σ') : ACall Tryd.prog 16 [b, av, bv] σ Q := by
  refine ACall.of_compF hmx (fun a w => Tryd.call16 a w) Tryd.func16 cf16 (n := 3) (by decide) rfl ?_
  obtain ⟨o1, o2⟩ := hb.one
  have halen := ha.len
  have hblen := hc.len
  obtain ⟨S1, hS1⟩ : ∃ S1 : St, S1 = ⟨σ.mem.set σ.next (.cells 1 []), σ.next + 1⟩ := ⟨_, rfl⟩
  have nS1 : S1.next = σ.next + 1 := by rw [hS1]
  have kS1 : ∀ a, a < σ.next → S1.mem.get a = σ.mem.get a := fun a ha => by rw [hS1]; simp [show ¬ a = σ.next by omega]
  have hsrc := (hb.keep (σ' := S1) (by omega) fun a ha _ => kS1 a ha).src
  have g0 : GS rwB S1 (.sl σ.next 0 0 0 true) [] (some σ.next) := .inr ⟨σ.next, true, rfl, rfl, by omega, by rw [hS1]; simp [rwsB, bytesV]⟩
  obtain ⟨v', σ2, b', e1, e2, e3, e4, e5⟩ := gs_appN g0 (by_ := 1) (by decide) hsrc (by simp; omega) (by simp; omega)
  rw [hS1] at e1
  simp [ac16, rs16, lk_cons, repL, fillL, ↓e1]
  have hlo : ∀ y, b' = some y → σ.next ≤ y := fun y hy => by rcases e3 with e | e <;> rw [e] at hy <;> cases hy <;> omega
  obtain ⟨o, ho⟩ : ∃ o, b' = some o := by rcases e3 with e | e <;> exact ⟨_, e⟩
  have g2 : Grow σ σ2 := ⟨by omega, fun a ha => (e5 a (by omega) (fun e => by cases e; omega)).trans (kS1 a ha)⟩
  simp only [List.nil_append] at e2
  have tb : TB σ.next σ2 v' l.length := by
    rcases e2 with ⟨_, _, h⟩ | ⟨o2, t, h1, h2, h3, h4⟩
    · rw [h] at ho; cases ho
    · exact ⟨o2, _, t, l, h2, h3, hlo _ h1, by rw [h4, rwsB], Nat.le_refl _, Nat.le_refl _⟩
  refine wp_loop (TuJ av bv l.length σ) 4 ?_ ?_
  · exact ⟨0, l.length, v', rfl, by omega, Nat.le_refl _, tb, g2, by simp [lk_cons]⟩
  rintro mm rg σ3 ⟨i, n, v, rfl, hi, hn, ⟨o, cap, t, L, rfl, ho, hol, hm, hnc, hnL⟩, g3, rfl⟩
  have gl : (bytesV L).length = L.length := bytesV_len L
  by_cases hgo : i < xs.length ∧ i < bl.length ∧ i < 4 ∧ 0 < n
  · obtain ⟨c1, c2, c3, c4⟩ := hgo
    have c1' : (i : Int) < xs.length := by omega
    have c2' : (i : Int) < bl.length := by omega
    have c3' : (i : Int) < 4 := by omega
    have c4' : (0 : Int) < n := by omega
    obtain ⟨z, hz⟩ : ∃ z, xs[i]? = some z := ⟨_, List.getElem?_eq_getElem c1⟩
    obtain ⟨y, hy⟩ : ∃ y, bl[i]? = some y := ⟨_, List.getElem?_eq_getElem c2⟩
    obtain ⟨p, p1, p2⟩ := ha.at hz
    obtain ⟨q, q1, q2⟩ := (RdB.ofI hc σ3).at hy rfl
    have q2 := q2 σ3 (by simp)
    obtain ⟨w, hw⟩ : ∃ w : Nat, IntKind.u64.wrap z = (w : Int) ∧ w < 18446744073709551616 := by
      refine ⟨(IntKind.u64.wrap z).toNat, ?_, ?_⟩ <;> (simp only [IntKind.wrap, IntKind.bits, IntKind.signed]; simp; omega)
    have w0 : IntKind.u64.wrap (n : Int) = n := by rw [IntWalk.u64_in] <;> omega
    have w1 : IntKind.i64.wrap ((i : Int) + 1) = ((i + 1 : Nat) : Int) := by rw [IntWalk.i64_in] <;> omega
    have n0 : ¬ n = 0 := by omega
    obtain ⟨k, hk⟩ : ∃ k, w % n = k := ⟨_, rfl⟩
    have hkn : k < n := by rw [← hk]; exact Nat.mod_lt _ c4
    have tm : (w : Int).tmod n = (k : Int) := by rw [← hk]; exact (Int.ofNat_tmod w n).symm
    have wk : IntKind.i64.wrap (k : Int) = k := by rw [IntWalk.i64_in] <;> omega
    have wk1 : IntKind.i64.wrap ((k : Int) + 1) = ((k + 1 : Nat) : Int) := by rw [IntWalk.i64_in] <;> omega
    obtain ⟨r, hr⟩ : ∃ r, y.toNat % 9 = r := ⟨_, rfl⟩
    have hr9 : r < 9 := by rw [← hr]; exact Nat.mod_lt _ (by decide)
    have tr : (y.toNat : Int).tmod 9 = (r : Int) := by rw [← hr]; exact (Int.ofNat_tmod y.toNat 9).symm
    obtain ⟨x, hx⟩ : ∃ x, L[k]? = some x := ⟨_, List.getElem?_eq_getElem (by omega)⟩
    have hbx : (bytesV L)[k]? = some (.int .u8 (x.toNat : Int)) := by simp [bytesV, hx]
    have kc1 : k ≤ cap := by omega
    have kc2 : k + 1 ≤ n := by omega
    have e9 : ((k : Int) + 1).toNat = k + 1 := by omega
    have e10 : (0 : Int) ≤ (k : Int) + 1 := by omega
    obtain ⟨s, hs⟩ := shl8u r
    obtain ⟨y2, hy2⟩ := xor8u (x.toNat : Int) s
    have hkL : k < L.length := by omega
    have hkL1 : k + 1 ≤ L.length := by omega
    have hkL2 : k ≤ L.length := by omega
    have hb2 : (bytesV L)[k]'(by rw [gl]; exact hkL) = .int .u8 (x.toNat : Int) := by rw [List.getElem?_eq_getElem (by rw [gl]; exact hkL)] at hbx; exact Option.some.inj hbx
    have mo : ∀ σ' : St, Grow σ3 σ' → Grow σ σ' := fun σ' h => g3.trans h
    by_cases h8 : r = 8
    · subst h8
      by_cases hz0 : n - (k + 1) = 0
      · simp [lk_cons, ↓halen, ↓hblen, c1, c1', c2, c2', c3, c3', c4, c4', ↓p1, ↓p2, ↓q1, ↓q2, hw.1, w0, n0, tm, wk, wk1, tr, asliceSl, bnd, optM, kc1, kc2, hm, e9, e10, hnc, srcL, gl, hz0, hkL, hkL1, hkL2, storeL, w1]
        have gW : ∀ B : Blk, Grow σ ⟨σ3.mem.set o B, σ3.next⟩ := fun B => ⟨g3.1, fun a ha => by simp [show ¬ a = o by omega]; exact g3.2 a ha⟩
        exact ⟨4 - (i + 1), by omega, i + 1, k, _, rfl, by omega, by omega, ⟨o, k, true, L, rfl, ho, hol, by simp, Nat.le_refl _, hkL2⟩, gW _, rfl⟩
      · have hz1 : ¬ k + (n - (k + 1)) ≤ k := by omega
        have hz2 : k + (n - (k + 1)) ≤ 140737488355328 := by omega
        have hz3 : k + (n - (k + 1)) ≤ 9223372036854775807 := by omega
        simp [lk_cons, ↓halen, ↓hblen, c1, c1', c2, c2', c3, c3', c4, c4', ↓p1, ↓p2, ↓q1, ↓q2, hw.1, w0, n0, tm, wk, wk1, tr, asliceSl, bnd, optM, kc1, kc2, hm, e9, e10, hnc, hnL, srcL, gl, hz0, hz1, hz2, hz3, hkL, hkL1, hkL2, w1]
        refine ⟨4 - (i + 1), by omega, i + 1, _, _, rfl, by omega, by omega, ⟨σ3.next, _, false, L.take k ++ (L.drop (k + 1)).take (n - (k + 1)), rfl, Nat.lt_succ_self _, g3.1, ?_, Nat.le_refl _, ?_⟩, mo _ ⟨Nat.le_succ _, fun a ha => by simp [show ¬ a = σ3.next by omega]⟩, rfl⟩
        · simp [bytesV, List.map_take, List.map_drop]
        · simp; omega
    · have h8' : ¬ (r : Int) = 8 := by omega
      simp [lk_cons, ↓halen, ↓hblen, c1, c1', c2, c2', c3, c3', c4, c4', ↓p1, ↓p2, ↓q1, ↓q2, hw.1, w0, n0, tm, wk, wk1, tr, h8, h8', hkn, hm, hb2, hs, hy2, storeL, gl, hkL, hkL1, w1]
      have gW : ∀ B : Blk, Grow σ ⟨σ3.mem.set o B, σ3.next⟩ := fun B => ⟨g3.1, fun a ha => by simp [show ¬ a = o by omega]; exact g3.2 a ha⟩
      refine ⟨4 - (i + 1), by omega, i + 1, n, _, rfl, by omega, hn, ⟨o, cap, t, L.set k y2, rfl, ho, hol, ?_, hnc, by simp; exact hnL⟩, gW _, rfl⟩
      simp [bytesV_set]
  have hfin : Q (.sl o 0 n cap t) σ3 := by
    refine hQ _ (L.take n) (some o) σ3 (.inr ⟨o, 0, cap, t, bytesV L, rfl, by simp; omega, by simp; omega, ho, hm, by simp [gl]; omega, ?_⟩) (by simp; omega) (fun y hy => by cases hy; exact hol) g3
    simp [bytesV, List.map_take, Nat.min_eq_left hnL]
  by_cases c1 : i < xs.length
  · have c1' : (i : Int) < xs.length := by omega
    by_cases c2 : i < bl.length
    · have c2' : (i : Int) < bl.length := by omega
      by_cases c3 : i < 4
      · have c3' : (i : Int) < 4 := by omega
        have : n = 0 := by omega
        subst this
        simp [lk_cons, ↓halen, ↓hblen, c1, c1', c2, c2', c3, c3']
        exact hfin
      · have c3' : ¬ (i : Int) < 4 := by omega
        simp [lk_cons, ↓halen, ↓hblen, c1, c1', c2, c2', c3, c3']
        exact hfin
    · have c2' : ¬ (i : Int) < bl.length := by omega
      simp [lk_cons, ↓halen, ↓hblen, c1, c1', c2, c2']
      exact hfin
  · have c1' : ¬ (i : Int) < xs.length := by omega
    simp [lk_cons, ↓halen, ↓hblen, c1, c1']
    exact hfin
end Go.Proofs.YticefdfhcahlfaaDoor.AM

/- CodecNotes. -/
namespace Go.Proofs.YticefdfhcahlfaaDoor.AM
open Go.RowKit
set_option maxRecDepth 100000
set_option linter.unusedVariables false
set_option linter.unusedSimpArgs false

/-- What Tell gives, in one. -/
def TnRel (σ' : St) (x : NoteV) (v : AVal) (c : Nat) : Prop := (c = 2 ∧ v = .nilsl ∧ (x.code < 0 ∨ 255 < x.code)) ∨ (c = 3 ∧ v = .nilsl ∧ ¬ (x.code < 0 ∨ 255 < x.code) ∧ 4096 < (noteB x).length) ∨ (c = 0 ∧ (∃ b, RdB σ' v (noteB x) b) ∧ ¬ (x.code < 0 ∨ 255 < x.code) ∧ (noteB x).length ≤ 4096)
theorem tell_k {σ : St} {x : NoteV} {dv iv : AVal} (ok : x.Ok) (fw : x.Few) (hd : BytesOf dv x.data) (hi : ItemsOf iv x.items) (Q : AVal → St → Prop)
    (hQ : ∀ v c σ', TnRel σ' x v c → Grow σ σ' → Q (.tup [v, i64 (c : Nat)]) σ') : ACall Tryd.prog 14 [.agg (noteC x dv iv)] σ Q :=
  tell_c ok fw hd hi Q (fun σ' g h => hQ _ 2 σ' (.inl ⟨rfl, rfl, h⟩) g) (fun σ' g h k => hQ _ 3 σ' (.inr (.inl ⟨rfl, rfl, h, k⟩)) g) fun v b' σ' h _ g k l => hQ v 0 σ' (.inr (.inr ⟨rfl, ⟨b', RdB.ofGS h⟩, k, l⟩)) g
theorem note_k {σ : St} {x : NoteV} {dv iv : AVal} (ok : x.Ok) (fw : x.Few) (hd : BytesOf dv x.data) (hi : ItemsOf iv x.items) (he : ∀ y ∈ x.items, y.1 < 18446744073709551616) (Q : AVal → St → Prop)
    (hQ : ∀ v c σ', TnRel σ' x v c → Grow σ σ' → Q (.tup [v, i64 (c : Nat)]) σ') : ACall Tryd.prog 15 [.agg (noteC x dv iv)] σ Q :=
  note_c ok fw hd hi he Q (fun σ' g h => hQ _ 2 σ' (.inl ⟨rfl, rfl, h⟩) g) (fun σ' g h k => hQ _ 3 σ' (.inr (.inl ⟨rfl, rfl, h, k⟩)) g) fun v b' σ' h _ g k l => hQ v 0 σ' (.inr (.inr ⟨rfl, ⟨b', RdB.ofGS h⟩, k, l⟩)) g
theorem RdB.nil (σ : St) : RdB σ .nilsl [] none := RdB.ofI (.inl ⟨rfl, rfl⟩) σ
theorem RdB.grow {σ σ' : St} {v : AVal} {l : List UInt8} {c : Option Nat} (h : RdB σ v l c) (g : Grow σ σ') : RdB σ' v l c := h.keep g.1 fun a ha _ => g.2 a ha
theorem ItR.grow {σ σ' : St} {K : Nat → Prop} {v : AVal} {xs : List (Nat × List UInt8)} (h : ItR σ K v xs) (g : Grow σ σ') : ItR σ' K v xs := h.keep g.1 fun a ha _ => g.2 a ha
theorem tn_same {σ1 σ2 : St} {x : NoteV} {v w : AVal} {c d : Nat} (h : TnRel σ1 x v c) (k : TnRel σ2 x w d) (g : Grow σ1 σ2) : c = d ∧ ∃ l b b', RdB σ2 v l b ∧ RdB σ2 w l b' ∧ l.length ≤ 4096 := by
  rcases h with ⟨rfl, rfl, h⟩ | ⟨rfl, rfl, h, h2⟩ | ⟨rfl, ⟨b, hb⟩, h, h2⟩ <;> rcases k with ⟨rfl, rfl, k⟩ | ⟨rfl, rfl, k, k2⟩ | ⟨rfl, ⟨b', kb⟩, k, k2⟩ <;> first | exact absurd h k | exact absurd k h | omega | skip
  · exact ⟨rfl, [], none, none, RdB.nil _, RdB.nil _, by simp⟩
  · exact ⟨rfl, [], none, none, RdB.nil _, RdB.nil _, by simp⟩
  · exact ⟨rfl, _, b, b', hb.grow g, kb, h2⟩
def note0 : NoteV := ⟨0, 0, false, 0, zN7, ⟨#[]⟩, ⟨#[]⟩, [], []⟩
theorem note0_c : noteCs = noteC note0 .nilsl .nilsl := rfl
theorem pNote_items {l r : List UInt8} {x : NoteV} (h : pNote l = .ok (x, r)) : x.items.length < 65536 := by
  obtain ⟨k, l1, _, h⟩ := pB_inv h
  obtain ⟨t, l2, _, h⟩ := pB_inv h
  obtain ⟨y, l3, _, h⟩ := pB_inv h
  obtain ⟨c, l4, _, h⟩ := pB_inv h
  obtain ⟨ns, l5, h5, h⟩ := pB_inv h
  obtain ⟨nm, l6, _, h⟩ := pB_inv h
  obtain ⟨ky, l7, _, h⟩ := pB_inv h
  obtain ⟨d, l8, _, h⟩ := pB_inv h
  obtain ⟨n, l9, h9, h⟩ := pB_inv h
  obtain ⟨is, l10, h10, h⟩ := pB_inv h
  cases h
  have h11 := (pNum_len h9).2
  have : is.length = n := (pMany_len (fun l x r h => by
    obtain ⟨n, m, h1, h⟩ := pB_inv h
    obtain ⟨d, m2, h2, h⟩ := pB_inv h
    cases h
    have := (pNum_len h1).1
    have := (pBytes_len h2).1
    omega) n _ _ _ h10).2
  simp only at this ⊢
  omega
/-- What was heard is a note. -/
theorem NtRel.agg {σ : St} {K : Nat → Prop} {l : List UInt8} {gv : AVal} {c : Nat} (h : NtRel σ K l gv c) : ∃ x dv iv b, gv = .agg (noteC x dv iv) ∧ RdB σ dv x.data b ∧ ItR σ K iv x.items ∧ x.nums.length = 7 ∧ x.items.length < 65536 := by
  rcases h with ⟨_, rfl⟩ | ⟨_, _, _, _, rfl, _⟩ | ⟨x, dv, iv, b, h1, rfl, h2, h3, h4, rfl⟩
  · exact ⟨note0, .nilsl, .nilsl, none, by rw [note0_c], RdB.nil _, .inl (.inl ⟨rfl, rfl⟩), rfl, by decide⟩
  · exact ⟨note0, .nilsl, .nilsl, none, by rw [note0_c], RdB.nil _, .inl (.inl ⟨rfl, rfl⟩), rfl, by decide⟩
  · exact ⟨x, dv, iv, b, rfl, h2, h4, pNote_nums h1, pNote_items h1⟩
/-- Two answers agree. -/
theorem nt_same {σ1 σ2 : St} {K K' : Nat → Prop} {l : List UInt8} {gv gw : AVal} {c d : Nat} (h : NtRel σ1 K l gv c) (k : NtRel σ2 K' l gw d) (g : Grow σ1 σ2) : c = d ∧ ∃ x dv iv ev jv b b', gv = .agg (noteC x dv iv) ∧ gw = .agg (noteC x ev jv) ∧ RdB σ2 dv x.data b ∧ RdB σ2 ev x.data b' ∧ ItR σ2 K iv x.items ∧ ItR σ2 K' jv x.items ∧ x.nums.length = 7 ∧ x.items.length < 65536 := by
  rcases h with ⟨h1, rfl⟩ | ⟨x, l', h1, h2, rfl, rfl⟩ | ⟨x, dv, iv, b, h1, rfl, h2, h3, h4, rfl⟩ <;> rcases k with ⟨k1, rfl⟩ | ⟨y, m', k1, k2, rfl, rfl⟩ | ⟨y, ev, jv, b', k1, rfl, k2, k3, k4, rfl⟩ <;> rw [h1] at k1 <;> cases k1
  · exact ⟨rfl, note0, .nilsl, .nilsl, .nilsl, .nilsl, none, none, by rw [note0_c], by rw [note0_c], RdB.nil _, RdB.nil _, .inl (.inl ⟨rfl, rfl⟩), .inl (.inl ⟨rfl, rfl⟩), rfl, by decide⟩
  · exact ⟨rfl, note0, .nilsl, .nilsl, .nilsl, .nilsl, none, none, by rw [note0_c], by rw [note0_c], RdB.nil _, RdB.nil _, .inl (.inl ⟨rfl, rfl⟩), .inl (.inl ⟨rfl, rfl⟩), rfl, by decide⟩
  · exact absurd rfl h2
  · exact absurd rfl k2
  · exact ⟨rfl, x, dv, iv, ev, jv, b, b', rfl, rfl, h2.grow g, k2, h4.grow g, k4, pNote_nums h1, pNote_items h1⟩
end Go.Proofs.YticefdfhcahlfaaDoor.AM

/- Notes as arguments. -/
namespace Go.Proofs.YticefdfhcahlfaaDoor.AM
open Go.RowKit
set_option maxRecDepth 100000
set_option linter.unusedVariables false
set_option linter.unusedSimpArgs false

def U8Arg (x : List AVal) : Prop := ∃ n, x = [.int .u8 n] ∧ (Lit.int .u8 n).wf = true
def BytesArg (b : List AVal) : Prop := b = [.nilsl] ∨ ∃ xs : List (List AVal), b = [.isl xs.flatten xs.length false] ∧ (∀ x ∈ xs, x.length = 1 ∧ U8Arg x) ∧ xs.length ≤ 9223372036854775807 ∧ xs.length * 1 ≤ 140737488351232
def U64Arg (x : List AVal) : Prop := ∃ n, x = [.int .u64 n] ∧ (Lit.int .u64 n).wf = true
def ItemArg (x : List AVal) : Prop := ∃ a b, x = a ++ b ∧ U64Arg a ∧ BytesArg b
def ItemsArg (b : List AVal) : Prop := b = [.nilsl] ∨ ∃ xs : List (List AVal), b = [.isl xs.flatten xs.length false] ∧ (∀ x ∈ xs, x.length = 2 ∧ ItemArg x) ∧ xs.length ≤ 9223372036854775807 ∧ xs.length * 32 ≤ 140737488351232
theorem bytesArg {b : List AVal} (h : BytesArg b) : ∃ d l, b = [d] ∧ BytesOf d l ∧ l.length ≤ 140737488355328 := by
  have hd : ∃ d, b = [d] := by
    rcases h with h | ⟨xs, h, _⟩ <;> exact ⟨_, h⟩
  obtain ⟨d, rfl⟩ := hd
  obtain ⟨l, h1, h2⟩ := bytes_arg (ok := U8Arg) (fun x hx => hx) h
  exact ⟨d, l, rfl, h1, by omega⟩
theorem itemsCells : ∀ xs : List (List AVal), (∀ x ∈ xs, x.length = 2 ∧ ItemArg x) → ∃ ys : List (Nat × List UInt8), ICells xs.flatten ys ∧ ys.length = xs.length ∧ (∀ y ∈ ys, y.1 < 18446744073709551616) ∧ ∀ y ∈ ys, y.2.length ≤ 140737488355328
  | [], _ => ⟨[], trivial, rfl, by simp, by simp⟩
  | x :: xs, h => by
    obtain ⟨ys, h1, h2, h3, h4⟩ := itemsCells xs (fun y hy => h y (by simp [hy]))
    obtain ⟨_, a, b, rfl, ⟨n, rfl, hw⟩, hb⟩ := h x (by simp)
    obtain ⟨d, l, rfl, hd, hl⟩ := bytesArg hb
    obtain ⟨k, rfl, hk⟩ := wf_u64 hw
    refine ⟨(k, l) :: ys, ⟨rfl, hd, h1⟩, by simp [h2], fun y hy => ?_, fun y hy => ?_⟩
    · rcases List.mem_cons.1 hy with rfl | hy
      · exact hk
      · exact h3 y hy
    · rcases List.mem_cons.1 hy with rfl | hy
      · exact hl
      · exact h4 y hy
theorem itemsArg {b : List AVal} (h : ItemsArg b) : ∃ v ys, b = [v] ∧ ItemsOf v ys ∧ (∀ y ∈ ys, y.1 < 18446744073709551616) ∧ ∀ y ∈ ys, y.2.length ≤ 140737488355328 := by
  rcases h with h | ⟨xs, h, hx, _⟩
  · exact ⟨_, [], h, .inl ⟨rfl, rfl⟩, by simp, by simp⟩
  · obtain ⟨ys, h1, h2, h3, h4⟩ := itemsCells xs hx
    exact ⟨_, ys, h, .inr ⟨_, _, _, rfl, h2.symm, h1⟩, h3, h4⟩
def I64Arg (x : List AVal) : Prop := ∃ n, x = [.int .i64 n] ∧ (Lit.int .i64 n).wf = true
def StrArg (x : List AVal) : Prop := ∃ s : ByteArray, x = [.str s] ∧ s.size ≤ 140737488351232
def PairArg (x : List AVal) : Prop := (fun x => ∃ a b, x = a ++ b ∧ U64Arg a ∧ U64Arg b) x
def IntsArg (b : List AVal) : Prop := b = [.nilsl] ∨ ∃ xs : List (List AVal), b = [.isl xs.flatten xs.length false] ∧ (∀ x ∈ xs, x.length = 1 ∧ I64Arg x) ∧ xs.length ≤ 9223372036854775807 ∧ xs.length * 8 ≤ 140737488351232
theorem intsArg {v : AVal} (h : IntsArg [v]) : ∃ xs, IntsOf v xs := by
  rcases h with h | ⟨xs, h, hx, _⟩
  · cases h; exact ⟨[], .inl ⟨rfl, rfl⟩⟩
  · cases h
    have : ∀ xs : List (List AVal), (∀ x ∈ xs, x.length = 1 ∧ I64Arg x) → ∃ l : List Int, xs.flatten = (l.map fun z => .int .i64 z) ∧ l.length = xs.length := by
      intro xs
      induction xs with
      | nil => intro _; exact ⟨[], rfl, rfl⟩
      | cons x xs ih =>
        intro h
        obtain ⟨l, h1, h2⟩ := ih (fun y hy => h y (by simp [hy]))
        obtain ⟨n, rfl, _⟩ := (h x (by simp)).2
        exact ⟨n :: l, by simp [h1], by simp [h2]⟩
    obtain ⟨l, h1, h2⟩ := this xs hx
    exact ⟨l, .inr ⟨false, by rw [h1, h2]⟩⟩
def NoteArg (us : List AVal) : Prop := (fun x => ∃ a b, x = a ++ b ∧ U8Arg a ∧ (fun x => ∃ a b, x = a ++ b ∧ U8Arg a ∧ (fun x => ∃ a b, x = a ++ b ∧ (∃ q, a = [.bool q]) ∧ (fun x => ∃ a b, x = a ++ b ∧ I64Arg a ∧ (fun x => ∃ a b, x = a ++ b ∧ U64Arg a ∧ (fun x => ∃ a b, x = a ++ b ∧ U64Arg a ∧ (fun x => ∃ a b, x = a ++ b ∧ U64Arg a ∧ (fun x => ∃ a b, x = a ++ b ∧ U64Arg a ∧ (fun x => ∃ a b, x = a ++ b ∧ U64Arg a ∧ (fun x => ∃ a b, x = a ++ b ∧ PairArg a ∧ (fun x => ∃ a b, x = a ++ b ∧ StrArg a ∧ (fun x => ∃ a b, x = a ++ b ∧ StrArg a ∧ (fun x => ∃ a b, x = a ++ b ∧ BytesArg a ∧ ItemsArg b) b) b) b) b) b) b) b) b) b) b) b) b) us
theorem noteArg {us : List AVal} (h : NoteArg us) : ∃ (x : NoteV) (dv iv : AVal), us = noteC x dv iv ∧ x.Ok ∧ (∀ y ∈ x.items, y.1 < 18446744073709551616) ∧ BytesOf dv x.data ∧ ItemsOf iv x.items := by
  obtain ⟨_, _, rfl, ⟨a1, rfl, w1⟩, _, _, rfl, ⟨a2, rfl, w2⟩, _, _, rfl, ⟨a3, rfl⟩, _, _, rfl, ⟨a4, rfl, w4⟩, _, _, rfl, ⟨n1, rfl, v1⟩, _, _, rfl, ⟨n2, rfl, v2⟩, _, _, rfl, ⟨n3, rfl, v3⟩, _, _, rfl, ⟨n4, rfl, v4⟩, _, _, rfl, ⟨n5, rfl, v5⟩, _, _, rfl, ⟨_, _, rfl, ⟨n6, rfl, v6⟩, ⟨n7, rfl, v7⟩⟩, _, _, rfl, ⟨nm, rfl, _⟩, _, _, rfl, ⟨ky, rfl, _⟩, _, _, rfl, hd, hi⟩ := h
  obtain ⟨dv, d, rfl, hd, _⟩ := bytesArg hd
  obtain ⟨iv, its, rfl, hi, he, _⟩ := itemsArg hi
  obtain ⟨a1, rfl, w1'⟩ := wf_u8 w1
  obtain ⟨a2, rfl, w2'⟩ := wf_u8 w2
  obtain ⟨n1, rfl, v1'⟩ := wf_u64 v1
  obtain ⟨n2, rfl, v2'⟩ := wf_u64 v2
  obtain ⟨n3, rfl, v3'⟩ := wf_u64 v3
  obtain ⟨n4, rfl, v4'⟩ := wf_u64 v4
  obtain ⟨n5, rfl, v5'⟩ := wf_u64 v5
  obtain ⟨n6, rfl, v6'⟩ := wf_u64 v6
  obtain ⟨n7, rfl, v7'⟩ := wf_u64 v7
  refine ⟨⟨a1, a2, a3, a4, [n1, n2, n3, n4, n5, n6, n7], nm, ky, d, its⟩, dv, iv, rfl, ⟨w1', w2', rfl, fun n hn => ?_⟩, he, hd, hi⟩
  simp at hn
  rcases hn with rfl | rfl | rfl | rfl | rfl | rfl | rfl <;> assumption
end Go.Proofs.YticefdfhcahlfaaDoor.AM

/- CodecNotes: the law. -/
namespace Go.Proofs.YticefdfhcahlfaaDoor.AM
open Go.RowKit
set_option maxRecDepth 100000
set_option linter.unusedVariables false
set_option linter.unusedSimpArgs false

theorem storeL_at : ∀ (zs a old b : List AVal), old.length = zs.length → storeL (a ++ old ++ b) a.length zs = a ++ zs ++ b
  | [], a, old, b, h => by
    have : old = [] := List.eq_nil_of_length_eq_zero h
    subst this; simp [storeL]
  | z :: zs, a, [], b, h => by simp at h
  | z :: zs, a, o :: old, b, h => by
    have ih := storeL_at zs (a ++ [z]) old b (by simpa using h)
    simp only [storeL]
    rw [show (a ++ o :: old ++ b).set a.length z = (a ++ [z]) ++ old ++ b by simp]
    simpa using ih
theorem storeL_all {zs old : List AVal} (h : old.length = zs.length) : storeL old 0 zs = zs := by
  simpa using storeL_at zs [] old [] h
def NlJ (x : NoteV) (bv av tv iv cv : AVal) (S : St) (mm : Nat) (rg : Regs) (σ' : St) : Prop := ∃ i, mm = x.items.length - i ∧ i ≤ x.items.length ∧ (∀ y ∈ x.items.take i, y.2.length ≤ 1000) ∧ Grow S σ' ∧ rg = [(1, bv), (2, av), (3, tv), (4, cv), (5, .ptr 0 0), (56, iv), (57, i64 x.items.length), (58, i64 i)]
def NoJ (bv av tv : AVal) (o : Nat) (cs : List AVal) (mm : Nat) (rg : Regs) (σ' : St) : Prop := ∃ i, mm = 2 - i ∧ i ≤ 2 ∧ (o < σ'.next ∧ σ'.mem.get o = some (.cells 15 cs)) ∧ rg = [(1, bv), (2, av), (3, tv), (73, .sl o 0 2 2 true), (74, i64 2), (75, i64 i)]
def NjJ (bv av tv : AVal) (o : Nat) (cs : List AVal) (i p : Nat) (v u : AVal) (l m : List UInt8) (mm : Nat) (rg : Regs) (σ' : St) : Prop := ∃ (j : Nat) (b1 b2 : Option Nat), mm = 3 - j ∧ j ≤ 3 ∧ (o < σ'.next ∧ σ'.mem.get o = some (.cells 15 cs)) ∧ (p < σ'.next ∧ σ'.mem.get p = some (.cells 1 [bv, v, u])) ∧ RdB σ' v l b1 ∧ RdB σ' u m b2 ∧ rg = [(1, bv), (2, av), (3, tv), (73, .sl o 0 2 2 true), (74, i64 2), (75, i64 i), (105, .sl p 0 3 3 true), (106, i64 3), (107, i64 j)]
set_option maxHeartbeats 4000000 in
theorem notes_c {x : NoteV} {dv iv bv av tv : AVal} {bl tl : List UInt8} {xs : List Int} {cd : Nat} (ok : x.Ok) (he : ∀ y ∈ x.items, y.1 < 18446744073709551616) (hd : BytesOf dv x.data) (hi : ItemsOf iv x.items) (hb : BytesOf bv bl) (ha : IntsOf av xs) (ht : BytesOf tv tl) (hcd : cd < 256) : ACall Tryd.prog 4 [.agg (noteC x dv iv), bv, av, tv, .int .u8 (cd : Int)] σ0 fun v _ => v = .bool true := by
  refine ACall.of_compF hmx (fun a w => Tryd.call4 a w) Tryd.func4 cf4 (n := 5) (by decide) rfl ?_
  obtain ⟨o1, o2⟩ := hd.one
  obtain ⟨o3, o4⟩ := hi.one
  have hdlen := (RdB.ofI hd σ0).len
  have hilen := hi.len
  have hblen := (RdB.ofI hb σ0).len
  obtain ⟨n1, n2, n3, n4, n5, n6, n7, hnums⟩ := nums7 ok.nums
  have hC : noteC x dv iv = [.int .u8 (x.kind : Int), .int .u8 (x.topic : Int), .bool x.yes, .int .i64 x.code, u64 (n1 : Int), u64 (n2 : Int), u64 (n3 : Int), u64 (n4 : Int), u64 (n5 : Int), u64 (n6 : Int), u64 (n7 : Int), .str x.name, .str x.key, dv, iv] := by rw [noteC, hnums]; rfl
  rw [hC]
  simp [ac4, rs4, lk_cons, fillL, storeL, o1, o2, o3, o4]
  obtain ⟨S, hS⟩ : ∃ S : St, S = ⟨σ0.mem.set 0 (.cells 15 (noteC x dv iv)), 1⟩ := ⟨_, rfl⟩
  have nS : S.next = 1 := by rw [hS]
  have mS : S.mem.get 0 = some (.cells 15 [.int .u8 (x.kind : Int), .int .u8 (x.topic : Int), .bool x.yes, .int .i64 x.code, u64 (n1 : Int), u64 (n2 : Int), u64 (n3 : Int), u64 (n4 : Int), u64 (n5 : Int), u64 (n6 : Int), u64 (n7 : Int), .str x.name, .str x.key, dv, iv]) := by rw [hS, hC]; simp
  rw [hC] at hS
  rw [← hS]
  refine awake _ fun σ1 g1 => ?_
  have m1 := (g1.2 0 (by omega)).trans mS
  have n1' := g1.1
  by_cases d1 : 2000 < x.name.size
  · have d1' : (2000 : Int) < x.name.size := by omega
    simp [lk_cons, m1, d1, d1']
  have d1' : ¬ (2000 : Int) < x.name.size := by omega
  by_cases d2 : 2000 < x.key.size
  · have d2' : (2000 : Int) < x.key.size := by omega
    simp [lk_cons, m1, d1, d1', d2, d2']
  have d2' : ¬ (2000 : Int) < x.key.size := by omega
  by_cases d3 : 5000 < x.data.length
  · have d3' : (5000 : Int) < x.data.length := by omega
    simp [lk_cons, m1, d1, d1', d2, d2', d3, d3', ↓hdlen]
  have d3' : ¬ (5000 : Int) < x.data.length := by omega
  by_cases d4 : 50 < x.items.length
  · have d4' : (50 : Int) < x.items.length := by omega
    simp [lk_cons, m1, d1, d1', d2, d2', d3, d3', d4, d4', ↓hdlen, ↓hilen]
  have d4' : ¬ (50 : Int) < x.items.length := by omega
  by_cases d5 : 5000 < bl.length
  · have d5' : (5000 : Int) < bl.length := by omega
    simp [lk_cons, m1, d1, d1', d2, d2', d3, d3', d4, d4', d5, d5', ↓hdlen, ↓hilen, ↓hblen]
  have d5' : ¬ (5000 : Int) < bl.length := by omega
  simp [lk_cons, m1, d1, d1', d2, d2', d3, d3', d4, d4', d5, d5', ↓hdlen, ↓hilen, ↓hblen]
  refine wp_loop (NlJ x bv av tv iv (.int .u8 (cd : Int)) σ1) x.items.length ?_ ?_
  · exact ⟨0, rfl, Nat.zero_le _, by simp, Grow.refl _, by simp [lk_cons]⟩
  rintro mm rg σ2 ⟨i, rfl, hi2, hall, g2, rfl⟩
  by_cases hlt : i < x.items.length
  · obtain ⟨y, hy⟩ : ∃ y, x.items[i]? = some y := ⟨_, List.getElem?_eq_getElem hlt⟩
    obtain ⟨d, hyd, p, i1, i2⟩ := hi.at hy
    obtain ⟨p1, p2⟩ := (RdB.ofI hyd σ2).one
    have hylen := (RdB.ofI hyd σ2).len
    have w1 : IntKind.i64.wrap ((i : Int) + 1) = ((i + 1 : Nat) : Int) := by rw [IntWalk.i64_in] <;> omega
    have htk : x.items.take (i + 1) = x.items.take i ++ [y] := by rw [List.take_add_one, hy]; rfl
    by_cases hc : 1000 < y.2.length
    · have hc' : (1000 : Int) < y.2.length := by omega
      simp [lk_cons, hlt, ↓i1, ↓i2, fillL, storeL, p1, p2, ↓hylen, hc, hc']
    · have hc' : ¬ (1000 : Int) < y.2.length := by omega
      simp [lk_cons, hlt, ↓i1, ↓i2, fillL, storeL, p1, p2, ↓hylen, hc, hc', w1]
      refine ⟨x.items.length - (i + 1), by omega, i + 1, rfl, by omega, fun z hz => ?_, g2.trans ⟨by simp, fun a ha => by simp [show ¬ a = σ2.next by omega]⟩, rfl⟩
      rw [htk] at hz
      rcases List.mem_append.1 hz with hz | hz
      · exact hall z hz
      · simp at hz; subst hz; omega
  have : i = x.items.length := by omega
  subst this
  rw [List.take_length] at hall
  have fx : x.Few := ⟨by omega, by omega, by omega, by omega, hall⟩
  have m2 := (g2.2 0 (by omega)).trans m1
  have n2' := g2.1
  have wc : IntKind.i64.wrap (cd : Int) = cd := by rw [IntWalk.i64_in] <;> omega
  simp [lk_cons, m2, fillL, repL, storeL, o1, o2, o3, o4, wc, show ¬ σ2.next = 0 by omega, show ¬ 0 = σ2.next by omega]
  obtain ⟨x2, hx2⟩ : ∃ x2 : NoteV, x2 = { x with code := (cd : Int) } := ⟨_, rfl⟩
  have ok2 : x2.Ok := by rw [hx2]; exact ⟨ok.kind, ok.topic, ok.nums, ok.lt⟩
  have fx2 : x2.Few := by rw [hx2]; exact ⟨fx.name, fx.key, fx.data, fx.items, fx.each⟩
  obtain ⟨cs, hcs⟩ : ∃ cs, cs = noteC x dv iv ++ noteC x2 dv iv := ⟨_, rfl⟩
  have hcsl : cs.length = 30 := by rw [hcs, List.length_append, noteC_len ok.nums, noteC_len ok2.nums]
  refine wp_loop (NoJ bv av tv (σ2.next + 1) cs) 2 ?_ ?_
  · exact ⟨0, rfl, by omega, ⟨by simp, by rw [hcs, hx2]; simp [noteC, hnums]⟩, by simp [lk_cons]⟩
  rintro mm rg σ3 ⟨i, rfl, hi3, ⟨ho, hm⟩, rfl⟩
  by_cases hi' : i < 2
  · have hi'' : (i : Int) < 2 := by omega
    have w1 : IntKind.i64.wrap ((i : Int) + 1) = ((i + 1 : Nat) : Int) := by rw [IntWalk.i64_in] <;> omega
    obtain ⟨X, hX, okX, fxX, hdX, hiX, heX⟩ : ∃ X : NoteV, (cs.drop (i * 15)).take 15 = noteC X dv iv ∧ X.Ok ∧ X.Few ∧ BytesOf dv X.data ∧ ItemsOf iv X.items ∧ ∀ y ∈ X.items, y.1 < 18446744073709551616 := by
      rcases (by omega : i = 0 ∨ i = 1) with rfl | rfl
      · exact ⟨x, by rw [hcs, Nat.zero_mul, List.drop_zero, List.take_left' (noteC_len ok.nums)], ok, fx, hd, hi, he⟩
      · refine ⟨x2, by rw [hcs, Nat.one_mul, List.drop_left' (noteC_len ok.nums), List.take_of_length_le (by rw [noteC_len ok2.nums]; exact Nat.le_refl _)], ok2, fx2, by rw [hx2]; exact hd, by rw [hx2]; exact hi, by rw [hx2]; exact he⟩
    obtain ⟨zs, hzs⟩ : ∃ zs, noteC X dv iv = zs := ⟨_, rfl⟩
    have hzl : zs.length = 15 := by rw [← hzs]; exact noteC_len okX.nums
    have hb30 : i * 15 + 15 ≤ 30 := by omega
    have hst : ∀ old : List AVal, old.length = 15 → storeL old 0 zs = zs := fun old h => storeL_all (h.trans hzl.symm)
    have hzone : (∀ v, v ∈ zs → v.one = true) ↔ True := iff_true_intro <| by
      obtain ⟨q1, q2, q3, q4, q5, q6, q7, hq⟩ := nums7 okX.nums
      rw [← hzs, noteC, hq]
      simp [o1, o3]
    rw [hzs] at hX
    have e1 : ¬ σ2.next + 1 = σ3.next := by omega
    have htk : zs.take 15 = zs := List.take_of_length_le (by omega)
    simp [lk_cons, hi', hi'', hm, hX, hcsl, hb30, hst, hzl, hzone, htk]
    rw [← hzs]
    refine tell_k okX fxX hdX hiX _ fun v c σ4 r4 g4 => ?_
    have m4 : σ4.mem.get σ3.next = some (.cells 15 (noteC X dv iv)) := (g4.2 σ3.next (by simp)).trans (by simp)
    have m4o : σ4.mem.get (σ2.next + 1) = some (.cells 15 cs) := (g4.2 (σ2.next + 1) (by simp; omega)).trans (by simp [e1]; exact hm)
    have n4 : σ3.next + 1 ≤ σ4.next := g4.1
    rw [hzs] at m4
    simp [lk_cons, m4, hzl, htk]
    rw [← hzs]
    refine note_k okX fxX hdX hiX heX _ fun w c' σ5 r5 g5 => ?_
    obtain ⟨rfl, l, b1, b2, rv, rw_, hl⟩ := tn_same r4 r5 g5
    have m5o := (g5.2 (σ2.next + 1) (by omega)).trans m4o
    have n5 := g5.1
    have s1 := rv.str
    have s2 := rw_.str
    simp [lk_cons, ↓s1, ↓s2, str_ne]
    refine turned_c rv ha ht (by omega) _ fun u l2 b3 σ6 ru hl2 _ g6 => ?_
    have rv6 := rv.grow g6
    have m6o := (g6.2 (σ2.next + 1) (by omega)).trans m5o
    have n6 := g6.1
    obtain ⟨q1, q2⟩ := hb.one
    obtain ⟨q3, q4⟩ := rv6.one
    obtain ⟨q5, q6⟩ := ru.one
    simp [lk_cons, fillL, repL, storeL, q1, q2, q3, q4, q5, q6]
    refine wp_loop (NjJ bv av tv (σ2.next + 1) cs i σ6.next v u l l2) 3 ?_ ?_
    · have kk : ∀ (B : Blk) (a : Nat), a < σ6.next → (σ6.mem.set σ6.next B).get a = σ6.mem.get a := fun B a h => by simp [show ¬ a = σ6.next by omega]
      refine ⟨0, b1, b3, rfl, by omega, ⟨by simp; omega, (kk _ _ (by omega)).trans m6o⟩, ⟨by simp, by simp⟩, rv6.keep (by simp) fun a ha _ => kk _ a ha, ru.keep (by simp) fun a ha _ => kk _ a ha, by simp [lk_cons]⟩
    rintro mm rg σ7 ⟨j, b4, b5, rfl, hj3, ⟨ho7, m7o⟩, ⟨hp7, m7p⟩, rv7, ru7, rfl⟩
    by_cases hj : j < 3
    · have hj' : (j : Int) < 3 := by omega
      have w2 : IntKind.i64.wrap ((j : Int) + 1) = ((j + 1 : Nat) : Int) := by rw [IntWalk.i64_in] <;> omega
      obtain ⟨xv, xl, xc, hx1, hx2, hx3⟩ : ∃ (xv : AVal) (xl : List UInt8) (xc : Option Nat), ([bv, v, u] : List AVal)[j]? = some xv ∧ RdB σ7 xv xl xc ∧ xl.length ≤ 1000000 := by
        rcases (by omega : j = 0 ∨ j = 1 ∨ j = 2) with rfl | rfl | rfl
        · exact ⟨bv, bl, none, rfl, RdB.ofI hb σ7, by omega⟩
        · exact ⟨v, l, b4, rfl, rv7, by omega⟩
        · exact ⟨u, l2, b5, rfl, ru7, by omega⟩
      have m7p0 := m7p
      obtain ⟨ps, hps⟩ : ∃ ps : List AVal, ps = [bv, v, u] := ⟨_, rfl⟩
      rw [← hps] at m7p hx1
      simp [lk_cons, hj, hj', m7p, hx1]
      refine hear_c hx2 hx3 _ fun gv code σ8 k8 g8 => ?_
      obtain ⟨y1, d1v, i1v, c1, rfl, rd1, ir1, yn1, yl1⟩ := id k8.agg
      obtain ⟨t1, t2⟩ := rd1.one
      obtain ⟨t3, t4⟩ := ir1.one
      obtain ⟨f1, hf1⟩ : ∃ f1, noteC y1 d1v i1v = f1 := ⟨_, rfl⟩
      have f1l : f1.length = 15 := by rw [← hf1]; exact noteC_len yn1
      have hst1 : ∀ old : List AVal, old.length = 15 → storeL old 0 f1 = f1 := fun old h => storeL_all (h.trans f1l.symm)
      have hone1 : (∀ v, v ∈ f1 → v.one = true) ↔ True := iff_true_intro <| by
        obtain ⟨q1, q2, q3, q4, q5, q6, q7, hq⟩ := nums7 yn1
        rw [← hf1, noteC, hq]
        simp [t1, t3]
      rw [hf1]
      simp [lk_cons, hst1, f1l, hone1]
      have gA : ∀ B : Blk, ∀ C : Blk, Grow σ8 ⟨(σ8.mem.set σ8.next B).set σ8.next C, σ8.next + 1⟩ := fun B C => ⟨by simp, fun a ha => by simp [show ¬ a = σ8.next by omega]⟩
      refine rnote_c ((hx2.grow g8).grow (gA _ _)) hx3 _ fun gw code2 σ9 k9 g9 => ?_
      obtain ⟨rfl, Y, dv1, iv1, ev1, jv1, c2, c3, e1', e2', ra, rb, ia, ib, yn, yl⟩ := nt_same k8 k9 ((gA _ _).trans g9)
      have n9 : σ8.next + 1 ≤ σ9.next := g9.1
      have m9 : σ9.mem.get σ8.next = some (.cells 15 f1) := (g9.2 σ8.next (by simp)).trans (by simp)
      subst e2'
      obtain ⟨t5, t6⟩ := rb.one
      obtain ⟨t7, t8⟩ := ib.one
      obtain ⟨f2, hf2⟩ : ∃ f2, noteC Y ev1 jv1 = f2 := ⟨_, rfl⟩
      have f2l : f2.length = 15 := by rw [← hf2]; exact noteC_len yn
      have hst2 : ∀ old : List AVal, old.length = 15 → storeL old 0 f2 = f2 := fun old h => storeL_all (h.trans f2l.symm)
      have hone2 : (∀ v, v ∈ f2 → v.one = true) ↔ True := iff_true_intro <| by
        obtain ⟨q1, q2, q3, q4, q5, q6, q7, hq⟩ := nums7 yn
        rw [← hf2, noteC, hq]
        simp [t5, t7]
      rw [hf2]
      have e5 : ¬ σ8.next = σ9.next := by omega
      have htk1 : f1.take 15 = f1 := List.take_of_length_le (by omega)
      have htk2 : f2.take 15 = f2 := List.take_of_length_le (by omega)
      simp [lk_cons, hst2, f2l, hone2, m9, e5, f1l, htk1, htk2]
      have hf1' : AVal.agg f1 = .agg (noteC Y dv1 iv1) := by rw [← e1', hf1]
      rw [AVal.agg.inj hf1', ← hf2]
      have gB : ∀ B : Blk, ∀ C : Blk, Grow σ9 ⟨(σ9.mem.set σ9.next B).set σ9.next C, σ9.next + 1⟩ := fun B C => ⟨by simp, fun a ha => by simp [show ¬ a = σ9.next by omega]⟩
      refine samenote_c yn yn (ra.grow (gB _ _)) (rb.grow (gB _ _)) (ia.grow (gB _ _)) (ib.grow (gB _ _)) (by omega) _ fun b σ10 hb10 g10 => ?_
      have : b = true := hb10.2 rfl
      subst this
      have gAll : Grow σ7 σ10 := g8.trans ((gA _ _).trans (g9.trans ((gB _ _).trans g10)))
      simp [lk_cons, w2]
      refine ⟨3 - (j + 1), by omega, j + 1, b4, b5, rfl, by omega, ⟨by have := gAll.1; omega, (gAll.2 _ ho7).trans m7o⟩, ⟨by have := gAll.1; omega, (gAll.2 _ hp7).trans m7p0⟩, rv7.grow gAll, ru7.grow gAll, rfl⟩
    · have : j = 3 := by omega
      subst this
      simp [lk_cons, w1]
      exact ⟨2 - (i + 1), by omega, i + 1, rfl, by omega, ⟨ho7, m7o⟩, rfl⟩
  · have : i = 2 := by omega
    subst this
    simp [lk_cons]
end Go.Proofs.YticefdfhcahlfaaDoor.AM

/- Notes: unlike notes have unlike bytes (plain). -/
namespace Go.Proofs.YticefdfhcahlfaaDoor.AM
open Go.RowKit
set_option maxRecDepth 100000
set_option linter.unusedVariables false
set_option linter.unusedSimpArgs false

theorem be_cons (x : UInt8) (l : List UInt8) : be (x :: l) = x.toNat * 256 ^ l.length + be l := by
  have gen : ∀ (l : List UInt8) (a : Nat), l.foldl (fun a b => a * 256 + b.toNat) a = a * 256 ^ l.length + be l := by
    intro l
    induction l with
    | nil => intro a; simp [be]
    | cons y l ih =>
      intro a
      simp only [be, List.foldl_cons, List.length_cons] at ih ⊢
      rw [ih, ih (0 * 256 + y.toNat), Nat.pow_succ]
      rw [Nat.add_mul, Nat.add_mul, Nat.mul_assoc, Nat.mul_comm 256]
      omega
  have := gen l (0 * 256 + x.toNat)
  simpa [be] using this
theorem be_beN (n : Nat) : ∀ k, be (beN k n) = n % 256 ^ k
  | 0 => by simp [beN, be, Nat.mod_one]
  | k + 1 => by
    rw [beN, be_cons, beN_len, be_beN n k, Nat.pow_succ]
    have h1 : (UInt8.ofNat (n / 256 ^ k)).toNat = n / 256 ^ k % 256 := by simp
    rw [h1, Nat.mod_mul, Nat.add_comm, Nat.mul_comm]
theorem beN_inj {k a b : Nat} {r s : List UInt8} (ha : a < 256 ^ k) (hb : b < 256 ^ k) (h : beN k a ++ r = beN k b ++ s) : a = b ∧ r = s := by
  obtain ⟨h1, h2⟩ := List.append_inj h (by rw [beN_len, beN_len])
  have := congrArg be h1
  rw [be_beN, be_beN, Nat.mod_eq_of_lt ha, Nat.mod_eq_of_lt hb] at this
  exact ⟨this, h2⟩
theorem byB_inj {d e r s : List UInt8} (ha : d.length < 256 ^ 4) (hb : e.length < 256 ^ 4) (h : byB d ++ r = byB e ++ s) : d = e ∧ r = s := by
  simp only [byB, List.append_assoc] at h
  obtain ⟨h1, h2⟩ := beN_inj ha hb h
  exact List.append_inj h2 h1
theorem txB_inj {d e : ByteArray} {r s : List UInt8} (ha : d.size < 256 ^ 4) (hb : e.size < 256 ^ 4) (h : txB d ++ r = txB e ++ s) : d = e ∧ r = s := by
  have hd : txB d = byB d.data.toList := by simp [txB, byB]
  have he : txB e = byB e.data.toList := by simp [txB, byB]
  rw [hd, he] at h
  obtain ⟨h1, h2⟩ := byB_inj (by simpa using ha) (by simpa using hb) h
  refine ⟨?_, h2⟩
  cases d; cases e
  congr 1
  exact Array.ext' h1
theorem numsB_inj : ∀ {xs ys : List Nat} {r s : List UInt8}, xs.length = ys.length → (∀ n ∈ xs, n < 256 ^ 8) → (∀ n ∈ ys, n < 256 ^ 8) → numsB xs ++ r = numsB ys ++ s → xs = ys ∧ r = s
  | [], [], r, s, _, _, _, h => ⟨rfl, h⟩
  | x :: xs, y :: ys, r, s, hl, hx, hy, h => by
    simp only [numsB, List.map_cons, List.flatten_cons, List.append_assoc] at h
    obtain ⟨h1, h2⟩ := beN_inj (hx x (by simp)) (hy y (by simp)) h
    have h2 : numsB xs ++ r = numsB ys ++ s := h2
    obtain ⟨h3, h4⟩ := numsB_inj (by simpa using hl) (fun n hn => hx n (by simp [hn])) (fun n hn => hy n (by simp [hn])) h2
    exact ⟨by rw [h1, h3], h4⟩
  | [], _ :: _, _, _, hl, _, _, _ => by simp at hl
  | _ :: _, [], _, _, hl, _, _, _ => by simp at hl
theorem itsB_inj : ∀ {xs ys : List (Nat × List UInt8)}, xs.length = ys.length → (∀ n ∈ xs, n.1 < 256 ^ 8 ∧ n.2.length < 256 ^ 4) → (∀ n ∈ ys, n.1 < 256 ^ 8 ∧ n.2.length < 256 ^ 4) → itsB xs = itsB ys → xs = ys
  | [], [], _, _, _, h => rfl
  | x :: xs, y :: ys, hl, hx, hy, h => by
    simp only [itsB, List.map_cons, List.flatten_cons, itB, List.append_assoc] at h
    obtain ⟨h1, h⟩ := beN_inj (hx x (by simp)).1 (hy y (by simp)).1 h
    obtain ⟨h2, h⟩ := byB_inj (hx x (by simp)).2 (hy y (by simp)).2 h
    have h : itsB xs = itsB ys := h
    rw [itsB_inj (by simpa using hl) (fun n hn => hx n (by simp [hn])) (fun n hn => hy n (by simp [hn])) h]
    cases x; cases y
    simp only at h1 h2
    rw [h1, h2]
  | [], _ :: _, hl, _, _, _ => by simp at hl
  | _ :: _, [], hl, _, _, _ => by simp at hl
structure NoteV.Sm (x : NoteV) : Prop where
  name : x.name.size ≤ 800
  key : x.key.size ≤ 800
  data : x.data.length ≤ 1000
  items : x.items.length ≤ 10
  each : ∀ y ∈ x.items, y.2.length ≤ 100
theorem itsB_lenS {l : List (Nat × List UInt8)} (h : ∀ y ∈ l, y.2.length ≤ 100) : (itsB l).length ≤ 112 * l.length := by
  induction l with
  | nil => simp [itsB]
  | cons x l ih =>
    have h1 := h x (by simp)
    have h2 := ih fun y hy => h y (by simp [hy])
    simp only [itsB, List.map_cons, List.flatten_cons, List.length_append, itB, byB_len, beN_len, List.length_cons] at h2 ⊢
    omega
theorem noteB_lenS {x : NoteV} (ok : x.Ok) (s : x.Sm) : (noteB x).length ≤ 4096 := by
  have h1 := itsB_lenS s.each
  have := s.name; have := s.key; have := s.data; have := s.items
  simp only [noteB, noteH, noteM, List.length_append, txB_len, byB_len, beN_len, numsB_len, ok.nums]
  omega
theorem noteB_inj {x y : NoteV} (ok : x.Ok) (oy : y.Ok) (s : x.Sm) (t : y.Sm) (cx : 0 ≤ x.code ∧ x.code ≤ 255) (cy : 0 ≤ y.code ∧ y.code ≤ 255) (ex : ∀ z ∈ x.items, z.1 < 18446744073709551616) (ey : ∀ z ∈ y.items, z.1 < 18446744073709551616) (h : noteB x = noteB y) : x = y := by
  have hcx : (codeN x : Int) = x.code := by
    unfold codeN
    simp only [IntKind.wrap, IntKind.bits, IntKind.signed]; simp; omega
  have hcy : (codeN y : Int) = y.code := by
    unfold codeN
    simp only [IntKind.wrap, IntKind.bits, IntKind.signed]; simp; omega
  have := s.name; have := s.key; have := s.data; have := s.items
  have := t.name; have := t.key; have := t.data; have := t.items
  simp only [noteB, noteH, noteM, List.append_assoc] at h
  obtain ⟨h1, h⟩ := beN_inj (by have := ok.kind; omega) (by have := oy.kind; omega) h
  obtain ⟨h2, h⟩ := beN_inj (by have := ok.topic; omega) (by have := oy.topic; omega) h
  obtain ⟨h3, h⟩ := beN_inj (by split <;> decide) (by split <;> decide) h
  obtain ⟨h4, h⟩ := beN_inj (by omega) (by omega) h
  obtain ⟨h5, h⟩ := numsB_inj (ok.nums.trans oy.nums.symm) ok.lt oy.lt h
  obtain ⟨h6, h⟩ := txB_inj (by omega) (by omega) h
  obtain ⟨h7, h⟩ := txB_inj (by omega) (by omega) h
  obtain ⟨h8, h⟩ := byB_inj (by omega) (by omega) h
  obtain ⟨h9, h⟩ := beN_inj (Nat.mod_lt _ (by decide)) (Nat.mod_lt _ (by decide)) h
  rw [Nat.mod_eq_of_lt (by omega), Nat.mod_eq_of_lt (by omega)] at h9
  have h10 := itsB_inj h9 (fun n hn => ⟨ex n hn, by have := s.each n hn; omega⟩) (fun n hn => ⟨ey n hn, by have := t.each n hn; omega⟩) h
  have h3' : x.yes = y.yes := by
    cases hx : x.yes <;> cases hy : y.yes <;> rw [hx, hy] at h3 <;> first | rfl | simp at h3
  have h4' : x.code = y.code := by omega
  cases x; cases y
  simp_all
theorem pNum1_noteB {x : NoteV} (ok : x.Ok) : ∃ r, pNum 1 (noteB x) = .ok (x.kind, r) := by
  have h1 := be_beN x.kind 1
  rw [Nat.mod_eq_of_lt (by have := ok.kind; omega)] at h1
  refine ⟨(noteB x).drop 1, ?_⟩
  have hl : 1 ≤ (noteB x).length := by simp only [noteB, noteH, List.length_append, beN_len]; omega
  have ht : (noteB x).take 1 = beN 1 x.kind := by
    simp only [noteB, noteH, List.append_assoc]
    rw [List.take_left' (beN_len 1 _)]
  rw [pNum, if_neg (by omega), ht, h1]
end Go.Proofs.YticefdfhcahlfaaDoor.AM

/- CodecApart: the law. -/
namespace Go.Proofs.YticefdfhcahlfaaDoor.AM
open Go.RowKit
set_option maxRecDepth 100000
set_option linter.unusedVariables false
set_option linter.unusedSimpArgs false

theorem noteC_get {x : NoteV} {dv iv : AVal} (h : x.nums.length = 7) : (noteC x dv iv)[0]? = some (.int .u8 (x.kind : Int)) ∧ (noteC x dv iv)[3]? = some (.int .i64 x.code) ∧ (noteC x dv iv)[11]? = some (.str x.name) ∧ (noteC x dv iv)[12]? = some (.str x.key) ∧ (noteC x dv iv)[13]? = some dv ∧ (noteC x dv iv)[14]? = some iv := by
  obtain ⟨a, b, c, d, e, f, g, hn⟩ := nums7 h
  unfold noteC
  rw [hn]
  exact ⟨rfl, rfl, rfl, rfl, rfl, rfl⟩
theorem noteC_code {x : NoteV} {dv iv : AVal} (c : Int) : (noteC x dv iv).set 3 (.int .i64 c) = noteC { x with code := c } dv iv := by
  unfold noteC; rfl
theorem and255 (c : Int) : ∃ d : Int, abits .and .i64 c 255 = some (.int .i64 d) ∧ 0 ≤ d ∧ d ≤ 255 := by
  have h : (BitVec.ofInt IntKind.i64.bits c &&& BitVec.ofInt IntKind.i64.bits 255).toNat ≤ 255 := by
    rw [BitVec.toNat_and]
    refine Nat.le_trans Nat.and_le_right ?_
    decide
  simp only [abits]
  refine ⟨_, rfl, ?_, ?_⟩ <;> rw [IntWalk.i64_in] <;> omega
theorem getE {l : List AVal} {i : Nat} {v : AVal} (h : l[i]? = some v) (hi : i < l.length) : l[i] = v := by
  rw [List.getElem?_eq_getElem hi] at h; exact Option.some.inj h
theorem fill2 {z u v : List AVal} {n : Nat} (hz : z.length = n) (hu : u.length = n) (hv : v.length = n) (ou : (∀ x, x ∈ u → x.one = true) ↔ True) (ov : (∀ x, x ∈ v → x.one = true) ↔ True) : fillL (repL 2 z) [(0, n, .agg u), (n, n, .agg v)] = some (u ++ v) := by
  have e : repL 2 z = z ++ z := by simp [repL, List.replicate]
  have s1 : storeL (z ++ z) 0 u = u ++ z := by simpa using storeL_at u [] z z (hz.trans hu.symm)
  have s2 : storeL (u ++ z) n v = u ++ v := by
    have := storeL_at v u z [] (hz.trans hv.symm)
    simpa [hu] using this
  rw [e]
  have c1 : u.all AVal.one = true := by simpa using ou
  have c2 : v.all AVal.one = true := by simpa using ov
  simp only [fillL, cellsOf, hu, hv, c1, c2, s1, s2, List.length_append, hz]
  simp
/-- A note in a block. -/
structure NBk (σ : St) (o : Nat) (x : NoteV) (dv iv : AVal) : Prop where
  lt : o < σ.next
  mem : σ.mem.get o = some (.cells 15 (noteC x dv iv))
  ok : x.Ok
  ent : ∀ y ∈ x.items, y.1 < 18446744073709551616
  hd : BytesOf dv x.data
  hi : ItemsOf iv x.items
theorem NBk.grow {σ σ' : St} {o : Nat} {x : NoteV} {dv iv : AVal} (h : NBk σ o x dv iv) (g : Grow σ σ') : NBk σ' o x dv iv := ⟨Nat.lt_of_lt_of_le h.lt g.1, (g.2 o h.lt).trans h.mem, h.ok, h.ent, h.hd, h.hi⟩
theorem noteC_one {x : NoteV} {dv iv : AVal} (ok : x.Ok) (h1 : dv.one = true) (h2 : iv.one = true) : (∀ v, v ∈ noteC x dv iv → v.one = true) ↔ True := iff_true_intro <| by
  obtain ⟨q1, q2, q3, q4, q5, q6, q7, hq⟩ := nums7 ok.nums
  rw [noteC, hq]
  simp [h1, h2]
def AxM (σ0 : St) (x : NoteV) (dv iv : AVal) (r : Regs) (σ' : St) : Prop := (∃ t, r = (3, .ptr 0 0) :: (4, .ptr 1 0) :: t) ∧ NBk σ' 0 x dv iv ∧ ∃ y ev jv, NBk σ' 1 y ev jv
def AxJ (x y : NoteV) (dv iv ev jv : AVal) (o : Nat) (cs : List AVal) (mm : Nat) (rg : Regs) (σ' : St) : Prop := ∃ i, mm = 2 - i ∧ i ≤ 2 ∧ NBk σ' 0 x dv iv ∧ NBk σ' 1 y ev jv ∧ (o < σ'.next ∧ σ'.mem.get o = some (.cells 15 cs)) ∧ (0 < i → x.Sm) ∧ (1 < i → y.Sm) ∧ rg = [(3, .ptr 0 0), (4, .ptr 1 0), (30, .sl o 0 2 2 true), (31, i64 2), (32, i64 i)]
def AyJ (z : NoteV) (kv : AVal) (i o : Nat) (S : St) (mm : Nat) (rg : Regs) (σ' : St) : Prop := ∃ j, mm = z.items.length - j ∧ j ≤ z.items.length ∧ Grow S σ' ∧ (∀ y ∈ z.items.take j, y.2.length ≤ 100) ∧ rg = [(3, .ptr 0 0), (4, .ptr 1 0), (30, .sl o 0 2 2 true), (31, i64 2), (32, i64 i), (59, kv), (60, i64 z.items.length), (61, i64 j)]
set_option maxHeartbeats 4000000 in
theorem apart_c {x y : NoteV} {dv iv ev jv : AVal} {q : Bool} (ok : x.Ok) (he : ∀ y ∈ x.items, y.1 < 18446744073709551616) (hd : BytesOf dv x.data) (hi : ItemsOf iv x.items) (oky : y.Ok) (hey : ∀ z ∈ y.items, z.1 < 18446744073709551616) (hdy : BytesOf ev y.data) (hiy : ItemsOf jv y.items) : ACall Tryd.prog 5 [.agg (noteC x dv iv), .agg (noteC y ev jv), .bool q] σ0 fun v _ => v = .bool true := by
  refine ACall.of_compF hmx (fun a w => Tryd.call5 a w) Tryd.func5 cf5 (n := 3) (by decide) rfl ?_
  have one1 := noteC_one ok hd.one.1 hi.one.1
  have one2 := noteC_one oky hdy.one.1 hiy.one.1
  have nl1 := noteC_len (dv := dv) (iv := iv) ok.nums
  have nl2 := noteC_len (dv := ev) (iv := jv) oky.nums
  obtain ⟨zs, hzs⟩ : ∃ zs, noteC x dv iv = zs := ⟨_, rfl⟩
  obtain ⟨ws, hws⟩ : ∃ ws, noteC y ev jv = ws := ⟨_, rfl⟩
  rw [hzs] at one1 nl1
  rw [hws] at one2 nl2
  rw [hzs, hws]
  have tz : zs.take 15 = zs := List.take_of_length_le (by omega)
  have hst : ∀ old : List AVal, old.length = 15 → storeL old 0 zs = zs := fun old h => storeL_all (h.trans nl1.symm)
  simp [ac5, rs5, lk_cons, fillL, nl1, nl2, one1, one2]
  obtain ⟨S, hS⟩ : ∃ S : St, S = ⟨(σ0.mem.set 0 (.cells 15 zs)).set 1 (.cells 15 ws), 2⟩ := ⟨_, rfl⟩
  have nS : S.next = 2 := by rw [hS]
  have mS0 : S.mem.get 0 = some (.cells 15 zs) := by rw [hS]; simp
  have mS1 : S.mem.get 1 = some (.cells 15 ws) := by rw [hS]; simp
  rw [show (({ l := [] } : Mem).set 0 (.cells 15 zs)).set 1 (.cells 15 ws) = (σ0.mem.set 0 (.cells 15 zs)).set 1 (.cells 15 ws) from rfl, ← hS]
  refine awake _ fun σ1 g1 => ?_
  have m0 := (g1.2 0 (by omega)).trans mS0
  have m1 := (g1.2 1 (by omega)).trans mS1
  have n1 := g1.1
  simp [lk_cons]
  refine condK_mid (AxM σ0 x dv iv) ?_ ?_
  · cases q
    · simp [lk_cons]
      exact ⟨⟨_, rfl⟩, ⟨by omega, by rw [hzs]; exact m0, ok, he, hd, hi⟩, y, ev, jv, ⟨by omega, by rw [hws]; exact m1, oky, hey, hdy, hiy⟩⟩
    · simp [lk_cons, m0, m1, nl1, nl2, tz, one1]
      refine ⟨⟨_, rfl⟩, ⟨by show 0 < σ1.next; omega, by rw [hzs]; simp; exact m0, ok, he, hd, hi⟩, x, dv, iv, ⟨by show 1 < σ1.next; omega, ?_, ok, he, hd, hi⟩⟩
      simp [storeL_all (nl2.trans nl1.symm), hzs]
  rintro rg σ2 ⟨⟨rt, rfl⟩, B0, y', ev', jv', B1⟩
  clear hdy hiy hey oky nl2 one2 hws mS1 m1 hst
  obtain ⟨d, hd1, hd2⟩ := and255 x.code
  obtain ⟨e, he1, he2⟩ := and255 y'.code
  obtain ⟨us, hus⟩ : ∃ us, noteC x dv iv = us := ⟨_, rfl⟩
  obtain ⟨vs, hvs⟩ : ∃ vs, noteC y' ev' jv' = vs := ⟨_, rfl⟩
  have usl : us.length = 15 := by rw [← hus]; exact noteC_len ok.nums
  have vsl : vs.length = 15 := by rw [← hvs]; exact noteC_len B1.ok.nums
  have a3 : us[3]'(by omega) = .int .i64 x.code := getE (by rw [← hus]; exact (noteC_get ok.nums).2.1) _
  have b3 : vs[3]'(by omega) = .int .i64 y'.code := getE (by rw [← hvs]; exact (noteC_get B1.ok.nums).2.1) _
  have M0 := B0.mem
  have M1 := B1.mem
  rw [hus] at M0
  rw [hvs] at M1
  have hX : us.set 3 (.int .i64 d) = noteC { x with code := d } dv iv := by rw [← hus]; exact noteC_code d
  have hY : vs.set 3 (.int .i64 e) = noteC { y' with code := e } ev' jv' := by rw [← hvs]; exact noteC_code e
  obtain ⟨X, hXd⟩ : ∃ X : NoteV, X = { x with code := d } := ⟨_, rfl⟩
  obtain ⟨Y, hYd⟩ : ∃ Y : NoteV, Y = { y' with code := e } := ⟨_, rfl⟩
  have okX : X.Ok := by rw [hXd]; exact ⟨ok.kind, ok.topic, ok.nums, ok.lt⟩
  have okY : Y.Ok := by rw [hYd]; exact ⟨B1.ok.kind, B1.ok.topic, B1.ok.nums, B1.ok.lt⟩
  have cX : 0 ≤ X.code ∧ X.code ≤ 255 := by rw [hXd]; exact hd2
  have cY : 0 ≤ Y.code ∧ Y.code ≤ 255 := by rw [hYd]; exact he2
  have eX : ∀ z ∈ X.items, z.1 < 18446744073709551616 := by rw [hXd]; exact B0.ent
  have eY : ∀ z ∈ Y.items, z.1 < 18446744073709551616 := by rw [hYd]; exact B1.ent
  have dX : BytesOf dv X.data := by rw [hXd]; exact hd
  have dY : BytesOf ev' Y.data := by rw [hYd]; exact B1.hd
  have iX : ItemsOf iv X.items := by rw [hXd]; exact hi
  have iY : ItemsOf jv' Y.items := by rw [hYd]; exact B1.hi
  rw [← hXd] at hX
  rw [← hYd] at hY
  have oX := noteC_one okX dX.one.1 iX.one.1
  have oY := noteC_one okY dY.one.1 iY.one.1
  have lX := noteC_len (dv := dv) (iv := iv) okX.nums
  have lY := noteC_len (dv := ev') (iv := jv') okY.nums
  obtain ⟨uX, huX⟩ : ∃ uX, noteC X dv iv = uX := ⟨_, rfl⟩
  obtain ⟨vY, hvY⟩ : ∃ vY, noteC Y ev' jv' = vY := ⟨_, rfl⟩
  rw [huX] at hX oX lX
  rw [hvY] at hY oY lY
  have tX : uX.take 15 = uX := List.take_of_length_le (by omega)
  have tY : vY.take 15 = vY := List.take_of_length_le (by omega)
  have fl := fun z hz => fill2 (z := z) (n := 15) hz lX lY oX oY
  have nb := B1.lt
  have e0 : ¬ (0 : Nat) = σ2.next := by omega
  have e1 : ¬ (1 : Nat) = σ2.next := by omega
  simp [lk_cons, M0, M1, usl, vsl, a3, b3, hd1, he1, storeL, hX, hY, tX, tY, lX, lY, fl]
  refine wp_loop (AxJ X Y dv iv ev' jv' σ2.next (uX ++ vY)) 2 ?_ ?_
  · exact ⟨0, rfl, by omega, ⟨by simp, by rw [huX]; simp [e0], okX, eX, dX, iX⟩, ⟨by simp; omega, by rw [hvY]; simp [e1], okY, eY, dY, iY⟩, ⟨by simp, by simp⟩, by omega, by omega, by simp [lk_cons]⟩
  rintro mm rg σ3 ⟨i, rfl, hi3, C0, C1, ⟨ho, hm⟩, sX, sY, rfl⟩
  have n3 := C1.lt
  by_cases hi2 : i < 2
  · have hi2' : (i : Int) < 2 := by omega
    have w1 : IntKind.i64.wrap ((i : Int) + 1) = ((i + 1 : Nat) : Int) := by rw [IntWalk.i64_in] <;> omega
    obtain ⟨Z, zd, zi, hZ, okZ, dZ, iZ, hZX, hZY⟩ : ∃ (Z : NoteV) (zd zi : AVal), ((uX ++ vY).drop (i * 15)).take 15 = noteC Z zd zi ∧ Z.Ok ∧ BytesOf zd Z.data ∧ ItemsOf zi Z.items ∧ (i = 0 → Z = X) ∧ (i = 1 → Z = Y) := by
      rcases (by omega : i = 0 ∨ i = 1) with rfl | rfl
      · exact ⟨X, dv, iv, by rw [Nat.zero_mul, List.drop_zero, List.take_left' lX, huX], okX, dX, iX, fun _ => rfl, fun h => absurd h (by decide)⟩
      · exact ⟨Y, ev', jv', by rw [Nat.one_mul, List.drop_left' lX, List.take_of_length_le (by omega), hvY], okY, dY, iY, fun h => absurd h (by decide), fun _ => rfl⟩
    have oZ := noteC_one okZ dZ.one.1 iZ.one.1
    have lZ := noteC_len (dv := zd) (iv := zi) okZ.nums
    obtain ⟨_, _, g1, g2, g3, g4⟩ := noteC_get (dv := zd) (iv := zi) okZ.nums
    obtain ⟨zs, hzs⟩ : ∃ zs, noteC Z zd zi = zs := ⟨_, rfl⟩
    rw [hzs] at hZ oZ lZ g1 g2 g3 g4
    have g1 := getE g1 (by omega)
    have g2 := getE g2 (by omega)
    have g3 := getE g3 (by omega)
    have g4 := getE g4 (by omega)
    have hst : ∀ old : List AVal, old.length = 15 → storeL old 0 zs = zs := fun old h => storeL_all (h.trans lZ.symm)
    have hl30 : (uX ++ vY).length = 30 := by rw [List.length_append]; omega
    have hb30 : i * 15 + 15 ≤ 30 := by omega
    obtain ⟨cs, hcs⟩ : ∃ cs, uX ++ vY = cs := ⟨_, rfl⟩
    have hm0 := hm
    rw [hcs] at hm hl30 hZ
    have hdlen := (RdB.ofI dZ σ3).len
    have hilen := iZ.len
    by_cases d1 : 800 < Z.name.size
    · have d1' : (800 : Int) < Z.name.size := by omega
      simp [lk_cons, hi2, hi2', hm, hZ, hl30, hb30, hst, lZ, oZ, g1, d1, d1']
    have d1' : ¬ (800 : Int) < Z.name.size := by omega
    by_cases d2 : 800 < Z.key.size
    · have d2' : (800 : Int) < Z.key.size := by omega
      simp [lk_cons, hi2, hi2', hm, hZ, hl30, hb30, hst, lZ, oZ, g1, d1, d1', g2, d2, d2']
    have d2' : ¬ (800 : Int) < Z.key.size := by omega
    by_cases d3 : 1000 < Z.data.length
    · have d3' : (1000 : Int) < Z.data.length := by omega
      simp [lk_cons, hi2, hi2', hm, hZ, hl30, hb30, hst, lZ, oZ, g1, d1, d1', g2, d2, d2', g3, d3, d3', ↓hdlen]
    have d3' : ¬ (1000 : Int) < Z.data.length := by omega
    by_cases d4 : 10 < Z.items.length
    · have d4' : (10 : Int) < Z.items.length := by omega
      simp [lk_cons, hi2, hi2', hm, hZ, hl30, hb30, hst, lZ, oZ, g1, d1, d1', g2, d2, d2', g3, d3, d3', g4, d4, d4', ↓hdlen, ↓hilen]
    have d4' : ¬ (10 : Int) < Z.items.length := by omega
    simp [lk_cons, hi2, hi2', hm, hZ, hl30, hb30, hst, lZ, oZ, g1, d1, d1', g2, d2, d2', g3, d3, d3', g4, d4, d4', ↓hdlen, ↓hilen]
    have gA : ∀ B C : Blk, Grow σ3 ⟨(σ3.mem.set σ3.next B).set σ3.next C, σ3.next + 1⟩ := fun B C => ⟨by simp, fun a ha => by simp [show ¬ a = σ3.next by omega]⟩
    refine wp_loop (AyJ Z zi i σ2.next σ3) Z.items.length ?_ ?_
    · exact ⟨0, rfl, Nat.zero_le _, gA _ _, by simp, by simp [lk_cons]⟩
    rintro mm rg σ4 ⟨j, rfl, hj, gj, hall, rfl⟩
    by_cases hlt : j < Z.items.length
    · obtain ⟨w, hw⟩ : ∃ w, Z.items[j]? = some w := ⟨_, List.getElem?_eq_getElem hlt⟩
      obtain ⟨dd, hdd, p, i1, i2⟩ := iZ.at hw
      obtain ⟨p1, p2⟩ := (RdB.ofI hdd σ4).one
      have hylen := (RdB.ofI hdd σ4).len
      have w2 : IntKind.i64.wrap ((j : Int) + 1) = ((j + 1 : Nat) : Int) := by rw [IntWalk.i64_in] <;> omega
      have htk : Z.items.take (j + 1) = Z.items.take j ++ [w] := by rw [List.take_add_one, hw]; rfl
      by_cases hc : 100 < w.2.length
      · have hc' : (100 : Int) < w.2.length := by omega
        simp [lk_cons, hlt, ↓i1, ↓i2, fillL, storeL, p1, p2, ↓hylen, hc, hc']
      · have hc' : ¬ (100 : Int) < w.2.length := by omega
        simp [lk_cons, hlt, ↓i1, ↓i2, fillL, storeL, p1, p2, ↓hylen, hc, hc', w2]
        refine ⟨Z.items.length - (j + 1), by omega, j + 1, rfl, by omega, gj.trans ⟨by simp, fun a ha => by simp [show ¬ a = σ4.next by omega]⟩, fun z hz => ?_, rfl⟩
        rw [htk] at hz
        rcases List.mem_append.1 hz with hz | hz
        · exact hall z hz
        · simp at hz; subst hz; omega
    have : j = Z.items.length := by omega
    subst this
    rw [List.take_length] at hall
    have sZ : Z.Sm := ⟨by omega, by omega, by omega, by omega, hall⟩
    simp [lk_cons, w1]
    refine ⟨2 - (i + 1), by omega, i + 1, rfl, by omega, C0.grow gj, C1.grow gj, ⟨by have := gj.1; omega, (gj.2 _ ho).trans hm0⟩, fun _ => ?_, fun h1 => ?_, rfl⟩
    · by_cases h0 : i = 0
      · rw [← hZX h0]; exact sZ
      · exact sX (by omega)
    · rw [← hZY (by omega)]; exact sZ
  have : i = 2 := by omega
  subst this
  have sX := sX (by omega)
  have sY := sY (by omega)
  have M0 := C0.mem
  have M1 := C1.mem
  rw [huX] at M0
  rw [hvY] at M1
  have fX : X.Few := ⟨by have := sX.name; omega, by have := sX.key; omega, by have := sX.data; omega, by have := sX.items; omega, fun y hy => by have := sX.each y hy; omega⟩
  have fY : Y.Few := ⟨by have := sY.name; omega, by have := sY.key; omega, by have := sY.data; omega, by have := sY.items; omega, fun y hy => by have := sY.each y hy; omega⟩
  have bX := noteB_lenS okX sX
  have bY := noteB_lenS okY sY
  have inj : noteB X = noteB Y ↔ X = Y := ⟨fun h => noteB_inj okX okY sX sY cX cY eX eY h, fun h => by rw [h]⟩
  obtain ⟨pr, hpr⟩ := pNum1_noteB okX
  have hsn : sNum 1 (.ok (noteB X)) = (X.kind, .ok pr) := by simp only [sNum, hpr]
  have g0 : uX[0]'(by omega) = .int .u8 (X.kind : Int) := getE (by rw [← huX]; exact (noteC_get okX.nums).1) _
  have wk : IntKind.u64.wrap (X.kind : Int) = X.kind := by have := okX.kind; rw [IntWalk.u64_in] <;> omega
  have hkl := okX.kind
  simp [lk_cons, M0, lX, tX]
  rw [← huX]
  refine tell_c okX fX dX iX _ (fun σ' g h => absurd h (by omega)) (fun σ' g h k => absurd k (by omega)) fun v b1 σ4 h4 hb4 g4 _ _ => ?_
  have M1' := (g4.2 1 C1.lt).trans M1
  have M0' := (g4.2 0 C0.lt).trans M0
  simp [lk_cons, M1', lY, tY]
  rw [← hvY]
  refine tell_c okY fY dY iY _ (fun σ' g h => absurd h (by omega)) (fun σ' g h k => absurd k (by omega)) fun w b2 σ5 h5 hb5 g5 _ _ => ?_
  have n4 := g4.1
  have n5 := g5.1
  have c0lt := C0.lt
  have r4 := (RdB.ofGS h4).grow g5
  have r5 := RdB.ofGS h5
  have M1'' := (g5.2 1 (by omega)).trans M1'
  have M0'' := (g5.2 0 (by omega)).trans M0'
  obtain ⟨o1, o2⟩ := r4.one
  have e0 : ¬ (0 : Nat) = σ5.next := by omega
  have e1 : ¬ (1 : Nat) = σ5.next := by omega
  obtain ⟨S5, hS5⟩ : ∃ S5 : St, S5 = ⟨σ5.mem.set σ5.next (.cells 2 [v, i64 0]), σ5.next + 1⟩ := ⟨_, rfl⟩
  have gS5 : Grow σ5 S5 := ⟨by rw [hS5]; exact Nat.le_succ _, fun a ha => by rw [hS5]; simp [show ¬ a = σ5.next by omega]⟩
  have nS5 : S5.next = σ5.next + 1 := by rw [hS5]
  have s4 := (r4.grow gS5).str
  have s5 := (r5.grow gS5).str
  have N0 := (gS5.2 0 (by omega)).trans M0''
  have N1 := (gS5.2 1 (by omega)).trans M1''
  rw [hS5] at s4 s5
  simp [lk_cons, fillL, storeL, o1, o2, M0'', M1'', e0, e1, lX, lY, tX, tY, ↓s4, ↓s5, str_eq]
  rw [← hS5, ← huX, ← hvY]
  have rX5 : RdB S5 dv X.data none := RdB.ofI dX S5
  have rY5 : RdB S5 ev' Y.data none := RdB.ofI dY S5
  refine samenote_c (K := fun _ => True) (K' := fun _ => True) okX.nums okY.nums rX5 rY5 (.inl iX) (.inl iY) (by have := fX.items; omega) _ fun b σ6 hb6 g6 => ?_
  have t4 := ((r4.grow gS5).grow g6).str
  have t5 := ((r5.grow gS5).grow g6).str
  have P0 := (g6.2 0 (by omega)).trans N0
  have P1 := (g6.2 1 (by omega)).trans N1
  have n6 := g6.1
  have hbd : b = decide (noteB X = noteB Y) := by
    cases b
    · refine (decide_eq_false fun h => ?_).symm
      exact absurd (hb6.2 (inj.1 h)) (by simp)
    · exact (decide_eq_true (inj.2 (hb6.1 rfl))).symm
  have sr : SR σ6 σ5.next (.ok (noteB X)) b1 := ⟨by omega, fun e => by have := (RdB.lt ((RdB.ofGS h4).grow g5) e); omega, fun x hx => by have := r4.lt hx; omega, v, (g6.2 _ (by omega)).trans (by rw [hS5]; simp), (r4.grow gS5).grow g6, by omega⟩
  simp [lk_cons, ↓t4, ↓t5, str_eq, hbd, P0, P1, lX, lY, tX, tY, g0, wk]
  refine snum_c sr (k := 1) (by decide) _ fun σ7 q1 q2 q3 => ?_
  rw [hsn]
  have R0 := (q3 0 (by omega)).trans P0
  have R1 := (q3 1 (by omega)).trans P1
  have rr4 : RdB σ7 v (noteB X) b1 := ((r4.grow gS5).grow g6).keep (by omega) fun a ha hb => q3 a (by have := r4.lt hb; omega)
  have rr5 : RdB σ7 w (noteB Y) b2 := ((r5.grow gS5).grow g6).keep (by omega) fun a ha hb => q3 a (by have := r5.lt hb; omega)
  have u4 := rr4.str
  have u5 := rr5.str
  simp [lk_cons, ↓u4, ↓u5, str_eq, R0, R1, lX, lY, tX, tY, g0, wk]
end Go.Proofs.YticefdfhcahlfaaDoor.AM
