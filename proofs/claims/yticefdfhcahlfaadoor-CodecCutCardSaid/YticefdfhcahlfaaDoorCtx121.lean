/- What the functions of this chapter give: their contracts over the machine. -/
import Derived.Test.YticefdfhcahlfaaDoorCt121
import Derived.Test.YticefdfhcahlfaaDoorAm3
import Derived.Test.YticefdfhcahlfaaDoorC121
namespace Go.Proofs.YticefdfhcahlfaaDoor.AM
set_option maxRecDepth 100000
set_option linter.unusedVariables false
set_option linter.unusedSimpArgs false
def ICells : List AVal → List (Nat × List UInt8) → Prop
  | [], [] => True
  | c :: d :: cs, x :: xs => c = u64 (x.1 : Int) ∧ BytesOf d x.2 ∧ ICells cs xs
  | _, _ => False
theorem ICells.get : ∀ {cs : List AVal} {xs : List (Nat × List UInt8)}, ICells cs xs → ∀ {i : Nat} {x : Nat × List UInt8}, xs[i]? = some x → ∃ d, BytesOf d x.2 ∧ (cs.drop (i * 2)).take 2 = [u64 (x.1 : Int), d]
  | c :: d :: cs, y :: xs, h, 0, x, hx => by
    simp at hx; subst hx
    exact ⟨d, h.2.1, by simp [h.1]⟩
  | c :: d :: cs, y :: xs, h, i + 1, x, hx => by
    obtain ⟨d', h1, h2⟩ := h.2.2.get (i := i) (by simpa using hx)
    exact ⟨d', h1, by rw [← h2, show (i + 1) * 2 = i * 2 + 1 + 1 by omega]; rfl⟩
  | [], [], _, _, _, hx => by simp at hx
  | [], _ :: _, h, _, _, _ => h.elim
  | [_], _, h, _, _, _ => by cases ‹List (Nat × List UInt8)› <;> exact h.elim
  | _ :: _ :: _, [], h, _, _, _ => h.elim
def ItemsOf (v : AVal) (xs : List (Nat × List UInt8)) : Prop := v = .nilsl ∧ xs = [] ∨ ∃ cs k t, v = .isl cs k t ∧ k = xs.length ∧ ICells cs xs
theorem ItemsOf.len {v : AVal} {xs : List (Nat × List UInt8)} (h : ItemsOf v xs) (ρ : St) : evalV ρ (.len 1 v) = some (i64 xs.length, ρ) := by
  rcases h with ⟨rfl, rfl⟩ | ⟨cs, k, t, rfl, rfl, _⟩ <;> simp
theorem ItemsOf.one {v : AVal} {xs : List (Nat × List UInt8)} (h : ItemsOf v xs) : v.one = true ∧ cellsOf v = [v] := by
  rcases h with ⟨rfl, rfl⟩ | ⟨cs, k, t, rfl, rfl, _⟩ <;> simp
end Go.Proofs.YticefdfhcahlfaaDoor.AM

namespace Go.Proofs.YticefdfhcahlfaaDoor.AM
open Go.RowKit
set_option maxRecDepth 100000
set_option linter.unusedVariables false
set_option linter.unusedSimpArgs false
def numsB (xs : List Nat) : List UInt8 := (xs.map fun n => beN 8 n).flatten
theorem numsB_snoc (xs : List Nat) (n : Nat) : numsB (xs ++ [n]) = numsB xs ++ beN 8 n := by simp [numsB]
theorem numsB_len (xs : List Nat) : (numsB xs).length = 8 * xs.length := by
  induction xs with
  | nil => rfl
  | cons x xs ih => simp only [numsB, List.map_cons, List.flatten_cons, List.length_append, beN_len, List.length_cons] at ih ⊢; omega
def PsJ (w o : Nat) (t : Bool) (xs : List Nat) (l : List UInt8) (b : Option Nat) (σ0 : St) (mm : Nat) (rg : Regs) (σ' : St) : Prop := ∃ (i : Nat) (b' : Option Nat), mm = xs.length - i ∧ i ≤ xs.length ∧ WB σ' w (l ++ numsB (xs.take i)) b' ∧ WStp w b b' σ0 σ' ∧ rg = [(0, .ptr w 0), (6, .sl o 0 xs.length xs.length t), (7, i64 (xs.length : Nat)), (8, i64 i)]
theorem puts_c {σ : St} {w o : Nat} {t : Bool} {xs : List Nat} {l : List UInt8} {b : Option Nat} (h : WB σ w l b) (ho : o < σ.next) (hm : σ.mem.get o = some (.cells 1 (xs.map fun (n : Nat) => u64 (n : Int)))) (how : o ≠ w) (hob : b ≠ some o) (hl : l.length ≤ 100000) (hx : xs.length ≤ 1000) (Q : AVal → St → Prop)
    (hQ : ∀ σ' b', WB σ' w (l ++ numsB xs) b' → WStp w b b' σ σ' → Q (.tup []) σ') : ACall Tryd.prog 60 [.ptr w 0, .sl o 0 xs.length xs.length t] σ Q := by
  refine ACall.of_compF hmx (fun a w => Tryd.call60 a w) Tryd.func60 cf60 (n := 2) (by decide) rfl ?_
  simp [ac60, rs60, lk_cons]
  refine wp_loop (PsJ w o t xs l b σ) xs.length ?_ ?_
  · exact ⟨0, b, rfl, Nat.zero_le _, by simpa [numsB] using h, WStp.refl _ _ _, by simp [lk_cons]⟩
  · rintro mm rg σ1 ⟨i, b', rfl, hi, h1, s1, rfl⟩
    by_cases hc : i < xs.length
    · obtain ⟨x, hx1⟩ : ∃ x, xs[i]? = some x := ⟨_, List.getElem?_eq_getElem hc⟩
      have m1 := (s1.keep o ho how hob).trans hm
      have w1 : IntKind.i64.wrap ((i : Int) + 1) = ((i + 1 : Nat) : Int) := by rw [IntWalk.i64_in] <;> omega
      have htk : xs.take (i + 1) = xs.take i ++ [x] := by rw [List.take_add_one, hx1]; rfl
      have hnl := numsB_len (xs.take i)
      rw [List.length_take] at hnl
      simp [lk_cons, hc, m1, hx1]
      refine wu64_c h1 (by rw [List.length_append]; omega) _ fun σ2 b2 h2 s2 => ?_
      simp [lk_cons, w1]
      refine ⟨xs.length - (i + 1), by omega, i + 1, b2, rfl, by omega, ?_, s1.trans s2, rfl⟩
      rw [(List.getElem?_eq_some_iff.1 hx1).2] at h2
      rw [htk, numsB_snoc, ← List.append_assoc]
      exact h2
    · have : i = xs.length := by omega
      subst this
      rw [List.take_length] at h1
      simp [lk_cons]
      exact hQ σ1 b' h1 s1
end Go.Proofs.YticefdfhcahlfaaDoor.AM

namespace Go.Proofs.YticefdfhcahlfaaDoor.AM
open Go.RowKit
set_option maxRecDepth 100000
set_option linter.unusedVariables false
set_option linter.unusedSimpArgs false
structure NoteV where
  kind : Nat
  topic : Nat
  yes : Bool
  code : Int
  nums : List Nat
  name : ByteArray
  key : ByteArray
  data : List UInt8
  items : List (Nat × List UInt8)
def noteC (x : NoteV) (dv iv : AVal) : List AVal := [.int .u8 (x.kind : Int), .int .u8 (x.topic : Int), .bool x.yes, .int .i64 x.code] ++ x.nums.map (fun (n : Nat) => u64 (n : Int)) ++ [.str x.name, .str x.key, dv, iv]
structure NoteV.Ok (x : NoteV) : Prop where
  kind : x.kind < 256
  topic : x.topic < 256
  nums : x.nums.length = 7
  lt : ∀ n ∈ x.nums, n < 18446744073709551616
def itB (x : Nat × List UInt8) : List UInt8 := beN 8 x.1 ++ byB x.2
def itsB (l : List (Nat × List UInt8)) : List UInt8 := (l.map itB).flatten
theorem itsB_snoc (l : List (Nat × List UInt8)) (x : Nat × List UInt8) : itsB (l ++ [x]) = itsB l ++ itB x := by simp [itsB]
def codeN (x : NoteV) : Nat := (IntKind.u8.wrap x.code).toNat
def noteH (x : NoteV) : List UInt8 := beN 1 x.kind ++ beN 1 x.topic ++ beN 1 (if x.yes then 1 else 0) ++ beN 1 (codeN x)
def noteM (x : NoteV) : List UInt8 := txB x.name ++ txB x.key ++ byB x.data ++ beN 2 (x.items.length % 65536)
def noteB (x : NoteV) : List UInt8 := noteH x ++ numsB x.nums ++ noteM x ++ itsB x.items
theorem flag_c {σ : St} (b : Bool) (Q : AVal → St → Prop) (hQ : Q (.int .u8 ((if b then 1 else 0 : Nat) : Int)) σ) : ACall Tryd.prog 36 [.bool b] σ Q := by
  refine ACall.of_compF hmx (fun a w => Tryd.call36 a w) Tryd.func36 cf36 (n := 1) (by decide) rfl ?_
  cases b
  · simp [ac36, rs36, lk_cons]; exact hQ
  · simp [ac36, rs36, lk_cons]; exact hQ
theorem numbers_c {σ : St} {p : Nat} (Q : AVal → St → Prop) (hQ : Q (.sl σ.next 0 7 7 true) ⟨σ.mem.set σ.next (.cells 1 ([4, 5, 6, 7, 8, 9, 10].map fun i => .ptr p i)), σ.next + 1⟩) : ACall Tryd.prog 37 [.ptr p 0] σ Q := by
  refine ACall.of_compF hmx (fun a w => Tryd.call37 a w) Tryd.func37 cf37 (n := 1) (by decide) rfl ?_
  simp [ac37, rs37, lk_cons, fillL, repL, storeL]
  exact hQ
end Go.Proofs.YticefdfhcahlfaaDoor.AM

namespace Go.Proofs.YticefdfhcahlfaaDoor.AM
open Go.RowKit
set_option maxRecDepth 100000
set_option linter.unusedVariables false
set_option linter.unusedSimpArgs false
structure NoteV.Few (x : NoteV) : Prop where
  name : x.name.size ≤ 5000
  key : x.key.size ≤ 5000
  data : x.data.length ≤ 5000
  items : x.items.length ≤ 60
  each : ∀ y ∈ x.items, y.2.length ≤ 1000
theorem itsB_len {l : List (Nat × List UInt8)} (h : ∀ y ∈ l, y.2.length ≤ 1000) : (itsB l).length ≤ 1012 * l.length := by
  induction l with
  | nil => simp [itsB]
  | cons x l ih =>
    have h1 := h x (by simp)
    have h2 := ih fun y hy => h y (by simp [hy])
    simp only [itsB, List.map_cons, List.flatten_cons, List.length_append, itB, byB_len, beN_len, List.length_cons] at h2 ⊢
    omega
def TnJ (p w o : Nat) (xs : List Nat) (l : List UInt8) (S σ0 : St) (mm : Nat) (rg : Regs) (σ' : St) : Prop := ∃ (i : Nat) (b : Option Nat), mm = 7 - i ∧ i ≤ 7 ∧ WB σ' w (l ++ numsB (xs.take i)) b ∧ WStp w none b S σ' ∧ (b ≠ some o ∧ o < σ'.next ∧ σ'.mem.get o = some (.cells 1 ([4, 5, 6, 7, 8, 9, 10].map fun i => AVal.ptr p i))) ∧ rg = [(1, .ptr p 0), (4, .ptr w 0), (5, .fn 34 [.ptr w 0] []), (35, .sl o 0 7 7 true), (36, i64 7), (37, i64 i)]
def TxJ (p w o : Nat) (n k : ByteArray) (l : List UInt8) (S : St) (mm : Nat) (rg : Regs) (σ' : St) : Prop := ∃ (i : Nat) (b : Option Nat), mm = 2 - i ∧ i ≤ 2 ∧ WB σ' w (l ++ (([n, k].take i).map txB).flatten) b ∧ WStp w none b S σ' ∧ (b ≠ some o ∧ o < σ'.next ∧ σ'.mem.get o = some (.cells 1 [.str n, .str k])) ∧ rg = [(1, .ptr p 0), (4, .ptr w 0), (5, .fn 34 [.ptr w 0] []), (51, .sl o 0 2 2 true), (52, i64 2), (53, i64 i)]
def ItJ (p w : Nat) (iv : AVal) (its : List (Nat × List UInt8)) (l : List UInt8) (S : St) (mm : Nat) (rg : Regs) (σ' : St) : Prop := ∃ (i : Nat) (b : Option Nat), mm = its.length - i ∧ i ≤ its.length ∧ WB σ' w (l ++ itsB (its.take i)) b ∧ WStp w none b S σ' ∧ rg = [(1, .ptr p 0), (4, .ptr w 0), (5, .fn 34 [.ptr w 0] []), (72, iv), (73, i64 (its.length : Nat)), (74, i64 i)]
theorem ItemsOf.at {v : AVal} {xs : List (Nat × List UInt8)} (h : ItemsOf v xs) {i : Nat} {x : Nat × List UInt8} (hx : xs[i]? = some x) : ∃ d, BytesOf d x.2 ∧ ∃ p, (∀ ρ, evalV ρ (.idxAddr 2 v (.int .i64 (i : Int))) = some (p, ρ)) ∧ ∀ ρ, evalV ρ (.ldn 2 p) = some (.agg [u64 (x.1 : Int), d], ρ) := by
  rcases h with ⟨rfl, rfl⟩ | ⟨cs, k, t, rfl, rfl, hc⟩
  · simp at hx
  · obtain ⟨d, h1, h2⟩ := hc.get hx
    have hi := (List.getElem?_eq_some_iff.1 hx).1
    refine ⟨d, h1, _, fun ρ => by simp [hi]; rfl, fun ρ => ?_⟩
    rw [h2]
    simp
theorem wu16_c {σ : St} {w : Nat} {l : List UInt8} {b : Option Nat} (h : WB σ w l b) {n : Nat} (hn : n < 65536) (hl : l.length ≤ 1000000000) (Q : AVal → St → Prop)
    (hQ : ∀ σ' b', WB σ' w (l ++ beN 2 n) b' → WStp w b b' σ σ' → Q (.tup []) σ') : ACall Tryd.prog 40 [.ptr w 0, .int .u16 (n : Int)] σ Q := by
  refine ACall.of_compF hmx (fun a w => Tryd.call40 a w) Tryd.func40 cf40 (n := 2) (by decide) rfl ?_
  have w1 : IntKind.u64.wrap (n : Int) = n := by rw [IntWalk.u64_in] <;> omega
  simp [ac40, rs40, lk_cons, w1]
  refine wnum_c h (size := 2) (by decide) hl _ fun σ' b' h1 h2 => ?_
  simp [lk_cons]
  exact hQ σ' b' h1 h2
set_option maxHeartbeats 2000000 in
theorem tell_c {σ : St} {x : NoteV} {dv iv : AVal} (ok : x.Ok) (fw : x.Few) (hd : BytesOf dv x.data) (hi : ItemsOf iv x.items) (Q : AVal → St → Prop)
    (hR : ∀ σ', Grow σ σ' → x.code < 0 ∨ 255 < x.code → Q (.tup [.nilsl, i64 2]) σ') (hL : ∀ σ', Grow σ σ' → ¬ (x.code < 0 ∨ 255 < x.code) → 4096 < (noteB x).length → Q (.tup [.nilsl, i64 3]) σ')
    (hQ : ∀ v b' σ', GS rwB σ' v (noteB x) b' → (∀ y, b' = some y → σ.next ≤ y) → Grow σ σ' → ¬ (x.code < 0 ∨ 255 < x.code) → (noteB x).length ≤ 4096 → Q (.tup [v, i64 0]) σ') : ACall Tryd.prog 14 [.agg (noteC x dv iv)] σ Q := by
  refine ACall.of_compF hmx (fun a w => Tryd.call14 a w) Tryd.func14 cf14 (n := 1) (by decide) rfl ?_
  obtain ⟨o1, o2⟩ := (RdB.ofI hd σ).one
  obtain ⟨o3, o4⟩ := hi.one
  obtain ⟨n1, n2, n3, n4, n5, n6, n7, hnums⟩ : ∃ a b c d e f g, x.nums = [a, b, c, d, e, f, g] := by
    have := ok.nums
    match h : x.nums, this with
    | [a, b, c, d, e, f, g], _ => exact ⟨a, b, c, d, e, f, g, rfl⟩
  have hC : noteC x dv iv = [.int .u8 (x.kind : Int), .int .u8 (x.topic : Int), .bool x.yes, .int .i64 x.code, u64 (n1 : Int), u64 (n2 : Int), u64 (n3 : Int), u64 (n4 : Int), u64 (n5 : Int), u64 (n6 : Int), u64 (n7 : Int), .str x.name, .str x.key, dv, iv] := by rw [noteC, hnums]; rfl
  rw [hC]
  simp [ac14, rs14, lk_cons, fillL, storeL, o1, o2, o3, o4]
  obtain ⟨S, hS⟩ : ∃ S : St, S = ⟨(σ.mem.set σ.next (.cells 15 [.int .u8 (x.kind : Int), .int .u8 (x.topic : Int), .bool x.yes, .int .i64 x.code, u64 (n1 : Int), u64 (n2 : Int), u64 (n3 : Int), u64 (n4 : Int), u64 (n5 : Int), u64 (n6 : Int), u64 (n7 : Int), .str x.name, .str x.key, dv, iv])).set (σ.next + 1) (.cells 1 [.nilsl]), σ.next + 1 + 1⟩ := ⟨_, rfl⟩
  have nS : S.next = σ.next + 2 := by rw [hS]
  have gS : Grow σ S := ⟨by omega, fun a ha => by rw [hS]; simp [show ¬ a = σ.next by omega, show ¬ a = σ.next + 1 by omega]⟩
  have mS : S.mem.get σ.next = some (.cells 15 [.int .u8 (x.kind : Int), .int .u8 (x.topic : Int), .bool x.yes, .int .i64 x.code, u64 (n1 : Int), u64 (n2 : Int), u64 (n3 : Int), u64 (n4 : Int), u64 (n5 : Int), u64 (n6 : Int), u64 (n7 : Int), .str x.name, .str x.key, dv, iv]) := by rw [hS]; simp
  have h0 : WB S (σ.next + 1) [] none := ⟨.nilsl, by rw [hS]; simp, GS.nil _, by simp, by omega⟩
  have mm : ∀ {σ' : St} {b : Option Nat}, WStp (σ.next + 1) none b S σ' → σ'.mem.get σ.next = S.mem.get σ.next := fun t => t.keep σ.next (by omega) (by omega) (by simp)
  have hcode : IntKind.u8.wrap x.code = (codeN x : Int) ∧ codeN x < 256 := by
    unfold codeN
    simp only [IntKind.wrap, IntKind.bits, IntKind.signed]; simp; omega
  rw [← hS]
  refine wu8_c h0 ok.kind (by simp) _ fun σ1 b1 h1 t1 => ?_
  simp [lk_cons, mm t1, mS]
  refine wu8_c h1 ok.topic (by simp [beN_len]) _ fun σ2 b2 h2 t2 => ?_
  have t2 := t1.trans t2
  simp [lk_cons, mm t2, mS]
  refine flag_c _ _ ?_
  simp [lk_cons]
  refine wu8_c h2 (n := if x.yes then 1 else 0) (by split <;> decide) (by simp [beN_len]) _ fun σ3 b3 h3 t3 => ?_
  have t3 := t2.trans t3
  simp [lk_cons, mm t3, mS, hcode.1]
  refine wu8_c h3 hcode.2 (by simp [beN_len]) _ fun σ4 b4 h4 t4 => ?_
  have t4 := t3.trans t4
  simp [lk_cons]
  refine numbers_c _ ?_
  simp [lk_cons]
  change WB σ4 (σ.next + 1) (noteH x) b4 at h4
  have hHl : (noteH x).length = 4 := by simp [noteH, beN_len]
  have n4' := t4.next
  obtain ⟨S4, hS4⟩ : ∃ S4 : St, S4 = ⟨σ4.mem.set σ4.next (.cells 1 [.ptr σ.next 4, .ptr σ.next 5, .ptr σ.next 6, .ptr σ.next 7, .ptr σ.next 8, .ptr σ.next 9, .ptr σ.next 10]), σ4.next + 1⟩ := ⟨_, rfl⟩
  have nS4 : S4.next = σ4.next + 1 := by rw [hS4]
  have kS4 : ∀ a, a < σ4.next → S4.mem.get a = σ4.mem.get a := fun a ha => by rw [hS4]; simp [show ¬ a = σ4.next by omega]
  have mS4 : S4.mem.get σ4.next = some (.cells 1 ([4, 5, 6, 7, 8, 9, 10].map fun i => AVal.ptr σ.next i)) := by rw [hS4]; simp
  have w4 : WB S4 (σ.next + 1) (noteH x) b4 := h4.keep (by omega) fun a ha _ => kS4 a ha
  have hb4 : b4 ≠ some σ4.next := fun e => by
    obtain ⟨_, _, hg, _, _⟩ := id h4
    have := hg.lt e; omega
  have s4 : WStp (σ.next + 1) none b4 S S4 := ⟨by omega, t4.own, fun a ha hw hb => (kS4 a (by omega)).trans (t4.keep a ha hw hb)⟩
  rw [← hS4]
  refine wp_loop (TnJ σ.next (σ.next + 1) σ4.next [n1, n2, n3, n4, n5, n6, n7] (noteH x) S σ4) 7 ?_ ?_
  · exact ⟨0, b4, rfl, by omega, by simpa [numsB] using w4, s4, ⟨hb4, by omega, mS4⟩, by simp [lk_cons]⟩
  rintro m rg σ5 ⟨i, b5, rfl, hi7, w5, s5, ⟨ob, on, om⟩, rfl⟩
  have m5 := (mm s5).trans mS
  by_cases hc : i < 7
  · have hc' : (i : Int) < 7 := by omega
    have w1 : IntKind.i64.wrap ((i : Int) + 1) = ((i + 1 : Nat) : Int) := by rw [IntWalk.i64_in] <;> omega
    obtain ⟨n, hx, hp, hv⟩ : ∃ n : Nat, [n1, n2, n3, n4, n5, n6, n7][i]? = some n ∧ ([4, 5, 6, 7, 8, 9, 10].map fun i => AVal.ptr σ.next i)[i]? = some (.ptr σ.next (4 + i)) ∧ ([.int .u8 (x.kind : Int), .int .u8 (x.topic : Int), .bool x.yes, .int .i64 x.code, u64 (n1 : Int), u64 (n2 : Int), u64 (n3 : Int), u64 (n4 : Int), u64 (n5 : Int), u64 (n6 : Int), u64 (n7 : Int), .str x.name, .str x.key, dv, iv] : List AVal)[4 + i]? = some (u64 (n : Int)) := by
      rcases (by omega : i = 0 ∨ i = 1 ∨ i = 2 ∨ i = 3 ∨ i = 4 ∨ i = 5 ∨ i = 6) with rfl | rfl | rfl | rfl | rfl | rfl | rfl <;> exact ⟨_, rfl, rfl, rfl⟩
    have htk : [n1, n2, n3, n4, n5, n6, n7].take (i + 1) = [n1, n2, n3, n4, n5, n6, n7].take i ++ [n] := by rw [List.take_add_one, hx]; rfl
    have om0 := om
    revert m5 om
    generalize ([.int .u8 (x.kind : Int), .int .u8 (x.topic : Int), .bool x.yes, .int .i64 x.code, u64 (n1 : Int), u64 (n2 : Int), u64 (n3 : Int), u64 (n4 : Int), u64 (n5 : Int), u64 (n6 : Int), u64 (n7 : Int), .str x.name, .str x.key, dv, iv] : List AVal) = cells at hv
    generalize ([4, 5, 6, 7, 8, 9, 10].map fun i => AVal.ptr σ.next i) = ptrs at hp
    intro om m5
    have hnl := numsB_len ([n1, n2, n3, n4, n5, n6, n7].take i)
    rw [List.length_take] at hnl
    simp [lk_cons, hc, hc', om, hp, m5, hv]
    refine wu64_c w5 (by rw [List.length_append]; simp at hnl; omega) _ fun σ6 b6 h6 t6 => ?_
    simp [lk_cons, w1]
    refine ⟨7 - (i + 1), by omega, i + 1, b6, rfl, by omega, ?_, s5.trans t6, ⟨fun e => ?_, by have := t6.next; omega, ?_⟩, rfl⟩
    · rw [htk, numsB_snoc, ← List.append_assoc]
      exact h6
    · rcases t6.own _ e with e | e
      · exact ob e
      · omega
    · exact (t6.keep σ4.next on (by omega) ob).trans om0
  · have : i = 7 := by omega
    subst this
    simp only [List.take_succ_cons, List.take_nil, List.take_zero] at w5
    rw [← hnums] at w5
    have hnl : (noteH x ++ numsB x.nums).length = 60 := by rw [List.length_append, hHl, numsB_len, ok.nums]
    simp [lk_cons, m5, fillL, repL, storeL]
    revert w5 hnl
    generalize hHM : noteH x ++ numsB x.nums = LH
    intro w5 hnl
    obtain ⟨S5, hS5⟩ : ∃ S5 : St, S5 = ⟨σ5.mem.set σ5.next (.cells 1 [.str x.name, .str x.key]), σ5.next + 1⟩ := ⟨_, rfl⟩
    have nS5 : S5.next = σ5.next + 1 := by rw [hS5]
    have n5 := s5.next
    have kS5 : ∀ a, a < σ5.next → S5.mem.get a = σ5.mem.get a := fun a ha => by rw [hS5]; simp [show ¬ a = σ5.next by omega]
    have mS5 : S5.mem.get σ5.next = some (.cells 1 [.str x.name, .str x.key]) := by rw [hS5]; simp
    have hb5 : b5 ≠ some σ5.next := fun e => by
      obtain ⟨_, _, hg, _, _⟩ := id w5
      have := hg.lt e; omega
    have s5' : WStp (σ.next + 1) none b5 S S5 := ⟨by omega, s5.own, fun a ha hw hb => (kS5 a (by omega)).trans (s5.keep a ha hw hb)⟩
    rw [← hS5]
    refine wp_loop (TxJ σ.next (σ.next + 1) σ5.next x.name x.key LH S) 2 ?_ ?_
    · exact ⟨0, b5, rfl, by omega, by simpa using w5.keep (by omega) fun a ha _ => kS5 a ha, s5', ⟨hb5, by omega, mS5⟩, by simp [lk_cons]⟩
    rintro m rg σ6 ⟨i, b6, rfl, hi2, w6, s6, ⟨ob6, on6, om6⟩, rfl⟩
    have m6 := (mm s6).trans mS
    have hTl : ∀ j, ((([x.name, x.key].take j).map txB).flatten).length ≤ 10008 := fun j => by
      have h1 := fw.name; have h2 := fw.key
      match j with
      | 0 => simp
      | 1 => simp [txB_len]; omega
      | j + 2 => simp [txB_len]; omega
    by_cases hc6 : i < 2
    · have hc6' : (i : Int) < 2 := by omega
      have w1 : IntKind.i64.wrap ((i : Int) + 1) = ((i + 1 : Nat) : Int) := by rw [IntWalk.i64_in] <;> omega
      obtain ⟨tx, hx, hp, htl⟩ : ∃ tx : ByteArray, [x.name, x.key][i]? = some tx ∧ ([.str x.name, .str x.key] : List AVal)[i]? = some (.str tx) ∧ tx.size ≤ 5000 := by
        rcases (by omega : i = 0 ∨ i = 1) with rfl | rfl
        · exact ⟨_, rfl, rfl, fw.name⟩
        · exact ⟨_, rfl, rfl, fw.key⟩
      have htk : [x.name, x.key].take (i + 1) = [x.name, x.key].take i ++ [tx] := by rw [List.take_add_one, hx]; rfl
      have om0 := om6
      revert om6
      generalize ([.str x.name, .str x.key] : List AVal) = strs at hp
      intro om6
      have hl6 := hTl i
      simp [lk_cons, hc6, hc6', om6, hp]
      refine wtext_c w6 (by rw [List.length_append]; omega) (by omega) _ fun σ7 b7 h7 t7 => ?_
      simp [lk_cons, w1]
      refine ⟨2 - (i + 1), by omega, i + 1, b7, rfl, by omega, ?_, s6.trans t7, ⟨fun e => ?_, by have := t7.next; omega, ?_⟩, rfl⟩
      · rw [htk, List.map_append, List.flatten_append, ← List.append_assoc]
        simpa [txB] using h7
      · rcases t7.own _ e with e | e
        · exact ob6 e
        · omega
      · exact (t7.keep σ5.next on6 (by omega) ob6).trans om0
    · have : i = 2 := by omega
      subst this
      simp only [List.take_succ_cons, List.take_nil, List.take_zero, List.map_cons, List.map_nil, List.flatten_cons, List.flatten_nil, List.append_nil] at w6
      simp [lk_cons, m6]
      have hilen := hi.len
      have hf1 := fw.name
      have hf2 := fw.key
      have hf3 := fw.data
      have hf4 := fw.items
      refine wbytes_c w6 (SrcB.ofI hd) (by simp [txB_len]; omega) (by omega) _ fun σ7 b7 h7 t7 => ?_
      have t7 := s6.trans t7
      have m7 := (mm t7).trans mS
      have wl : IntKind.u16.wrap (x.items.length : Int) = x.items.length := by rw [IntWalk.u16_in] <;> omega
      simp [lk_cons, m7, ↓hilen, wl]
      refine wu16_c h7 (by omega) (by simp [txB_len, beN_len]; omega) _ fun σ8 b8 h8 t8 => ?_
      have t8 := t7.trans t8
      have m8 := (mm t8).trans mS
      have hall : LH ++ (txB x.name ++ txB x.key) ++ (beN 4 x.data.length ++ x.data) ++ beN 2 x.items.length = noteH x ++ numsB x.nums ++ noteM x := by
        rw [← hHM, noteM, Nat.mod_eq_of_lt (by omega)]
        simp [byB, List.append_assoc]
      rw [hall] at h8
      have hML : (noteH x ++ numsB x.nums ++ noteM x).length = 74 + x.name.size + x.key.size + x.data.length := by
        rw [hHM]
        simp only [List.length_append, noteM, txB_len, byB_len, beN_len, hnl]; omega
      simp [lk_cons, m8, ↓hilen]
      revert h8 hML
      generalize hLM : noteH x ++ numsB x.nums ++ noteM x = LM
      intro h8 hML
      refine wp_loop (ItJ σ.next (σ.next + 1) iv x.items LM S) x.items.length ?_ ?_
      · exact ⟨0, b8, rfl, Nat.zero_le _, by simpa [itsB] using h8, t8, by simp [lk_cons]⟩
      rintro m rg σ9 ⟨i, b9, rfl, hi9, w9, s9, rfl⟩
      have m9 := (mm s9).trans mS
      have n9 := s9.next
      by_cases hc9 : i < x.items.length
      · obtain ⟨y, hy⟩ : ∃ y, x.items[i]? = some y := ⟨_, List.getElem?_eq_getElem hc9⟩
        obtain ⟨d, hyd, p, i1, i2⟩ := hi.at hy
        obtain ⟨p1, p2⟩ := (RdB.ofI hyd σ9).one
        have hye := fw.each y (List.mem_of_getElem? hy)
        have w1 : IntKind.i64.wrap ((i : Int) + 1) = ((i + 1 : Nat) : Int) := by rw [IntWalk.i64_in] <;> omega
        have htk : x.items.take (i + 1) = x.items.take i ++ [y] := by rw [List.take_add_one, hy]; rfl
        have hil := itsB_len (l := x.items.take i) fun z hz => fw.each z (List.mem_of_mem_take hz)
        rw [List.length_take] at hil
        simp [lk_cons, hc9, ↓i1, ↓i2, storeL, p1, p2]
        obtain ⟨S9, hS9⟩ : ∃ S9 : St, S9 = ⟨(σ9.mem.set σ9.next (.cells 2 [.int .u64 0, .nilsl])).set σ9.next (.cells 2 [u64 (y.1 : Int), d]), σ9.next + 1⟩ := ⟨_, rfl⟩
        have nS9 : S9.next = σ9.next + 1 := by rw [hS9]
        have kS9 : ∀ a, a < σ9.next → S9.mem.get a = σ9.mem.get a := fun a ha => by rw [hS9]; simp [show ¬ a = σ9.next by omega]
        have mS9 : S9.mem.get σ9.next = some (.cells 2 [u64 (y.1 : Int), d]) := by rw [hS9]; simp
        have hb9 : b9 ≠ some σ9.next := fun e => by
          obtain ⟨_, _, hg, _, _⟩ := id w9
          have := hg.lt e; omega
        have s9' : WStp (σ.next + 1) none b9 S S9 := ⟨by omega, s9.own, fun a ha hw hb => (kS9 a (by omega)).trans (s9.keep a ha hw hb)⟩
        rw [← hS9]
        refine wu64_c (w9.keep (by omega) fun a ha _ => kS9 a ha) (by rw [List.length_append]; omega) _ fun σa ba ha ta => ?_
        have mSa := (ta.keep σ9.next (by omega) (by omega) hb9).trans mS9
        simp [lk_cons, mSa]
        refine wbytes_c ha (SrcB.ofI hyd) (by simp only [List.length_append, beN_len]; omega) (by omega) _ fun σb bb hb tb => ?_
        simp [lk_cons, w1]
        refine ⟨x.items.length - (i + 1), by omega, i + 1, bb, rfl, by omega, ?_, s9'.trans (ta.trans tb), rfl⟩
        rw [htk, itsB_snoc]
        simpa [itB, byB, List.append_assoc] using hb
      · have : i = x.items.length := by omega
        subst this
        rw [List.take_length] at w9
        have hil := itsB_len (l := x.items) fw.each
        simp [lk_cons]
        refine wdone_c w9 (by rw [List.length_append]; omega) _ fun σd vd bd hd1 hd2 hd3 => ?_
        rw [← hLM] at hd1
        change GS rwB σd vd (noteB x) bd at hd1
        have md := (hd3.2 σ.next (by omega)).trans m9
        have gr : Grow σ σd := ⟨by have := hd3.1; omega, fun a ha => (hd3.2 a (by omega)).trans ((s9.keep a (by omega) (by omega) (by simp)).trans (gS.2 a ha))⟩
        have hlen := hd1.len
        by_cases hcd : x.code < 0
        · simp [lk_cons, md, hcd]
          exact hR σd gr (.inl hcd)
        by_cases hce : 255 < x.code
        · simp [lk_cons, md, hcd, hce]
          exact hR σd gr (.inr hce)
        have hit : ¬ (65535 : Int) < x.items.length := by omega
        have hit' : ¬ 65535 < x.items.length := by omega
        by_cases hcl : 4096 < (noteB x).length
        · have hcl' : (4096 : Int) < (noteB x).length := by omega
          simp [lk_cons, md, hcd, hce, ↓hilen, hit, hit', ↓hlen, hcl, hcl']
          exact hL σd gr (by omega) hcl
        · have hcl' : ¬ (4096 : Int) < (noteB x).length := by omega
          simp [lk_cons, md, hcd, hce, ↓hilen, hit, hit', ↓hlen, hcl, hcl']
          exact hQ vd bd σd hd1 (fun z hz => by have := hd2 z hz; omega) gr (by omega) (by omega)
end Go.Proofs.YticefdfhcahlfaaDoor.AM

namespace Go.Proofs.YticefdfhcahlfaaDoor.AM
open Go.RowKit
set_option maxRecDepth 100000
set_option linter.unusedVariables false
set_option linter.unusedSimpArgs false
theorem BStp.grow0 {b' : Option Nat} {σ σ' : St} (h : BStp none b' σ σ') : Grow σ σ' := ⟨h.next, fun a ha => h.keep a ha (by simp)⟩
end Go.Proofs.YticefdfhcahlfaaDoor.AM

namespace Go.Proofs.YticefdfhcahlfaaDoor.AM
open Go.RowKit
set_option maxRecDepth 100000
set_option linter.unusedVariables false
set_option linter.unusedSimpArgs false
theorem pNum_err {k : Nat} {l : List UInt8} {e : Nat} (h : pNum k l = .error e) : e ≠ 0 := by
  unfold pNum at h
  split at h
  · cases h; decide
  · cases h
theorem pBytes_err {l : List UInt8} {e : Nat} (h : pBytes l = .error e) : e ≠ 0 := by
  unfold pBytes at h
  split at h
  · rename_i h1; cases h; exact pNum_err h1
  · split at h
    · cases h; decide
    · cases h
theorem pText_err {l : List UInt8} {e : Nat} (h : pText l = .error e) : e ≠ 0 := by
  unfold pText at h
  split at h
  · rename_i h1; cases h; exact pBytes_err h1
  · split at h
    · cases h
    · cases h; decide
end Go.Proofs.YticefdfhcahlfaaDoor.AM


namespace Go.Proofs.YticefdfhcahlfaaDoor.AM
open Go.RowKit
set_option maxRecDepth 100000
set_option linter.unusedVariables false
set_option linter.unusedSimpArgs false
abbrev Prs (α : Type) := List UInt8 → Except Nat (α × List UInt8)
def pB {α β : Type} (p : Prs α) (f : α → Prs β) : Prs β := fun l => match p l with
  | .error e => .error e
  | .ok x => f x.1 x.2
theorem pB_err {α β : Type} {p : Prs α} {f : α → Prs β} {l : List UInt8} {e : Nat} (h : p l = .error e) : pB p f l = .error e := by simp only [pB, h]
theorem pB_ok {α β : Type} {p : Prs α} {f : α → Prs β} {l r : List UInt8} {x : α} (h : p l = .ok (x, r)) : pB p f l = f x r := by simp only [pB, h]
theorem pB_assoc {α β γ : Type} (p : Prs α) (f : α → Prs β) (g : β → Prs γ) : pB (pB p f) g = pB p fun x => pB (f x) g := by
  funext l
  simp only [pB]
  cases p l <;> rfl
def pR {α : Type} (x : α) : Prs α := fun l => .ok (x, l)
theorem pB_pR {α β : Type} (x : α) (f : α → Prs β) : pB (pR x) f = f x := rfl
theorem pB_inv {α β : Type} {p : Prs α} {f : α → Prs β} {l r : List UInt8} {y : β} (h : pB p f l = .ok (y, r)) : ∃ x m, p l = .ok (x, m) ∧ f x m = .ok (y, r) := by
  cases hp : p l with
  | error e => rw [pB_err hp] at h; cases h
  | ok x => exact ⟨x.1, x.2, rfl, by rw [pB_ok (r := x.2) (x := x.1) hp] at h; exact h⟩
theorem pB_inve {α β : Type} {p : Prs α} {f : α → Prs β} {l : List UInt8} {e : Nat} (h : pB p f l = .error e) : p l = .error e ∨ ∃ x m, p l = .ok (x, m) ∧ f x m = .error e := by
  cases hp : p l with
  | error e' => rw [pB_err hp] at h; cases h; exact .inl rfl
  | ok x => exact .inr ⟨x.1, x.2, rfl, by rw [pB_ok (r := x.2) (x := x.1) hp] at h; exact h⟩
def pFlag : Prs Bool := pB (pNum 1) fun n l => if 1 < n then .error 16 else .ok (decide (n = 1), l)
def pTx : Prs ByteArray := pB pText fun b => pR ⟨b.toArray⟩
def pMany {α : Type} (p : Prs α) : Nat → Prs (List α)
  | 0 => pR []
  | k + 1 => pB p fun x => pB (pMany p k) fun xs => pR (x :: xs)
theorem pMany_step {α β : Type} (p : Prs α) (k : Nat) (F : List α → Prs β) : pB (pMany p (k + 1)) F = pB p fun x => pB (pMany p k) fun xs => F (x :: xs) := by
  rw [pMany, pB_assoc]
  congr 1
  funext x
  rw [pB_assoc]
  rfl
def pItem : Prs (Nat × List UInt8) := pB (pNum 8) fun n => pB pBytes fun d => pR (n, d)
def pNote : Prs NoteV := pB (pNum 1) fun k => pB (pNum 1) fun t => pB pFlag fun y => pB (pNum 1) fun c => pB (pMany (pNum 8) 7) fun ns => pB pTx fun nm => pB pTx fun ky => pB pBytes fun d => pB (pNum 2) fun n => pB (pMany pItem n) fun is => pR ⟨k, t, y, (c : Int), ns, nm, ky, d, is⟩
theorem ne0 {α β : Type} {p : Prs α} {f : α → Prs β} (hp : ∀ l e, p l = .error e → e ≠ 0) (hf : ∀ x l e, f x l = .error e → e ≠ 0) (l : List UInt8) (e : Nat) (h : pB p f l = .error e) : e ≠ 0 := by
  rcases pB_inve h with h | ⟨x, m, _, h⟩
  · exact hp _ _ h
  · exact hf _ _ _ h
theorem pR_ne0 {α : Type} (x : α) (l : List UInt8) (e : Nat) (h : pR x l = .error e) : e ≠ 0 := by cases h
theorem pMany_ne0 {α : Type} {p : Prs α} (hp : ∀ l e, p l = .error e → e ≠ 0) : ∀ k l e, pMany p k l = .error e → e ≠ 0
  | 0, l, e, h => by cases h
  | k + 1, l, e, h => ne0 hp (fun x => ne0 (pMany_ne0 hp k) fun y => pR_ne0 _) l e h
theorem pItem_ne0 : ∀ l e, pItem l = .error e → e ≠ 0 := ne0 (fun l e => pNum_err) fun _ => ne0 (fun l e => pBytes_err) fun _ => pR_ne0 _
theorem pFlag_ne0 : ∀ l e, pFlag l = .error e → e ≠ 0 := ne0 (fun l e => pNum_err) fun n l e h => by
  split at h
  · cases h; decide
  · cases h
theorem pTx_ne0 : ∀ l e, pTx l = .error e → e ≠ 0 := ne0 (fun l e => pText_err) fun _ => pR_ne0 _
theorem pNote_err : ∀ {l : List UInt8} {e : Nat}, pNote l = .error e → e ≠ 0 := fun {l e} h =>
  ne0 (fun l e => pNum_err) (fun _ => ne0 (fun l e => pNum_err) fun _ => ne0 pFlag_ne0 fun _ => ne0 (fun l e => pNum_err) fun _ => ne0 (pMany_ne0 (fun l e => pNum_err) 7) fun _ => ne0 pTx_ne0 fun _ => ne0 pTx_ne0 fun _ => ne0 (fun l e => pBytes_err) fun _ => ne0 (fun l e => pNum_err) fun n => ne0 (pMany_ne0 pItem_ne0 n) fun _ => pR_ne0 _) l e h
theorem pMany_len {α : Type} {p : Prs α} (hp : ∀ l x r, p l = .ok (x, r) → r.length ≤ l.length) : ∀ k l x r, pMany p k l = .ok (x, r) → r.length ≤ l.length ∧ x.length = k
  | 0, l, x, r, h => by cases h; exact ⟨Nat.le_refl _, rfl⟩
  | k + 1, l, x, r, h => by
    obtain ⟨y, m, h1, h2⟩ := pB_inv h
    obtain ⟨ys, m2, h3, h4⟩ := pB_inv h2
    cases h4
    have := hp _ _ _ h1
    have := pMany_len hp k _ _ _ h3
    exact ⟨by omega, by rw [List.length_cons, this.2]⟩
/-! ### items in memory -/
abbrev IV := Nat × {v : AVal // v.one = true}
def rwI : Rw IV 2 := ⟨fun x => [u64 (x.1 : Int), x.2.1], fun _ => rfl, fun x => by simp [x.2.2]⟩
def Its (σ : St) (K : Nat → Prop) (b : Option Nat) (its : List IV) (xs : List (Nat × List UInt8)) : Prop := its.length = xs.length ∧ ∀ (i : Nat) (it : IV) (x : Nat × List UInt8), its[i]? = some it → xs[i]? = some x → it.1 = x.1 ∧ ∃ c, RdB σ it.2.1 x.2 c ∧ ∀ y, c = some y → K y ∧ b ≠ some y
theorem Its.nil (σ : St) (K : Nat → Prop) (b : Option Nat) : Its σ K b [] [] := ⟨rfl, fun i it x h => by simp at h⟩
theorem Its.snoc {σ : St} {K : Nat → Prop} {b : Option Nat} {its : List IV} {xs : List (Nat × List UInt8)} (h : Its σ K b its xs) {n : Nat} {v : AVal} {hv : v.one = true} {d : List UInt8} {c : Option Nat} (hd : RdB σ v d c) (hc : ∀ y, c = some y → K y ∧ b ≠ some y) : Its σ K b (its ++ [(n, ⟨v, hv⟩)]) (xs ++ [(n, d)]) := by
  refine ⟨by simp [h.1], fun i it x h1 h2 => ?_⟩
  by_cases hi : i < its.length
  · rw [List.getElem?_append_left hi] at h1
    rw [List.getElem?_append_left (by rw [← h.1]; exact hi)] at h2
    exact h.2 i it x h1 h2
  · rw [List.getElem?_append_right (by omega)] at h1
    rw [List.getElem?_append_right (by rw [← h.1]; omega), ← h.1] at h2
    cases hk : i - its.length with
    | zero =>
      rw [hk] at h1 h2
      simp at h1 h2
      subst h1; subst h2
      exact ⟨rfl, c, hd, hc⟩
    | succ k => rw [hk] at h1; simp at h1
theorem Its.keep {σ σ' : St} {K : Nat → Prop} {b b' : Option Nat} {its : List IV} {xs : List (Nat × List UInt8)} (h : Its σ K b its xs) (hn : σ.next ≤ σ'.next) (hm : ∀ a, a < σ.next → K a → b ≠ some a → σ'.mem.get a = σ.mem.get a) (hb : ∀ a, a < σ.next → b' = some a → b = some a) : Its σ' K b' its xs := by
  refine ⟨h.1, fun i it x h1 h2 => ?_⟩
  obtain ⟨e, c, hr, hc⟩ := h.2 i it x h1 h2
  exact ⟨e, c, hr.keep hn fun a ha hca => hm a ha (hc a hca).1 (hc a hca).2, fun y hy => ⟨(hc y hy).1, fun e => (hc y hy).2 (hb y (hr.lt hy) e)⟩⟩
def ItR (σ : St) (K : Nat → Prop) (v : AVal) (xs : List (Nat × List UInt8)) : Prop := ItemsOf v xs ∨ ∃ its b, GS rwI σ v its b ∧ (∀ y, b = some y → K y) ∧ Its σ K b its xs
theorem ItR.keep {σ σ' : St} {K : Nat → Prop} {v : AVal} {xs : List (Nat × List UInt8)} (h : ItR σ K v xs) (hn : σ.next ≤ σ'.next) (hm : ∀ a, a < σ.next → K a → σ'.mem.get a = σ.mem.get a) : ItR σ' K v xs := by
  rcases h with h | ⟨its, b, h1, h2, h3⟩
  · exact .inl h
  · exact .inr ⟨its, b, h1.keep hn fun a ha hb => hm a ha (h2 a hb), h2, h3.keep hn (fun a ha hk _ => hm a ha hk) fun _ _ e => e⟩
theorem ItR.mono {σ : St} {K K' : Nat → Prop} {v : AVal} {xs : List (Nat × List UInt8)} (h : ItR σ K v xs) (hk : ∀ a, K a → K' a) : ItR σ K' v xs := by
  rcases h with h | ⟨its, b, h1, h2, h3⟩
  · exact .inl h
  · exact .inr ⟨its, b, h1, fun y hy => hk _ (h2 y hy), h3.1, fun i it x a1 a2 => by
      obtain ⟨e, c, hr, hc⟩ := h3.2 i it x a1 a2
      exact ⟨e, c, hr, fun y hy => ⟨hk _ (hc y hy).1, (hc y hy).2⟩⟩⟩
theorem ItR.one {σ : St} {K : Nat → Prop} {v : AVal} {xs : List (Nat × List UInt8)} (h : ItR σ K v xs) : v.one = true ∧ cellsOf v = [v] := by
  rcases h with h | ⟨its, b, h1, h2, h3⟩
  · exact h.one
  · exact h1.one
end Go.Proofs.YticefdfhcahlfaaDoor.AM

namespace Go.Proofs.YticefdfhcahlfaaDoor.AM
open Go.RowKit
set_option maxRecDepth 100000
set_option linter.unusedVariables false
set_option linter.unusedSimpArgs false
def tabT : TabL := [(14, ac14, rs14, 1), (34, ac34, rs34, 2), (35, ac35, rs35, 2), (36, ac36, rs36, 1), (37, ac37, rs37, 1), (38, ac38, rs38, 2), (39, ac39, rs39, 2), (40, ac40, rs40, 2), (41, ac41, rs41, 1), (79, ac79, rs79, 3), (80, ac80, rs80, 1)]
theorem tabTOk : TabOk Tryd.prog (look tabT) := by
  unfold tabT
  refine tab_cons ?_ (fun a w => Tryd.call14 a w) Tryd.func14 cf14 (by decide)
  refine tab_cons ?_ (fun a w => Tryd.call34 a w) Tryd.func34 cf34 (by decide)
  refine tab_cons ?_ (fun a w => Tryd.call35 a w) Tryd.func35 cf35 (by decide)
  refine tab_cons ?_ (fun a w => Tryd.call36 a w) Tryd.func36 cf36 (by decide)
  refine tab_cons ?_ (fun a w => Tryd.call37 a w) Tryd.func37 cf37 (by decide)
  refine tab_cons ?_ (fun a w => Tryd.call38 a w) Tryd.func38 cf38 (by decide)
  refine tab_cons ?_ (fun a w => Tryd.call39 a w) Tryd.func39 cf39 (by decide)
  refine tab_cons ?_ (fun a w => Tryd.call40 a w) Tryd.func40 cf40 (by decide)
  refine tab_cons ?_ (fun a w => Tryd.call41 a w) Tryd.func41 cf41 (by decide)
  refine tab_cons ?_ (fun a w => Tryd.call79 a w) Tryd.func79 cf79 (by decide)
  refine tab_cons ?_ (fun a w => Tryd.call80 a w) Tryd.func80 cf80 (by decide)
  exact tab_nil hmx
def noteZ : AVal := .agg [.int .u8 0, .int .u8 0, .bool false, .int .i64 0, .int .u64 0, .int .u64 0, .int .u64 0, .int .u64 0, .int .u64 0, .int .u64 0, .int .u64 0, .str ⟨#[]⟩, .str ⟨#[]⟩, .nilsl, .nilsl]
theorem tell_run : ((callT (look tabT) 300 20 14 [noteZ] σ0).bind fun x => frz 0 x.2.mem x.1) = some (.tup [.isl (bytesV (List.replicate 74 0)) 74 false, .int .i64 0]) := by kernel_rfl
theorem tell0_c {σ : St} (Q : AVal → St → Prop) (hQ : Q (.tup [.isl (bytesV (List.replicate 74 0)) 74 false, .int .i64 0]) σ) : ACall Tryd.prog 14 [noteZ] σ Q := by
  refine ACall.pure rfl ?_
  have h := tell_run
  cases hc : callT (look tabT) 300 20 14 [noteZ] σ0 with
  | none => rw [hc] at h; cases h
  | some x =>
    rw [hc] at h
    exact ACall.of_run tabTOk 300 20 hc ⟨_, h, rfl, hQ⟩
end Go.Proofs.YticefdfhcahlfaaDoor.AM

namespace Go.Proofs.YticefdfhcahlfaaDoor.AM
open Go.RowKit
set_option maxRecDepth 100000
set_option linter.unusedVariables false
set_option linter.unusedSimpArgs false
theorem wwrite0_c {σ : St} {t mp w : Nat} {l : List UInt8} {b : Option Nat} (h : TRep σ t mp []) (hw : WB σ w l b) (hl : l.length ≤ 100000) (Q : AVal → St → Prop)
    (hQ : ∀ σ' b', WB σ' w (l ++ beN 1 0) b' → WStp w b b' σ σ' → Q (.tup []) σ') : ACall Tryd.prog 62 [.ptr t 0, .ptr w 0] σ Q := by
  refine ACall.of_compF hmx (fun a w => Tryd.call62 a w) Tryd.func62 cf62 (n := 2) (by decide) rfl ?_
  simp [ac62, rs62, lk_cons]
  refine all_c h (by simp) _ fun v1 ys σ1 b1 p1 p2 p3 p4 p5 => ?_
  have hys : ys = [] := p1.eq_nil
  subst hys
  have hlen1 := p3.len
  simp [lk_cons, ↓hlen1]
  refine wp_loop (fun mm rg σ' => mm = 0 ∧ σ' = σ1 ∧ rg = [(1, .ptr w 0), (4, .nilsl), (10, v1), (11, i64 0), (12, i64 0)]) 0 ?_ ?_
  · exact ⟨rfl, rfl, by simp [lk_cons]⟩
  · rintro mm rg σ2 ⟨rfl, rfl, rfl⟩
    simp [lk_cons]
    refine wu8_c (n := 0) (hw.keep p5.1 fun a ha _ => p5.2 a ha) (by decide) (by omega) _ fun σ3 b3 q1 q2 => ?_
    simp [lk_cons]
    refine wp_loop (fun mm rg σ' => mm = 0 ∧ σ' = σ3 ∧ rg = [(1, .ptr w 0), (29, .nilsl), (30, i64 0), (31, i64 0)]) 0 ?_ ?_
    · exact ⟨rfl, rfl, by simp [lk_cons]⟩
    · rintro mm rg σ4 ⟨rfl, rfl, rfl⟩
      simp [lk_cons]
      exact hQ _ b3 q1 ⟨Nat.le_trans p5.1 q2.next, fun x hx => by
        rcases q2.own x hx with e | e
        · exact .inl e
        · exact .inr (Nat.le_trans p5.1 e), fun a ha hne hb => (q2.keep a (Nat.lt_of_lt_of_le ha p5.1) hne hb).trans (p5.2 a ha)⟩
end Go.Proofs.YticefdfhcahlfaaDoor.AM

namespace Go.Proofs.YticefdfhcahlfaaDoor.AM
open Go.RowKit
set_option maxRecDepth 100000
set_option linter.unusedVariables false
set_option linter.unusedSimpArgs false
def tabU : TabL := [(32, ac32, rs32, 1), (75, ac75, rs75, 1), (76, ac76, rs76, 1), (97, ac97, rs97, 1), (98, ac98, rs98, 2), (107, ac107, rs107, 1), (108, ac108, rs108, 2), (112, ac112, rs112, 1)]
theorem tabUOk : TabOk Tryd.prog (look tabU) := by
  unfold tabU
  refine tab_cons ?_ (fun a w => Tryd.call32 a w) Tryd.func32 cf32 (by decide)
  refine tab_cons ?_ (fun a w => Tryd.call75 a w) Tryd.func75 cf75 (by decide)
  refine tab_cons ?_ (fun a w => Tryd.call76 a w) Tryd.func76 cf76 (by decide)
  refine tab_cons ?_ (fun a w => Tryd.call97 a w) Tryd.func97 cf97 (by decide)
  refine tab_cons ?_ (fun a w => Tryd.call98 a w) Tryd.func98 cf98 (by decide)
  refine tab_cons ?_ (fun a w => Tryd.call107 a w) Tryd.func107 cf107 (by decide)
  refine tab_cons ?_ (fun a w => Tryd.call108 a w) Tryd.func108 cf108 (by decide)
  refine tab_cons ?_ (fun a w => Tryd.call112 a w) Tryd.func112 cf112 (by decide)
  exact tab_nil hmx
def topicZ : AVal := .agg [.int .u64 0, .int .u64 0, .nilsl, .nilsl, .nilsl]
def runTrue (x : Option (AVal × St)) : Bool := match x with
  | some (.bool true, _) => true
  | _ => false
theorem check_run : runTrue (callT (look tabU) 300 20 32 [topicZ] σ0) = true := by kernel_rfl
theorem check0_c {σ : St} (Q : AVal → St → Prop) (hq : Q (.bool true) σ) : ACall Tryd.prog 32 [topicZ] σ Q := by
  refine ACall.frame ?_ rfl
  have h := check_run
  unfold runTrue at h
  split at h
  · rename_i σ hs; exact ACall.of_run tabUOk 300 20 hs ⟨rfl, hq⟩
  · cases h
theorem table0_c {σ : St} (Q : AVal → St → Prop) (hQ : ∀ t mp σ', TRep σ' t mp [] → (σ.next ≤ t ∧ σ.next ≤ mp) → Grow σ σ' → Q (.tup [.ptr t 0, .bool true]) σ') : ACall Tryd.prog 59 [.nilsl] σ Q := by
  refine ACall.of_compF hmx (fun a w => Tryd.call59 a w) Tryd.func59 cf59 (n := 1) (by decide) rfl ?_
  simp [ac59, rs59, lk_cons]
  refine tnew_c _ _ fun t mp σ1 hr hn1 hk1 hge => ?_
  simp [lk_cons]
  refine wp_loop (fun mm rg σ' => mm = 0 ∧ σ' = σ1 ∧ rg = [(0, .nilsl), (4, .ptr t 0), (8, .nilsl), (9, i64 0), (10, i64 0)]) 0 ?_ ?_
  · exact ⟨rfl, rfl, by simp [lk_cons]⟩
  · rintro mm rg σ2 ⟨rfl, rfl, rfl⟩
    simp [lk_cons]
    exact hQ t mp _ hr hge ⟨hn1, hk1⟩
set_option maxHeartbeats 2000000 in
theorem enc0_c {σ : St} (Q : AVal → St → Prop) (hQ : ∀ v b σ', GS rwB σ' v (List.replicate 19 0) b → Grow σ σ' → Q (.tup [v, i64 0]) σ') : ACall Tryd.prog 26 [topicZ] σ Q := by
  refine ACall.of_compF hmx (fun a w => Tryd.call26 a w) Tryd.func26 cf26 (n := 1) (by decide) rfl ?_
  simp [ac26, rs26, lk_cons, topicZ, fillL, storeL]
  obtain ⟨S, hS⟩ : ∃ S : St, S = ⟨σ.mem.set σ.next (.cells 5 [u64 0, u64 0, .nilsl, .nilsl, .nilsl]), σ.next + 1⟩ := ⟨_, rfl⟩
  have nS : S.next = σ.next + 1 := by rw [hS]
  have mS : S.mem.get σ.next = some (.cells 5 [u64 0, u64 0, .nilsl, .nilsl, .nilsl]) := by rw [hS]; simp
  have gS : Grow σ S := ⟨by omega, fun a ha => by rw [hS]; simp [show ¬ a = σ.next by omega]⟩
  rw [← hS]
  refine table0_c _ fun t mp σ1 tr tge g1 => ?_
  have m1 := (g1.2 σ.next (by omega)).trans mS
  have n1 := g1.1
  have tlt := tr.lt
  simp [lk_cons, m1]
  refine check0_c _ ?_
  have e1 : ¬ σ.next = σ1.next := by omega
  simp [lk_cons, m1, e1, fillL, storeL, repL]
  obtain ⟨S2, hS2⟩ : ∃ S2 : St, S2 = ⟨(σ1.mem.set σ1.next (.cells 1 [.nilsl])).set (σ1.next + 1) (.cells 1 [u64 0, u64 0]), σ1.next + 1 + 1⟩ := ⟨_, rfl⟩
  have nS2 : S2.next = σ1.next + 2 := by rw [hS2]
  have kS2 : ∀ a, a < σ1.next → S2.mem.get a = σ1.mem.get a := fun a ha => by rw [hS2]; simp [show ¬ a = σ1.next by omega, show ¬ a = σ1.next + 1 by omega]
  have h0 : WB S2 σ1.next [] none := ⟨.nilsl, by rw [hS2]; simp, GS.nil _, by simp, by omega⟩
  have mz : S2.mem.get (σ1.next + 1) = some (.cells 1 ([0, 0].map fun (n : Nat) => u64 (n : Int))) := by rw [hS2]; simp
  have mS2 := (kS2 σ.next (by omega)).trans m1
  have tS2 : TRep S2 t mp [] := tr.frame (fun x hx => kS2 x (by rcases hx with rfl | rfl <;> omega)) (by omega)
  rw [← hS2]
  generalize σ1.next = w at e1 nS2 kS2 h0 mz n1 tlt ⊢
  refine puts_c (xs := [0, 0]) h0 (by omega) mz (by omega) (by simp) (by simp) (by simp) _ fun σ3 b3 h3 s3 => ?_
  have m3 := (s3.keep σ.next (by omega) (by omega) (by simp)).trans mS2
  simp [lk_cons, m3]
  refine wu8_c (n := 0) h3 (by decide) (by simp [numsB_len]) _ fun σ4 b4 h4 s4 => ?_
  have s4 := s3.trans s4
  have m4 := (s4.keep σ.next (by omega) (by omega) (by simp)).trans mS2
  simp [lk_cons, m4]
  refine wp_loop (fun mm rg σ' => mm = 0 ∧ σ' = σ4 ∧ rg = [(1, .ptr σ.next 0), (4, .ptr t 0), (6, .ptr w 0), (41, .nilsl), (42, i64 0), (43, i64 0)]) 0 ?_ ?_
  · exact ⟨rfl, rfl, by simp [lk_cons]⟩
  rintro mm rg σ5 ⟨rfl, rfl, rfl⟩
  simp [lk_cons, m4]
  refine wu8_c (n := 0) h4 (by decide) (by simp [numsB_len, beN_len]) _ fun σ6 b6 h6 s6 => ?_
  have s6 := s4.trans s6
  have m6 := (s6.keep σ.next (by omega) (by omega) (by simp)).trans mS2
  simp [lk_cons, m6]
  refine wp_loop (fun mm rg σ' => mm = 0 ∧ σ' = σ6 ∧ rg = [(4, .ptr t 0), (6, .ptr w 0), (68, .nilsl), (69, i64 0), (70, i64 0)]) 0 ?_ ?_
  · exact ⟨rfl, rfl, by simp [lk_cons]⟩
  rintro mm rg σ7 ⟨rfl, rfl, rfl⟩
  simp [lk_cons]
  have t6 : TRep σ7 t mp [] := tS2.frame (fun x hx => s6.keep x (by rcases hx with rfl | rfl <;> omega) (by rcases hx with rfl | rfl <;> omega) (by simp)) s6.next
  refine wwrite0_c t6 h6 (by simp [numsB_len, beN_len]) _ fun σ8 b8 h8 s8 => ?_
  have s8 := s6.trans s8
  simp [lk_cons]
  refine wdone_c h8 (by simp [numsB_len, beN_len]) _ fun σ9 v9 b9 h9 f9 g9 => ?_
  have hlen := h9.len
  have hl : ((((([] ++ numsB [0, 0]) ++ beN 1 0) ++ beN 1 0) ++ beN 1 0) : List UInt8) = List.replicate 19 0 := by decide
  rw [hl] at h9
  have hlen := h9.len
  simp [lk_cons, ↓hlen]
  exact hQ v9 b9 σ9 h9 ⟨by have := s8.next; have := g9.1; omega, fun a ha => by
    have := s8.next
    rw [g9.2 a (by omega), s8.keep a (by omega) (by omega) (by simp), kS2 a (by omega), g1.2 a (by omega)]
    exact gS.2 a ha⟩
end Go.Proofs.YticefdfhcahlfaaDoor.AM

namespace Go.Proofs.YticefdfhcahlfaaDoor.AM
open Go.RowKit
set_option maxRecDepth 100000
set_option linter.unusedVariables false
set_option linter.unusedSimpArgs false
structure RStpC (r cell : Nat) (σ σ' : St) : Prop where
  next : σ.next ≤ σ'.next
  keep : ∀ a, a < σ.next → a ≠ r → a ≠ cell → σ'.mem.get a = σ.mem.get a
theorem read_h {X : Type} {σ : St} {bv : AVal} {l : List UInt8} {c : Option Nat} (hb : RdB σ bv l c) {g cell : Nat} (hcell : cell < σ.next) {res : Except Nat (X × List UInt8)} {Post : X → St → St → Prop} (Q : AVal → St → Prop)
    (hcall : ∀ (T : AVal → St → Prop) (r : Nat) (σ1 : St) (K : AVal → St → Prop), RR σ1 r l c → σ.next ≤ r → Grow σ σ1 → (∀ e σ', res = .error e → RStpC r cell σ1 σ' → T (thrownV (e : Int)) σ') →
      (∀ x l' σ', res = .ok (x, l') → RR σ' r l' c → Post x σ1 σ' → σ1.next ≤ σ'.next → (∀ a, a < σ1.next → a ≠ r → a ≠ cell → σ'.mem.get a = σ1.mem.get a) → K (.tup []) σ') → ACall (Env.th Tryd.prog T) g [.ptr r 0, .ptr cell 0] σ1 K)
    (hE : ∀ e σ', res = .error e → σ.next ≤ σ'.next → (∀ a, a < σ.next → a ≠ cell → σ'.mem.get a = σ.mem.get a) → Q (.int .i64 (e : Int)) σ')
    (hK : ∀ x l' σ1 σ' σ2, res = .ok (x, l') → Post x σ1 σ' → Grow σ σ1 → σ.next < σ1.next → (∀ a, a ≠ σ.next → σ2.mem.get a = σ'.mem.get a) → σ2.next = σ'.next → σ1.next ≤ σ'.next → (∀ a, a < σ.next → a ≠ cell → σ'.mem.get a = σ.mem.get a) → Q (.int .i64 (if l' = [] then 0 else 5)) σ2) : ACall Tryd.prog 45 [bv, .fn g [] [.ptr cell 0]] σ Q := by
  refine read_c Q ?_
  have hone := hb.one
  have e1 : ¬ σ.next = σ.next + 1 := by omega
  simp [cOf, ac45, lk_cons, fillL, storeL, hone]
  refine hcall _ (σ.next + 1) _ _ ⟨bv, by simp [storeL], hb.keep (by simp; omega) fun a ha _ => by simp [show ¬ a = σ.next by omega, show ¬ a = σ.next + 1 by omega], fun e => by have := hb.lt e; omega, by simp⟩ (by omega) ⟨by simp; omega, fun a ha => by simp [show ¬ a = σ.next by omega, show ¬ a = σ.next + 1 by omega]⟩ (fun e σ' he hs => ?_) (fun x l' σ' hx hr hp hn hk => ?_)
  · have hm := hs.keep σ.next (by simp; omega) (by omega) (by omega)
    simp [e1] at hm
    refine ⟨(e : Int), rfl, ⟨0, hm⟩, hE e _ he (by have := hs.next; simp at this ⊢; omega) (fun a ha hac => ?_)⟩
    have := hs.keep a (by simp; omega) (by omega) hac
    simp [show ¬ a = σ.next by omega, show ¬ a = σ.next + 1 by omega] at this ⊢
    exact this
  · obtain ⟨v', h1, h2, h3, h4⟩ := hr
    have hlen := h2.len
    have hm := hk σ.next (by simp; omega) (by omega) (by omega)
    simp [e1] at hm
    have hn' : σ.next + 1 + 1 ≤ σ'.next := by simpa using hn
    have hg : Grow σ ⟨(σ.mem.set σ.next (.cells 1 [.int .i64 0])).set (σ.next + 1) (.cells 1 [bv]), σ.next + 1 + 1⟩ := ⟨by simp; omega, fun a ha => by simp [show ¬ a = σ.next by omega, show ¬ a = σ.next + 1 by omega]⟩
    have hq := fun (b : Blk) => hK x l' _ σ' ⟨σ'.mem.set σ.next b, σ'.next⟩ hx hp (by simpa [storeL] using hg) (by simp; omega) (fun a ha => by simp [ha]) rfl hn (fun a ha hac => by
      have := hk a (by simp; omega) (by omega) hac
      simp [show ¬ a = σ.next by omega, show ¬ a = σ.next + 1 by omega] at this
      exact this)
    cases l' with
    | nil =>
      simp [lk_cons, h1, ↓hlen, hm, storeL, rs45]
      simpa using hq _
    | cons y l' =>
      have hp : (0 : Int) < ((y :: l').length : Int) := by simp only [List.length_cons]; omega
      obtain ⟨N, hN⟩ : ∃ N, (y :: l').length = N := ⟨_, rfl⟩
      simp only [hN] at hlen hp
      have hp' : 0 < N := by omega
      simp [lk_cons, h1, ↓hlen, hm, storeL, rs45, hp, hp']
      simpa using hq _
end Go.Proofs.YticefdfhcahlfaaDoor.AM

namespace Go.Proofs.YticefdfhcahlfaaDoor.AM
open Go.RowKit
set_option maxRecDepth 100000
set_option linter.unusedVariables false
set_option linter.unusedSimpArgs false
def noteCs : List AVal := [.int .u8 0, .int .u8 0, .bool false, .int .i64 0, .int .u64 0, .int .u64 0, .int .u64 0, .int .u64 0, .int .u64 0, .int .u64 0, .int .u64 0, .str ⟨#[]⟩, .str ⟨#[]⟩, .nilsl, .nilsl]
def HrJ (r tc o : Nat) (c : Option Nat) (σ0 : St) (mm : Nat) (rg : Regs) (σ' : St) : Prop := ∃ (i : Nat) (l : List UInt8), mm = 1 - i ∧ i ≤ 1 ∧ l = ([1] : List UInt8).drop i ∧ RR σ' r l c ∧ RStpC r tc σ0 σ' ∧ (∃ z1 z2 zs, σ'.mem.get tc = some (.cells 15 (z1 :: z2 :: zs)) ∧ (z1 :: z2 :: zs).length = 15) ∧ (o < σ'.next ∧ σ'.mem.get o = some (.cells 1 [.ptr tc 0, .ptr tc 1])) ∧ rg = [(0, .ptr r 0), (1, .ptr tc 0), (3, .fn 47 [.ptr r 0] []), (14, .sl o 0 2 2 true), (15, i64 2), (16, i64 i)]
theorem hear1c_c {T : AVal → St → Prop} {σ : St} {r tc : Nat} {c : Option Nat} {K : AVal → St → Prop} (h : RR σ r [1] c) (htc : σ.mem.get tc = some (.cells 15 noteCs)) (htl : tc < σ.next) (hrt : tc ≠ r) (hct : c ≠ some tc)
    (hT : ∀ σ', RStpC r tc σ σ' → T (thrownV ((4 : Nat) : Int)) σ') : ACall (Env.th Tryd.prog T) 46 [.ptr r 0, .ptr tc 0] σ K := by
  refine ACall.of_compF hmx (fun a w => Tryd.call46 a w) Tryd.func46 cf46 (n := 2) (by decide) rfl ?_
  obtain ⟨v, q1, q2, q3, q4⟩ := id h
  simp [ac46, rs46, lk_cons, fillL, storeL, repL]
  refine wp_loop (HrJ r tc σ.next c σ) 1 ?_ ?_
  · refine ⟨0, [1], rfl, by omega, rfl, h.keep (by simp) fun a ha _ => by simp [show ¬ a = σ.next by omega], ⟨by simp, fun a ha _ _ => by simp [show ¬ a = σ.next by omega]⟩, ⟨_, _, _, by simp [show ¬ tc = σ.next by omega]; exact htc, rfl⟩, ⟨by simp, by simp⟩, by simp [lk_cons]⟩
  · rintro mm rg σ1 ⟨i, l, rfl, hi, rfl, h1, s1, ⟨z1, z2, zs, hz, hzl⟩, ⟨hol, ho⟩, rfl⟩
    have w1 : IntKind.i64.wrap ((i : Int) + 1) = ((i + 1 : Nat) : Int) := by rw [IntWalk.i64_in] <;> omega
    have hzl' : zs.length = 13 := by simpa using hzl
    rcases (by omega : i = 0 ∨ i = 1) with rfl | rfl
    · simp [lk_cons, ho]
      refine ru8_c (l := [1]) h1 (by decide) (fun e he => by cases he) fun x l' σ2 p1 p2 p3 => ?_
      have hx : l' = [] := by
        have := (pNum_len p1).1
        simp at this; exact this
      subst hx
      have tl1 : tc < σ1.next := Nat.lt_of_lt_of_le htl s1.next
      have hz2 := (p3.keep tc tl1 hrt).trans hz
      have ho2 := (p3.keep σ.next hol (by omega)).trans ho
      have n3 := p3.next
      have n1 := s1.next
      have hto : ¬ tc = σ.next := by omega
      simp [lk_cons, hz2, storeL, w1]
      refine ⟨1, [], rfl, by omega, rfl, p2.keep (Nat.le_refl _) fun a ha hac => ?_, ⟨by show σ.next ≤ σ2.next; omega, fun a ha har hat => ?_⟩, ⟨.int .u8 (x : Int), z2, zs, by simp, by simpa using hzl'⟩, ⟨by show σ.next < σ2.next; omega, ?_⟩, by simp [show IntKind.i64.wrap 1 = 1 from rfl]⟩
      · have : a ≠ tc := by
          rcases hac with rfl | hac
          · exact Ne.symm hrt
          · exact fun e => hct (by rw [hac, e])
        simp [this]
      · simp [hat]
        exact (p3.keep a (by omega) har).trans (s1.keep a ha har hat)
      · simp [show ¬ σ.next = tc by omega]
        exact ho2
    · simp [lk_cons, ho]
      refine ru8_c (l := []) h1 (by decide) (fun e he => ?_) fun x l' σ2 p1 p2 p3 => by cases p1
      have : e = 4 := by cases he; rfl
      subst this
      exact hT σ1 s1
theorem hear1_c {σ : St} {xv : AVal} {c : Option Nat} (hb : RdB σ xv [1] c) (Q : AVal → St → Prop) (hQ : ∀ σ', Grow σ σ' → Q (.tup [.agg noteCs, i64 4]) σ') : ACall Tryd.prog 17 [xv] σ Q := by
  refine ACall.of_compF hmx (fun a w => Tryd.call17 a w) Tryd.func17 cf17 (n := 1) (by decide) rfl ?_
  simp [ac17, rs17, lk_cons]
  obtain ⟨S, hS⟩ : ∃ S : St, S = ⟨(σ.mem.set σ.next (.cells 15 noteCs)).set (σ.next + 1) (.cells 15 noteCs), σ.next + 1 + 1⟩ := ⟨_, rfl⟩
  have nS : S.next = σ.next + 2 := by rw [hS]
  have kS : ∀ a, a < σ.next → S.mem.get a = σ.mem.get a := fun a ha => by rw [hS]; simp [show ¬ a = σ.next by omega, show ¬ a = σ.next + 1 by omega]
  have m2 : S.mem.get σ.next = some (.cells 15 noteCs) := by rw [hS]; simp
  have m4 : S.mem.get (σ.next + 1) = some (.cells 15 noteCs) := by rw [hS]; simp
  have hS' := hS
  unfold noteCs at hS
  rw [← hS]
  refine read_h (X := Unit) (res := .error 4) (Post := fun _ _ _ => True) (hb.keep (by omega) fun a ha _ => kS a ha) (cell := σ.next + 1) (by omega) _ (fun T r σa K k1 k2 k3 k4 k5 => ?_) (fun e σb he hn hk => ?_) (fun x l' σa σb σc hx => by cases hx)
  · have htc := (k3.2 (σ.next + 1) (by omega)).trans m4
    exact hear1c_c k1 htc (by have := k3.1; omega) (by omega) (fun ec => by have := hb.lt ec; omega) fun σ' hs => k4 4 σ' rfl hs
  · cases he
    have hm := (hk σ.next (by omega) (by omega)).trans m2
    unfold noteCs at hm
    simp [lk_cons, hm, storeL, fillL]
    exact hQ _ ⟨by show σ.next ≤ σb.next; omega, fun a ha => by
      simp [show ¬ a = σ.next by omega]
      exact (hk a (by omega) (by omega)).trans (kS a ha)⟩
end Go.Proofs.YticefdfhcahlfaaDoor.AM

namespace Go.Proofs.YticefdfhcahlfaaDoor.AM
open Go.RowKit
set_option maxRecDepth 100000
set_option linter.unusedVariables false
set_option linter.unusedSimpArgs false
def pN5 (k t : Nat) (y : Bool) (c : Nat) (ns : List Nat) (nm ky : ByteArray) : Prs NoteV := pB pBytes fun d => pB (pNum 2) fun n => pB (pMany pItem n) fun is => pR ⟨k, t, y, (c : Int), ns, nm, ky, d, is⟩
def pN4 (k t : Nat) (y : Bool) (c : Nat) (ns : List Nat) : Prs NoteV := pB pTx fun nm => pB pTx fun ky => pN5 k t y c ns nm ky
def pN3 (k t : Nat) (y : Bool) (c : Nat) : Prs NoteV := pB (pMany (pNum 8) 7) fun ns => pN4 k t y c ns
def pN2 (k t : Nat) : Prs NoteV := pB pFlag fun y => pB (pNum 1) fun c => pN3 k t y c
theorem pNote_eq : pNote = pB (pNum 1) fun k => pB (pNum 1) fun t => pN2 k t := rfl
section
variable {T : AVal → St → Prop} {σ : St} {r : Nat} {l : List UInt8} {c : Option Nat} {Q : AVal → St → Prop}
theorem ru16_c (h : RR σ r l c) (hl : l.length < 4611686018427387904) (hT : ∀ e, pNum 2 l = .error e → T (thrownV (e : Int)) σ)
    (hQ : ∀ x l' σ', pNum 2 l = .ok (x, l') → RR σ' r l' c → RStp r σ σ' → Q (.int .u16 (x : Int)) σ') : ACall (Env.th Tryd.prog T) 52 [.ptr r 0] σ Q := by
  refine ACall.of_compF hmx (fun a w => Tryd.call52 a w) Tryd.func52 cf52 (n := 1) (by decide) rfl ?_
  simp [ac52, rs52, lk_cons]
  refine rnum_c h hl (n := 2) (by decide) hT fun x l' σ' h1 h2 h3 => ?_
  have hx := (pNum_len h1).2
  have w1 : IntKind.u16.wrap (x : Int) = x := by rw [IntWalk.u16_in] <;> omega
  simp [lk_cons, w1]
  exact hQ x l' σ' h1 h2 h3
theorem ryes_c (h : RR σ r l c) (hl : l.length < 4611686018427387904) (hT : ∀ e σ', pFlag l = .error e → RStp r σ σ' → T (thrownV (e : Int)) σ')
    (hQ : ∀ x l' σ', pFlag l = .ok (x, l') → RR σ' r l' c → RStp r σ σ' → l'.length ≤ l.length → Q (.bool x) σ') : ACall (Env.th Tryd.prog T) 49 [.ptr r 0] σ Q := by
  refine ACall.of_compF hmx (fun a w => Tryd.call49 a w) Tryd.func49 cf49 (n := 1) (by decide) rfl ?_
  simp [ac49, rs49, lk_cons]
  refine ru8_c h hl (fun e he => hT e σ (pB_err he) (RStp.refl _ _)) fun x l' σ' h1 h2 h3 => ?_
  have hx := (pNum_len h1).2
  have hlen := (pNum_len h1).1
  by_cases hc : 1 < x
  · have hc' : (1 : Int) < x := by omega
    simp [lk_cons, hc, hc']
    refine fail_c (fun _ => hT 16 σ' (by rw [pFlag, pB_ok h1]; simp [hc]) h3) fun e => by cases e
  · have hc' : ¬ (1 : Int) < x := by omega
    have hd : decide ((x : Int) = 1) = decide (x = 1) := decide_eq_decide.2 (by omega)
    simp [lk_cons, hc, hc']
    have := hQ (decide (x = 1)) l' σ' (by rw [pFlag, pB_ok h1]; simp [hc]) h2 h3 (by omega)
    simpa [hd] using this
end
theorem RStp.c {r tc : Nat} {σ σ' : St} (h : RStp r σ σ') : RStpC r tc σ σ' := ⟨h.next, fun a ha h1 _ => h.keep a ha h1⟩
theorem RStpC.trans {r tc : Nat} {a b d : St} (h : RStpC r tc a b) (k : RStpC r tc b d) : RStpC r tc a d := ⟨Nat.le_trans h.next k.next, fun x hx h1 h2 => (k.keep x (Nat.lt_of_lt_of_le hx h.next) h1 h2).trans (h.keep x hx h1 h2)⟩
theorem Grow.rstpc {r tc : Nat} {σ σ' : St} (h : Grow σ σ') : RStpC r tc σ σ' := ⟨h.1, fun a ha _ _ => h.2 a ha⟩
theorem RStpC.st {r tc : Nat} {σ : St} {b : Blk} : RStpC r tc σ ⟨σ.mem.set tc b, σ.next⟩ := ⟨Nat.le_refl _, fun a _ _ h => by simp [h]⟩
def zN7 : List Nat := [0, 0, 0, 0, 0, 0, 0]
def HcN (tc : Nat) (σ : St) (k t : Nat) (y : Bool) (cd : Nat) (ns : List Nat) (nm ky : ByteArray) (dv iv : AVal) : Prop := σ.mem.get tc = some (.cells 15 (noteC ⟨k, t, y, cd, ns, nm, ky, [], []⟩ dv iv))
def HaJ (res : Except Nat (NoteV × List UInt8)) (r tc o : Nat) (c : Option Nat) (σ0 : St) (mm : Nat) (rg : Regs) (σ' : St) : Prop := ∃ (i : Nat) (l : List UInt8) (k t : Nat), mm = 2 - i ∧ i ≤ 2 ∧ RR σ' r l c ∧ l.length ≤ 1000000 ∧ RStpC r tc σ0 σ' ∧ HcN tc σ' k t false 0 zN7 ⟨#[]⟩ ⟨#[]⟩ .nilsl .nilsl ∧ (o < σ'.next ∧ σ'.mem.get o = some (.cells 1 [.ptr tc 0, .ptr tc 1])) ∧ (i = 0 ∧ res = pNote l ∨ i = 1 ∧ res = pB (pNum 1) (fun t => pN2 k t) l ∨ i = 2 ∧ res = pN2 k t l) ∧ rg = [(0, .ptr r 0), (1, .ptr tc 0), (3, .fn 47 [.ptr r 0] []), (14, .sl o 0 2 2 true), (15, i64 2), (16, i64 i)]
def HnJ (res : Except Nat (NoteV × List UInt8)) (r tc o : Nat) (c : Option Nat) (k t : Nat) (y : Bool) (cd : Nat) (σ0 : St) (mm : Nat) (rg : Regs) (σ' : St) : Prop := ∃ (i : Nat) (l : List UInt8) (xs : List Nat), mm = 7 - i ∧ i ≤ 7 ∧ xs.length = i ∧ RR σ' r l c ∧ l.length ≤ 1000000 ∧ RStpC r tc σ0 σ' ∧ HcN tc σ' k t y cd (xs ++ List.replicate (7 - i) 0) ⟨#[]⟩ ⟨#[]⟩ .nilsl .nilsl ∧ (o < σ'.next ∧ σ'.mem.get o = some (.cells 1 ([4, 5, 6, 7, 8, 9, 10].map fun i => AVal.ptr tc i))) ∧ res = pB (pMany (pNum 8) (7 - i)) (fun ns => pN4 k t y cd (xs ++ ns)) l ∧ rg = [(0, .ptr r 0), (1, .ptr tc 0), (3, .fn 47 [.ptr r 0] []), (32, .sl o 0 7 7 true), (33, i64 7), (34, i64 i)]
def HtJ (res : Except Nat (NoteV × List UInt8)) (r tc o : Nat) (c : Option Nat) (k t : Nat) (y : Bool) (cd : Nat) (ns : List Nat) (σ0 : St) (mm : Nat) (rg : Regs) (σ' : St) : Prop := ∃ (i : Nat) (l : List UInt8) (nm ky : ByteArray), mm = 2 - i ∧ i ≤ 2 ∧ RR σ' r l c ∧ l.length ≤ 1000000 ∧ RStpC r tc σ0 σ' ∧ HcN tc σ' k t y cd ns nm ky .nilsl .nilsl ∧ (o < σ'.next ∧ σ'.mem.get o = some (.cells 1 [.ptr tc 11, .ptr tc 12])) ∧ (i = 0 ∧ res = pN4 k t y cd ns l ∧ ky = ⟨#[]⟩ ∨ i = 1 ∧ res = pB pTx (fun ky => pN5 k t y cd ns nm ky) l ∨ i = 2 ∧ res = pN5 k t y cd ns nm ky l) ∧ rg = [(0, .ptr r 0), (1, .ptr tc 0), (3, .fn 47 [.ptr r 0] []), (45, .sl o 0 2 2 true), (46, i64 2), (47, i64 i)]
def HiJ (res : Except Nat (NoteV × List UInt8)) (r tc : Nat) (c : Option Nat) (k t : Nat) (y : Bool) (cd : Nat) (ns : List Nat) (nm ky : ByteArray) (dv : AVal) (d : List UInt8) (bd : Option Nat) (N : Nat) (σ0 S : St) (mm : Nat) (rg : Regs) (σ' : St) : Prop := ∃ (i : Nat) (l : List UInt8) (iv : AVal) (its : List IV) (b : Option Nat) (xs : List (Nat × List UInt8)), mm = N - i ∧ i ≤ N ∧ xs.length = i ∧ RR σ' r l c ∧ l.length ≤ 1000000 ∧ RStpC r tc S σ' ∧ HcN tc σ' k t y cd ns nm ky dv iv ∧ GS rwI σ' iv its b ∧ Its σ' (fun a => σ0.next ≤ a) b its xs ∧ (∀ z, b = some z → S.next ≤ z) ∧ res = pB (pMany pItem (N - i)) (fun is => pR ⟨k, t, y, (cd : Int), ns, nm, ky, d, xs ++ is⟩) l ∧ rg = [(0, .ptr r 0), (1, .ptr tc 0), (3, .fn 47 [.ptr r 0] []), (60, .int .u16 N), (61, .int .u16 i)]
def NoteM (tc : Nat) (x : NoteV) (σ σ' : St) : Prop := ∃ dv iv bd, σ'.mem.get tc = some (.cells 15 (noteC x dv iv)) ∧ GS rwB σ' dv x.data bd ∧ (∀ y, bd = some y → σ.next ≤ y) ∧ ItR σ' (fun a => σ.next ≤ a) iv x.items
theorem noteC_num {x : NoteV} {dv iv : AVal} {i n : Nat} (hi : i < x.nums.length) : (noteC x dv iv).set (4 + i) (u64 (n : Int)) = noteC { x with nums := x.nums.set i n } dv iv := by
  unfold noteC
  rw [List.set_append, if_pos (by simp; omega), List.set_append, if_neg (by simp)]
  congr 2
  rw [List.map_set]
  simp
theorem zip_set {xs : List Nat} {i n k : Nat} (h : xs.length = i) : (xs ++ List.replicate (k + 1) 0).set i n = (xs ++ [n]) ++ List.replicate k 0 := by
  rw [List.set_append, if_neg (by omega), h, Nat.sub_self, List.replicate_succ, List.set_cons_zero]
  simp
theorem noteC_len {x : NoteV} {dv iv : AVal} (h : x.nums.length = 7) : (noteC x dv iv).length = 15 := by simp [noteC, h]
theorem noteC_tail {x : NoteV} {dv iv : AVal} (h : x.nums.length = 7) : (∀ s : ByteArray, (noteC x dv iv).set 11 (.str s) = noteC { x with name := s } dv iv) ∧ (∀ s : ByteArray, (noteC x dv iv).set 12 (.str s) = noteC { x with key := s } dv iv) ∧ (∀ v, (noteC x dv iv).set 13 v = noteC x v iv) ∧ (∀ v, (noteC x dv iv).set 14 v = noteC x dv v) ∧ (noteC x dv iv)[14]? = some iv := by
  obtain ⟨a, b, c, d, e, f, g, hn⟩ : ∃ a b c d e f g, x.nums = [a, b, c, d, e, f, g] := by
    match h2 : x.nums, h with
    | [a, b, c, d, e, f, g], _ => exact ⟨a, b, c, d, e, f, g, rfl⟩
  unfold noteC
  rw [hn]
  exact ⟨fun _ => rfl, fun _ => rfl, fun _ => rfl, fun _ => rfl, rfl⟩
set_option maxHeartbeats 4000000 in
theorem hearc_c {T : AVal → St → Prop} {σ : St} {r tc : Nat} {l : List UInt8} {c : Option Nat} {K : AVal → St → Prop} (h : RR σ r l c) (hl : l.length ≤ 1000000) (htc : σ.mem.get tc = some (.cells 15 noteCs)) (htl : tc < σ.next) (hrt : tc ≠ r) (hct : c ≠ some tc)
    (hT : ∀ e σ', pNote l = .error e → RStpC r tc σ σ' → T (thrownV (e : Int)) σ')
    (hK : ∀ x l' σ', pNote l = .ok (x, l') → RR σ' r l' c → NoteM tc x σ σ' → RStpC r tc σ σ' → K (.tup []) σ') : ACall (Env.th Tryd.prog T) 46 [.ptr r 0, .ptr tc 0] σ K := by
  refine ACall.of_compF hmx (fun a w => Tryd.call46 a w) Tryd.func46 cf46 (n := 2) (by decide) rfl ?_
  obtain ⟨v, q1, q2, q3, q4⟩ := id h
  have hto : ¬ tc = σ.next := by omega
  have hto' : ¬ σ.next = tc := by omega
  have kR : ∀ {σ' : St} {l' : List UInt8} (B : Blk), RR σ' r l' c → RR ⟨σ'.mem.set tc B, σ'.next⟩ r l' c := fun B hr => hr.keep (Nat.le_refl _) fun a ha hac => by
    have : a ≠ tc := by
      rcases hac with rfl | hac
      · exact Ne.symm hrt
      · exact fun e => hct (by rw [hac, e])
    simp [this]
  simp [ac46, rs46, lk_cons, fillL, storeL, repL]
  refine wp_loop (HaJ (pNote l) r tc σ.next c σ) 2 ?_ ?_
  · exact ⟨0, l, 0, 0, rfl, by omega, h.keep (by simp) fun a ha _ => by simp [show ¬ a = σ.next by omega], hl, ⟨by simp, fun a ha _ _ => by simp [show ¬ a = σ.next by omega]⟩, by unfold HcN; simp only [Mem.get_set, if_neg hto]; exact htc, ⟨by simp, by simp⟩, .inl ⟨rfl, rfl⟩, by simp [lk_cons]⟩
  rintro mm rg σ1 ⟨i, l1, k, t, rfl, hi, h1, hl1, s1, hc1, ⟨hol, ho⟩, hr1, rfl⟩
  have tl1 : tc < σ1.next := Nat.lt_of_lt_of_le htl s1.next
  unfold HcN at hc1
  obtain ⟨cs, hcs⟩ : ∃ cs, noteC ⟨k, t, false, ((0 : Nat) : Int), zN7, ⟨#[]⟩, ⟨#[]⟩, [], []⟩ .nilsl .nilsl = cs := ⟨_, rfl⟩
  have csl : cs.length = 15 := by rw [← hcs]; rfl
  rw [hcs] at hc1
  have q5 : σ.next ≠ r := by omega
  rcases hr1 with ⟨rfl, hr1⟩ | ⟨rfl, hr1⟩ | ⟨rfl, hr1⟩
  · simp [lk_cons, ho]
    refine ru8_c h1 (by omega) (fun e he => hT e σ1 (by rw [hr1, pNote_eq]; exact pB_err he) s1) fun x l' σ2 p1 p2 p3 => ?_
    have hz2 := (p3.keep tc tl1 hrt).trans hc1
    have ho2 := (p3.keep σ.next hol q5).trans ho
    have hlen := (pNum_len p1).1
    have n3 := p3.next
    simp [lk_cons, hz2, storeL, csl]
    refine ⟨1, by omega, 1, l', x, t, rfl, by omega, kR _ p2, by omega, s1.trans (p3.c.trans RStpC.st), by unfold HcN; simp [← hcs]; rfl, ⟨by show σ.next < σ2.next; omega, by simp [hto']; exact ho2⟩, .inr (.inl ⟨rfl, by rw [hr1, pNote_eq]; exact pB_ok p1⟩), by simp [show IntKind.i64.wrap 1 = 1 from rfl]⟩
  · simp [lk_cons, ho]
    refine ru8_c h1 (by omega) (fun e he => hT e σ1 (by rw [hr1]; exact pB_err he) s1) fun x l' σ2 p1 p2 p3 => ?_
    have hz2 := (p3.keep tc tl1 hrt).trans hc1
    have ho2 := (p3.keep σ.next hol q5).trans ho
    have hlen := (pNum_len p1).1
    have n3 := p3.next
    simp [lk_cons, hz2, storeL, csl]
    refine ⟨2, l', k, x, rfl, by omega, kR _ p2, by omega, s1.trans (p3.c.trans RStpC.st), by unfold HcN; simp [← hcs]; rfl, ⟨by show σ.next < σ2.next; omega, by simp [hto']; exact ho2⟩, .inr (.inr ⟨rfl, by rw [hr1]; exact pB_ok p1⟩), by simp [show IntKind.i64.wrap 2 = 2 from rfl]⟩
  simp [lk_cons, ho]
  refine ryes_c h1 (by omega) (fun e σ' he hs => hT e σ' (by rw [hr1]; exact pB_err he) (s1.trans hs.c)) fun y l2 σ2 p1 p2 p3 p4 => ?_
  have s2 := s1.trans p3.c
  have c2 := (p3.keep tc tl1 hrt).trans hc1
  have n2 := p3.next
  simp [lk_cons]
  refine ru8_c p2 (by omega) (fun e he => hT e σ2 (by rw [hr1, pN2, pB_ok p1]; exact pB_err he) s2) fun cd l3 σ3 p5 p6 p7 => ?_
  have s3 := s2.trans p7.c
  have c3 := (p7.keep tc (by omega) hrt).trans c2
  have n3 := p7.next
  have hr3 : pNote l = pN3 k t y cd l3 := by rw [hr1, pN2, pB_ok p1, pB_ok p5]
  have hl3 := (pNum_len p5).1
  have hcd := (pNum_len p5).2
  have w1 : IntKind.i64.wrap (cd : Int) = cd := by rw [IntWalk.i64_in] <;> omega
  simp [lk_cons, c3, storeL, csl, w1]
  obtain ⟨S, hS⟩ : ∃ S : St, S = ⟨(σ3.mem.set tc (.cells 15 (cs.set 2 (.bool y)))).set tc (.cells 15 ((cs.set 2 (.bool y)).set 3 (.int .i64 (cd : Int)))), σ3.next⟩ := ⟨_, rfl⟩
  have nS : S.next = σ3.next := by rw [hS]
  have hS' := hS
  have cS : HcN tc S k t y cd zN7 ⟨#[]⟩ ⟨#[]⟩ .nilsl .nilsl := by rw [hS]; unfold HcN; simp [← hcs]; rfl
  have rS : RR S r l3 c := by rw [hS]; exact kR (σ' := ⟨_, σ3.next⟩) _ (kR (.cells 15 (cs.set 2 (.bool y))) p6)
  have sS : RStpC r tc σ S := by rw [hS]; exact (s3.trans RStpC.st).trans (RStpC.st (σ := ⟨_, σ3.next⟩))
  rw [← hS]
  refine ACall.into (numbers_c _ ?_)
  simp [lk_cons]
  have hSr : r < S.next := by obtain ⟨_, _, _, _, h⟩ := rS; exact h
  have hcS : ∀ a, c = some a → a < S.next := fun a ha => by obtain ⟨_, _, h, _, _⟩ := rS; exact h.lt ha
  have tSn : tc < S.next := by omega
  have e1 : ¬ tc = S.next := by omega
  refine wp_loop (HnJ (pNote l) r tc S.next c k t y cd σ) 7 ?_ ?_
  · exact ⟨0, l3, [], rfl, by omega, rfl, rS.keep (by simp) fun a ha _ => by simp [show ¬ a = S.next by omega], by omega, sS.trans ⟨by simp, fun a ha _ _ => by simp [show ¬ a = S.next by omega]⟩, by unfold HcN at cS ⊢; simp only [Mem.get_set, if_neg e1]; exact cS, ⟨by simp, by simp⟩, hr3, by simp [lk_cons]⟩
  clear w1
  rintro mm rg σ4 ⟨i, l4, xs, rfl, hi, hxs, h4, hl4, s4, hc4, ⟨hol4, ho4⟩, hr4, rfl⟩
  have tl4 : tc < σ4.next := Nat.lt_of_lt_of_le htl s4.next
  by_cases hi7 : i < 7
  · have hi7' : (i : Int) < 7 := by omega
    have w1 : IntKind.i64.wrap ((i : Int) + 1) = ((i + 1 : Nat) : Int) := by rw [IntWalk.i64_in] <;> omega
    obtain ⟨j, hj⟩ : ∃ j, 7 - i = j + 1 := ⟨6 - i, by omega⟩
    have hp : ([4, 5, 6, 7, 8, 9, 10].map fun i => AVal.ptr tc i)[i]? = some (.ptr tc (4 + i)) := by
      rcases (by omega : i = 0 ∨ i = 1 ∨ i = 2 ∨ i = 3 ∨ i = 4 ∨ i = 5 ∨ i = 6) with rfl | rfl | rfl | rfl | rfl | rfl | rfl <;> rfl
    have ho40 := ho4
    revert ho4
    generalize ([4, 5, 6, 7, 8, 9, 10].map fun i => AVal.ptr tc i) = ptrs at hp
    intro ho4
    rw [hj, pMany_step] at hr4
    simp [lk_cons, hi7, hi7', ho4, hp]
    refine ACall.of_compF hmx (fun a w => Tryd.call47 a w) Tryd.func47 cf47 (n := 1) (by decide) rfl ?_
    simp [ac47, rs47, lk_cons]
    refine rnum_c h4 (by omega) (n := 8) (by decide) (fun e he => hT e σ4 (by rw [hr4]; exact pB_err he) s4) fun n l5 σ5 p8 p9 p10 => ?_
    have c5 := (p10.keep tc tl4 hrt).trans hc4
    have ho5 := (p10.keep S.next hol4 (by omega)).trans ho40
    have hlen := (pNum_len p8).1
    have n5 := p10.next
    rw [hj] at c5
    obtain ⟨ds, hds⟩ : ∃ ds, noteC ⟨k, t, y, (cd : Int), xs ++ List.replicate (j + 1) 0, ⟨#[]⟩, ⟨#[]⟩, [], []⟩ .nilsl .nilsl = ds := ⟨_, rfl⟩
    have dsl : ds.length = 15 := by rw [← hds]; exact noteC_len (by simp; omega)
    rw [hds] at c5
    have hb : 4 + i + 1 ≤ 15 := by omega
    have hb' : 4 + i < 15 := by omega
    simp [lk_cons, c5, storeL, dsl, hb, hb', w1]
    refine ⟨7 - (i + 1), by omega, i + 1, l5, xs ++ [n], rfl, by omega, by simp [hxs], kR _ p9, by omega, s4.trans (p10.c.trans RStpC.st), ?_, ⟨by show S.next < σ5.next; omega, by simp [show ¬ S.next = tc by omega]; exact ho5⟩, ?_, rfl⟩
    · unfold HcN
      have := noteC_num (x := ⟨k, t, y, (cd : Int), xs ++ List.replicate (j + 1) 0, ⟨#[]⟩, ⟨#[]⟩, [], []⟩) (dv := .nilsl) (iv := .nilsl) (i := i) (n := n) (by simp; omega)
      rw [hds] at this
      simp only [Mem.get_set, if_true, this, zip_set hxs, show 7 - (i + 1) = j by omega]
    · rw [hr4, pB_ok p8, show 7 - (i + 1) = j by omega]
      simp
  have : i = 7 := by omega
  subst this
  simp only [Nat.sub_self, List.replicate_zero, List.append_nil] at hc4 hr4
  have hr4 : pNote l = pN4 k t y cd xs l4 := by rw [hr4, pMany]; exact congrFun (congrArg (pN4 k t y cd) (List.append_nil xs)) l4
  simp [lk_cons, fillL, repL, storeL]
  obtain ⟨S4, hS4⟩ : ∃ S4 : St, S4 = ⟨σ4.mem.set σ4.next (.cells 1 [.ptr tc 11, .ptr tc 12]), σ4.next + 1⟩ := ⟨_, rfl⟩
  have nS4 : S4.next = σ4.next + 1 := by rw [hS4]
  have kS4 : ∀ a, a < σ4.next → S4.mem.get a = σ4.mem.get a := fun a ha => by rw [hS4]; simp [show ¬ a = σ4.next by omega]
  have mS4 : S4.mem.get σ4.next = some (.cells 1 [.ptr tc 11, .ptr tc 12]) := by rw [hS4]; simp
  have g4 : Grow σ4 S4 := ⟨by omega, kS4⟩
  rw [← hS4]
  have hr4n : r < σ4.next := by obtain ⟨_, _, _, _, h⟩ := h4; exact h
  have e4 : ¬ σ4.next = tc := by omega
  have hnlen : (NoteV.mk k t y (cd : Int) xs ⟨#[]⟩ ⟨#[]⟩ [] []).nums.length = 7 := hxs
  refine wp_loop (HtJ (pNote l) r tc σ4.next c k t y cd xs σ) 2 ?_ ?_
  · exact ⟨0, l4, ⟨#[]⟩, ⟨#[]⟩, rfl, by omega, h4.grow g4, hl4, s4.trans g4.rstpc, (kS4 tc tl4).trans hc4, ⟨by omega, mS4⟩, .inl ⟨rfl, hr4, rfl⟩, by simp [lk_cons]⟩
  rintro mm rg σ5 ⟨i, l5, nm, ky, rfl, hi5, h5, hl5, s5, hc5, ⟨hol5, ho5⟩, hr5, rfl⟩
  have tl5 : tc < σ5.next := Nat.lt_of_lt_of_le htl s5.next
  unfold HcN at hc5
  obtain ⟨ds, hds⟩ : ∃ ds, noteC ⟨k, t, y, (cd : Int), xs, nm, ky, [], []⟩ .nilsl .nilsl = ds := ⟨_, rfl⟩
  have dsl : ds.length = 15 := by rw [← hds]; exact noteC_len hxs
  obtain ⟨z1, z2, z3, z4, z5⟩ := noteC_tail (x := ⟨k, t, y, (cd : Int), xs, nm, ky, [], []⟩) (dv := .nilsl) (iv := .nilsl) hxs
  rw [hds] at hc5 z1 z2 z3 z4 z5
  rcases hr5 with ⟨rfl, hr5, rfl⟩ | ⟨rfl, hr5⟩ | ⟨rfl, hr5⟩
  · simp [lk_cons, ho5]
    refine rtext_c h5 (by omega) (fun e σ' he hs => hT e σ' (by rw [hr5, pN4]; exact pB_err (by rw [pTx]; exact pB_err he)) (s5.trans hs.c)) fun x l' σ6 p1 p2 p3 => ?_
    have hz2 := (p3.keep tc tl5 hrt).trans hc5
    have ho2 := (p3.keep σ4.next hol5 (by omega)).trans ho5
    have hlen := (pText_len p1).1
    have n3 := p3.next
    simp [lk_cons, hz2, storeL, dsl]
    refine ⟨1, by omega, 1, l', ⟨x.toArray⟩, ⟨#[]⟩, rfl, by omega, kR _ p2, by omega, s5.trans (p3.c.trans RStpC.st), by unfold HcN; simp [z1], ⟨by show σ4.next < σ6.next; omega, by simp [e4]; exact ho2⟩, .inr (.inl ⟨rfl, by rw [hr5, pN4]; exact pB_ok (by rw [pTx, pB_ok p1]; rfl)⟩), by simp [show IntKind.i64.wrap 1 = 1 from rfl]⟩
  · simp [lk_cons, ho5]
    refine rtext_c h5 (by omega) (fun e σ' he hs => hT e σ' (by rw [hr5]; exact pB_err (by rw [pTx]; exact pB_err he)) (s5.trans hs.c)) fun x l' σ6 p1 p2 p3 => ?_
    have hz2 := (p3.keep tc tl5 hrt).trans hc5
    have ho2 := (p3.keep σ4.next hol5 (by omega)).trans ho5
    have hlen := (pText_len p1).1
    have n3 := p3.next
    simp [lk_cons, hz2, storeL, dsl]
    refine ⟨2, l', nm, ⟨x.toArray⟩, rfl, by omega, kR _ p2, by omega, s5.trans (p3.c.trans RStpC.st), by unfold HcN; simp [z2], ⟨by show σ4.next < σ6.next; omega, by simp [e4]; exact ho2⟩, .inr (.inr ⟨rfl, by rw [hr5]; exact pB_ok (by rw [pTx, pB_ok p1]; rfl)⟩), by simp [show IntKind.i64.wrap 2 = 2 from rfl]⟩
  simp [lk_cons, ho5]
  refine rbytes_b h5 (by omega) (fun e σ' he hs => hT e σ' (by rw [hr5, pN5]; exact pB_err he) (s5.trans hs.c)) fun d l6 dv bd σ6 p1 p2 p3 p4 p5 => ?_
  have c6 := (p5.keep tc tl5 hrt).trans hc5
  have n6 := p5.next
  have hlen6 := (pBytes_len p1).1
  have hdone := p3.one
  simp [lk_cons, c6, storeL, dsl, hdone]
  obtain ⟨S6, hS6⟩ : ∃ S6 : St, S6 = ⟨σ6.mem.set tc (.cells 15 (ds.set 13 dv)), σ6.next⟩ := ⟨_, rfl⟩
  have nS6 : S6.next = σ6.next := by rw [hS6]
  have rS6 : RR S6 r l6 c := by rw [hS6]; exact kR _ p2
  have sS6 : RStpC r tc σ S6 := by rw [hS6]; exact s5.trans (p5.c.trans RStpC.st)
  have cS6 : HcN tc S6 k t y cd xs nm ky dv .nilsl := by rw [hS6]; unfold HcN; simp [z3]
  have dS6 : GS rwB S6 dv d bd := by
    rw [hS6]
    refine p3.keep (Nat.le_refl _) fun a ha hab => ?_
    have := p4 a hab
    simp [show ¬ a = tc by omega]
  rw [← hS6]
  refine ru16_c rS6 (by omega) (fun e he => hT e S6 (by rw [hr5, pN5, pB_ok p1]; exact pB_err he) sS6) fun N l7 σ7 q6 q7 q8 => ?_
  have hN := (pNum_len q6).2
  have hlen7 := (pNum_len q6).1
  have s7 := sS6.trans q8.c
  have c7 := (q8.keep tc (by omega) hrt).trans cS6
  have hbd : ∀ z, bd = some z → z < S6.next ∧ σ5.next ≤ z := fun z hz => ⟨dS6.lt hz, p4 z hz⟩
  have hr5n : r < σ5.next := by obtain ⟨_, _, _, _, h⟩ := h5; exact h
  have d7 : GS rwB σ7 dv d bd := dS6.keep q8.next fun a ha hab => q8.keep a ha (by have := hbd a hab; omega)
  have hr7 : pNote l = pB (pMany pItem N) (fun is => pR ⟨k, t, y, (cd : Int), xs, nm, ky, d, is⟩) l7 := by rw [hr5, pN5, pB_ok p1, pB_ok q6]
  have n7 := q8.next
  simp [lk_cons]
  refine wp_loop (HiJ (pNote l) r tc c k t y cd xs nm ky dv d bd N σ σ7) N ?_ ?_
  · exact ⟨0, l7, .nilsl, [], none, [], rfl, by omega, rfl, q7, by omega, ⟨Nat.le_refl _, fun _ _ _ _ => rfl⟩, c7, GS.nil _, Its.nil _ _ _, by simp, hr7, by simp [lk_cons]⟩
  rintro mm rg σ8 ⟨i, l8, iv, its, b, is, rfl, hi8, his, h8, hl8, s8, hc8, hg8, hi2, hb8, hr8, rfl⟩
  have tl8 : tc < σ8.next := by have := s8.next; omega
  unfold HcN at hc8
  have hnl2 : (NoteV.mk k t y (cd : Int) xs nm ky [] []).nums.length = 7 := hxs
  obtain ⟨y1, y2, y3, y4, y5⟩ := noteC_tail (x := ⟨k, t, y, (cd : Int), xs, nm, ky, [], []⟩) (dv := dv) (iv := iv) hxs
  by_cases hlt : i < N
  · have hlt' : (i : Int) < N := by omega
    have w1 : IntKind.u16.wrap ((i : Int) + 1) = ((i + 1 : Nat) : Int) := by rw [IntWalk.u16_in] <;> omega
    obtain ⟨j, hj⟩ : ∃ j, N - i = j + 1 := ⟨N - i - 1, by omega⟩
    rw [hj, pMany_step] at hr8
    obtain ⟨es, hes⟩ : ∃ es, noteC ⟨k, t, y, (cd : Int), xs, nm, ky, [], []⟩ dv iv = es := ⟨_, rfl⟩
    have esl : es.length = 15 := by rw [← hes]; exact noteC_len hxs
    rw [hes] at hc8 y4 y5
    simp [lk_cons, hlt, hlt', hc8, y5]
    have htb : b ≠ some tc := fun e => by have := hb8 _ e; omega
    refine ru64_c h8 (by omega) (fun e he => hT e σ8 (by rw [hr8]; exact pB_err (pB_err he)) (s7.trans s8)) fun n l9 σ9 u1 u2 u3 => ?_
    have s9 := s8.trans u3.c
    have c9 := (u3.keep tc tl8 hrt).trans hc8
    have n9 := u3.next
    have hlen9 := (pNum_len u1).1
    simp [lk_cons, c9, y5]
    refine rbytes_b u2 (by omega) (fun e σ' he hs => hT e σ' (by rw [hr8]; exact pB_err (by rw [pItem, pB_ok u1]; exact pB_err he)) ((s7.trans s9).trans hs.c)) fun d2 l10 v2 b2 σ10 x1 x2 x3 x4 x5 => ?_
    have s10 := s9.trans x5.c
    have c10 := (x5.keep tc (by omega) hrt).trans c9
    have n10 := x5.next
    have hlen10 := (pBytes_len x1).1
    have n8 := s8.next
    have hv2 := x3.one
    have hit8 : ∀ a, a < σ8.next → a ≠ r → σ10.mem.get a = σ8.mem.get a := fun a ha hr => (x5.keep a (by omega) hr).trans (u3.keep a ha hr)
    have hr7n : r < σ.next := q4
    have hg10 : GS rwI σ10 iv its b := hg8.keep (by omega) fun a ha hab => hit8 a ha (by have := hb8 a hab; omega)
    have hi10 : Its σ10 (fun a => σ.next ≤ a) b its is := hi2.keep (by omega) (fun a ha hk _ => hit8 a ha (by omega)) fun _ _ e => e
    obtain ⟨SA, hSA⟩ : ∃ SA : St, SA = ⟨σ10.mem.set σ10.next (.cells 2 [u64 (n : Int), v2]), σ10.next + 1⟩ := ⟨_, rfl⟩
    have nSA : SA.next = σ10.next + 1 := by rw [hSA]
    have kSA : ∀ a, a < σ10.next → SA.mem.get a = σ10.mem.get a := fun a ha => by rw [hSA]; simp [show ¬ a = σ10.next by omega]
    have hblt : ∀ z, b = some z → z < σ10.next := fun z hz => hg10.lt hz
    obtain ⟨σ11, a1, a2, a3, a4⟩ := gs_app1 (hg10.keep (σ' := SA) (by omega) fun a ha _ => kSA a ha) (nb := σ10.next) (by_ := 32) (t := true) (x := (n, ⟨v2, hv2.1⟩)) (by decide) (by rw [hSA]; simp [rwI]) (fun e => by have := hblt _ e; omega) (by rw [hi2.1, his]; omega) (by rw [hi2.1, his]; omega)
    rw [hi2.1, his] at a1 a2
    have a1' := a1
    rw [hSA] at a1
    have c11 : σ11.mem.get tc = some (.cells 15 es) := (a4 tc (by omega) htb).trans ((kSA tc (by omega)).trans c10)
    simp [lk_cons, c10, y5, hv2, fillL, repL, storeL, ↓a1, c11, esl, w1]
    have kB : ∀ a, a < σ10.next → a ≠ tc → b ≠ some a → (σ11.mem.set tc (.cells 15 (es.set 14 (.sl SA.next 0 (i + 1) (i + 1) false)))).get a = σ10.mem.get a := fun a ha h1 h2 => by
      simp [h1]
      exact (a4 a (by omega) h2).trans (kSA a ha)
    rw [nSA] at kB a2 a3
    obtain ⟨q1, q2⟩ : c ≠ some r ∧ (∀ z, c = some z → z < σ7.next) := by
      obtain ⟨_, _, hh, h3, _⟩ := q7
      exact ⟨h3, fun z hz => hh.lt hz⟩
    refine ⟨by rw [List.getElem?_eq_getElem (by omega)] at y5; exact Option.some.inj y5, N - (i + 1), by omega, i + 1, l10, .sl (σ10.next + 1) 0 (i + 1) (i + 1) false, its ++ [(n, ⟨v2, hv2.1⟩)], some (σ10.next + 1), is ++ [(n, d2)], rfl, by omega, by simp [his], ?_, by omega, ?_, ?_, ?_, ?_, ?_, ?_, rfl⟩
    · refine x2.keep (by show σ10.next ≤ σ11.next; omega) fun a ha hac => kB a ha ?_ ?_
      · rcases hac with rfl | hac
        · exact Ne.symm hrt
        · exact fun e => hct (by rw [hac, e])
      · intro e
        have := hb8 _ e
        rcases hac with rfl | hac
        · omega
        · have := q2 a hac; omega
    · refine ⟨by show σ7.next ≤ σ11.next; omega, fun a ha h1 h2 => ?_⟩
      rw [kB a (by omega) h2 (fun e => by have := hb8 _ e; omega)]
      exact s10.keep a ha h1 h2
    · unfold HcN
      simp [y4]
    · refine a2.keep (by show σ11.next ≤ σ11.next; omega) fun a ha hab => ?_
      cases hab
      simp [show ¬ σ10.next + 1 = tc by omega]
    · refine (Its.snoc (hv := hv2.1) (hi10) (RdB.ofGS x3) (fun z hz => ⟨by have := x4 z hz; omega, fun e => by have := x4 z hz; have := hg8.lt e; omega⟩)).keep (by show σ10.next ≤ σ11.next; omega) (fun a ha hk hb => kB a ha (by omega) hb) fun a ha e => by cases e; omega
    · intro z hz; cases hz; omega
    · rw [hr8, pB_ok (by rw [pItem, pB_ok u1, pB_ok x1]; rfl : pItem l8 = .ok ((n, d2), l10)), show N - (i + 1) = j by omega]
      simp
  have : i = N := by omega
  subst this
  simp [lk_cons]
  rw [Nat.sub_self] at hr8
  refine hK ⟨k, t, y, (cd : Int), xs, nm, ky, d, is⟩ l8 σ8 (by rw [hr8]; simp [pMany, pB, pR]) h8 ⟨dv, iv, bd, ?_, ?_, ?_, .inr ⟨its, b, hg8, ?_, hi2⟩⟩ (s7.trans s8)
  · exact hc8
  · exact d7.keep s8.next fun a ha hab => s8.keep a ha (by have := hbd a hab; omega) (by have := hbd a hab; omega)
  · intro z hz; have := hbd z hz; have := s5.next; omega
  · intro z hz; have := hb8 z hz; have := s7.next; omega
end Go.Proofs.YticefdfhcahlfaaDoor.AM

namespace Go.Proofs.YticefdfhcahlfaaDoor.AM
open Go.RowKit
set_option maxRecDepth 100000
set_option linter.unusedVariables false
set_option linter.unusedSimpArgs false
theorem nums7 {x : NoteV} (h : x.nums.length = 7) : ∃ a b c d e f g, x.nums = [a, b, c, d, e, f, g] := by
  match h2 : x.nums, h with
  | [a, b, c, d, e, f, g], _ => exact ⟨a, b, c, d, e, f, g, rfl⟩
end Go.Proofs.YticefdfhcahlfaaDoor.AM

namespace Go.Proofs.YticefdfhcahlfaaDoor.AM
open Go.RowKit
set_option maxRecDepth 100000
set_option linter.unusedVariables false
set_option linter.unusedSimpArgs false
section
variable {β : Type} {res : Except Nat (β × List UInt8)} {st : RSt}
end
theorem pNote_nums {l r : List UInt8} {x : NoteV} (h : pNote l = .ok (x, r)) : x.nums.length = 7 := by
  obtain ⟨k, l1, _, h⟩ := pB_inv h
  obtain ⟨t, l2, _, h⟩ := pB_inv h
  obtain ⟨y, l3, _, h⟩ := pB_inv h
  obtain ⟨c, l4, _, h⟩ := pB_inv h
  obtain ⟨ns, l5, h5, h⟩ := pB_inv h
  obtain ⟨nm, l6, _, h⟩ := pB_inv h
  obtain ⟨ky, l7, _, h⟩ := pB_inv h
  obtain ⟨d, l8, _, h⟩ := pB_inv h
  obtain ⟨n, l9, _, h⟩ := pB_inv h
  obtain ⟨is, l10, _, h⟩ := pB_inv h
  cases h
  exact (pMany_len (fun l x r h => by have := (pNum_len h).1; omega) 7 _ _ _ h5).2
def NtRel (σ : St) (K : Nat → Prop) (l : List UInt8) (gv : AVal) (code : Nat) : Prop := (pNote l = .error code ∧ gv = .agg noteCs) ∨ (∃ x l', pNote l = .ok (x, l') ∧ l' ≠ [] ∧ gv = .agg noteCs ∧ code = 5) ∨ ∃ x dv iv b, pNote l = .ok (x, []) ∧ gv = .agg (noteC x dv iv) ∧ RdB σ dv x.data b ∧ (∀ y, b = some y → K y) ∧ ItR σ K iv x.items ∧ code = 0
theorem hear_c {σ : St} {bv : AVal} {l : List UInt8} {c : Option Nat} (hb : RdB σ bv l c) (hl : l.length ≤ 1000000) (Q : AVal → St → Prop) (hQ : ∀ gv code σ', NtRel σ' (fun a => σ.next ≤ a) l gv code → Grow σ σ' → Q (.tup [gv, i64 (code : Nat)]) σ') : ACall Tryd.prog 17 [bv] σ Q := by
  refine ACall.of_compF hmx (fun a w => Tryd.call17 a w) Tryd.func17 cf17 (n := 1) (by decide) rfl ?_
  simp [ac17, rs17, lk_cons]
  obtain ⟨S, hS⟩ : ∃ S : St, S = ⟨(σ.mem.set σ.next (.cells 15 noteCs)).set (σ.next + 1) (.cells 15 noteCs), σ.next + 1 + 1⟩ := ⟨_, rfl⟩
  have nS : S.next = σ.next + 2 := by rw [hS]
  have kS : ∀ a, a < σ.next → S.mem.get a = σ.mem.get a := fun a ha => by rw [hS]; simp [show ¬ a = σ.next by omega, show ¬ a = σ.next + 1 by omega]
  have m2 : S.mem.get σ.next = some (.cells 15 noteCs) := by rw [hS]; simp
  have m4 : S.mem.get (σ.next + 1) = some (.cells 15 noteCs) := by rw [hS]; simp
  unfold noteCs at hS
  rw [← hS]
  refine read_h (X := NoteV) (res := pNote l) (Post := fun x σ1 σ' => NoteM (σ.next + 1) x σ1 σ') (hb.keep (by omega) fun a ha _ => kS a ha) (cell := σ.next + 1) (by omega) _ (fun T r σa K k1 k2 k3 k4 k5 => ?_) (fun e σb he hn hk => ?_) (fun x l' σa σb σc hx hpost hga hna hmem hnx hnab hkeep => ?_)
  · have htc := (k3.2 (σ.next + 1) (by omega)).trans m4
    exact hearc_c k1 hl htc (by have := k3.1; omega) (by omega) (fun ec => by have := hb.lt ec; omega) (fun e σ' he hs => k4 e σ' he hs) fun x l' σ' h1 h2 h3 h4 => k5 x l' σ' h1 h2 h3 h4.next h4.keep
  · have he0 := pNote_err he
    have he0' : ¬ (e : Int) = 0 := by omega
    have hm := (hk σ.next (by omega) (by omega)).trans m2
    have hmn := hm
    unfold noteCs at hm
    simp [lk_cons, he0, he0', hm, storeL, fillL]
    exact hQ _ e _ (.inl ⟨he, rfl⟩) ⟨by show σ.next ≤ σb.next; omega, fun a ha => by
      simp [show ¬ a = σ.next by omega]
      exact (hk a (by omega) (by omega)).trans (kS a ha)⟩
  · obtain ⟨dv, iv, bd, z1, z2, z3, z4⟩ := hpost
    have hm : σc.mem.get (σ.next + 1) = some (.cells 15 (noteC x dv iv)) := (hmem (σ.next + 1) (by omega)).trans z1
    have hm2 : σc.mem.get σ.next = some (.cells 15 noteCs) := (hmem σ.next (by omega)).trans ((hkeep σ.next (by omega) (by omega)).trans m2)
    have gk : ∀ a, a < σ.next → σc.mem.get a = σ.mem.get a := fun a ha => by
      rw [hmem a (by omega), hkeep a (by omega) (by omega), kS a ha]
    have gq : ∀ b, Grow σ ⟨σc.mem.set σ.next b, σc.next⟩ := fun b => ⟨by have := hga.1; show σ.next ≤ σc.next; omega, fun a ha => by
      simp [show ¬ a = σ.next by omega]
      exact gk a ha⟩
    unfold noteCs at hm2
    obtain ⟨n1, n2, n3, n4, n5, n6, n7, hnm⟩ := nums7 (pNote_nums hx)
    have hC : noteC x dv iv = [.int .u8 (x.kind : Int), .int .u8 (x.topic : Int), .bool x.yes, .int .i64 x.code, u64 (n1 : Int), u64 (n2 : Int), u64 (n3 : Int), u64 (n4 : Int), u64 (n5 : Int), u64 (n6 : Int), u64 (n7 : Int), .str x.name, .str x.key, dv, iv] := by rw [noteC, hnm]; rfl
    have hone := z2.one
    have hione := z4.one
    have hn1 := hga.1
    cases l' with
    | nil =>
      rw [hC] at hm
      simp [lk_cons, hm, hm2, storeL, fillL, hone, hione]
      rw [← hC]
      refine hQ _ 0 _ (.inr (.inr ⟨x, dv, iv, bd, hx, rfl, RdB.ofGS (z2.keep (by show _ ≤ σc.next; omega) fun a ha hab => ?_), fun y hy => by have := z3 y hy; omega, (z4.keep (by show _ ≤ σc.next; omega) fun a ha hk => ?_).mono fun a ha => by omega, rfl⟩)) (gq _)
      · have := z3 a hab
        simp [show ¬ a = σ.next by omega]
        exact hmem a (by omega)
      · simp [show ¬ a = σ.next by omega]
        exact hmem a (by omega)
    | cons y l' =>
      simp [lk_cons, hm2, storeL, fillL]
      exact hQ _ 5 _ (.inr (.inl ⟨x, y :: l', hx, by simp, rfl, rfl⟩)) (gq _)
end Go.Proofs.YticefdfhcahlfaaDoor.AM



namespace Go.Proofs.YticefdfhcahlfaaDoor.AM
open Go.RowKit
set_option maxRecDepth 100000
set_option linter.unusedVariables false
set_option linter.unusedSimpArgs false
theorem rep_bytes (k : Nat) : repL k [.int .u8 0] = bytesV (List.replicate k 0) := by
  simp only [repL, bytesV, List.map_replicate]
  rw [show ((0 : UInt8).toNat : Int) = 0 from rfl]
  induction k with
  | zero => rfl
  | succ k ih => rw [List.replicate_succ, List.flatten_cons, ih, List.replicate_succ]; rfl
theorem mk_str (m : Mem) (a N k : Nat) (h : a < N) (z : List UInt8) (hz : List.replicate k 0 = z) : evalV ⟨m.set a (.cells 1 (repL k [.int .u8 0])), N⟩ (.bytesStr (.sl a 0 k k true)) = some (.str ⟨z.toArray⟩, ⟨m.set a (.cells 1 (repL k [.int .u8 0])), N⟩) := by
  have hl : z.length = k := by rw [← hz]; simp
  refine (RdB.ofGS (b := some a) (.inr ⟨a, true, rfl, by rw [hl], h, ?_⟩)).str
  rw [rwsB, rep_bytes, hz]; simp
theorem awake {σ : St} (Q : AVal → St → Prop) (hQ : ∀ σ', Grow σ σ' → Q (.bool true) σ') : ACall Tryd.prog 10 [] σ Q := by
  refine ACall.of_compF hmx (fun a w => Tryd.call10 a w) Tryd.func10 cf10 (n := 0) (by decide) rfl ?_
  simp [ac10, rs10, lk_cons, fillL]
  refine enc0_c _ fun v b σ1 h1 g1 => ?_
  simp [lk_cons, fillL]
  refine tell0_c _ ?_
  generalize h74 : List.replicate 74 (0 : UInt8) = z74
  generalize h19 : List.replicate 19 (0 : UInt8) = z19 at h1
  have l74 : z74.length = 74 := by rw [← h74]; rfl
  simp [lk_cons, fillL, storeL, repL]
  obtain ⟨S, hS⟩ : ∃ S : St, S = ⟨σ1.mem.set σ1.next (.cells 1 [.int .u8 1]), σ1.next + 1⟩ := ⟨_, rfl⟩
  have nS : S.next = σ1.next + 1 := by rw [hS]
  have gS : Grow σ1 S := ⟨by omega, fun a ha => by rw [hS]; simp [show ¬ a = σ1.next by omega]⟩
  have hb : RdB S (.sl σ1.next 0 1 1 true) [1] (some σ1.next) := RdB.ofGS (.inr ⟨σ1.next, true, rfl, rfl, by omega, by rw [hS]; simp [rwsB, bytesV]⟩)
  rw [← hS]
  refine hear1_c hb _ fun σ2 g2 => ?_
  have g02 := g1.trans (gS.trans g2)
  have h2 := h1.keep (gS.trans g2).1 fun a ha _ => (gS.trans g2).2 a ha
  have hv : ∀ A B : Blk, evalV ⟨(σ2.mem.set σ2.next A).set σ2.next B, σ2.next + 1⟩ (.bytesStr v) = some (.str ⟨z19.toArray⟩, ⟨(σ2.mem.set σ2.next A).set σ2.next B, σ2.next + 1⟩) := fun A B => (RdB.ofGS (h2.keep (σ' := ⟨(σ2.mem.set σ2.next A).set σ2.next B, σ2.next + 1⟩) (by simp) fun a ha _ => by simp [show ¬ a = σ2.next by omega])).str
  have m19 : ∀ m : Mem, _ := fun m => mk_str m (σ2.next + 1) (σ2.next + 1 + 1) 19 (by omega) z19 h19
  have m74 : ∀ m : Mem, _ := fun m => mk_str m (σ2.next + 1 + 1) (σ2.next + 1 + 1 + 1) 74 (by omega) z74 h74
  have b74 : ∀ ρ : St, evalV ρ (.bytesStr (.isl (bytesV z74) 74 false)) = some (.str ⟨z74.toArray⟩, ρ) := fun ρ => (RdB.ofI (.inr ⟨false, by rw [l74]⟩) ρ).str
  simp [lk_cons, noteCs, fillL, storeL, ↓hv, ↓m19, ↓m74, ↓b74, strEq]
  exact hQ _ (g02.trans ⟨by simp; omega, fun a ha => by simp [show ¬ a = σ2.next by omega, show ¬ a = σ2.next + 1 by omega, show ¬ a = σ2.next + 1 + 1 by omega]⟩)
end Go.Proofs.YticefdfhcahlfaaDoor.AM



namespace Go.Proofs.YticefdfhcahlfaaDoor.AM
open Go.RowKit
set_option maxRecDepth 100000
set_option linter.unusedVariables false
set_option linter.unusedSimpArgs false
theorem be_cons (x : UInt8) (l : List UInt8) : be (x :: l) = x.toNat * 256 ^ l.length + be l := by
  have gen : ∀ (l : List UInt8) (a : Nat), l.foldl (fun a b => a * 256 + b.toNat) a = a * 256 ^ l.length + be l := by
    intro l
    induction l with
    | nil => intro a; simp [be]
    | cons y l ih =>
      intro a
      simp only [be, List.foldl_cons, List.length_cons] at ih ⊢
      rw [ih, ih (0 * 256 + y.toNat), Nat.pow_succ]
      rw [Nat.add_mul, Nat.add_mul, Nat.mul_assoc, Nat.mul_comm 256]
      omega
  have := gen l (0 * 256 + x.toNat)
  simpa [be] using this
theorem be_beN (n : Nat) : ∀ k, be (beN k n) = n % 256 ^ k
  | 0 => by simp [beN, be, Nat.mod_one]
  | k + 1 => by
    rw [beN, be_cons, beN_len, be_beN n k, Nat.pow_succ]
    have h1 : (UInt8.ofNat (n / 256 ^ k)).toNat = n / 256 ^ k % 256 := by simp
    rw [h1, Nat.mod_mul, Nat.add_comm, Nat.mul_comm]
structure NoteV.Sm (x : NoteV) : Prop where
  name : x.name.size ≤ 800
  key : x.key.size ≤ 800
  data : x.data.length ≤ 1000
  items : x.items.length ≤ 10
  each : ∀ y ∈ x.items, y.2.length ≤ 100
theorem itsB_lenS {l : List (Nat × List UInt8)} (h : ∀ y ∈ l, y.2.length ≤ 100) : (itsB l).length ≤ 112 * l.length := by
  induction l with
  | nil => simp [itsB]
  | cons x l ih =>
    have h1 := h x (by simp)
    have h2 := ih fun y hy => h y (by simp [hy])
    simp only [itsB, List.map_cons, List.flatten_cons, List.length_append, itB, byB_len, beN_len, List.length_cons] at h2 ⊢
    omega
theorem noteB_lenS {x : NoteV} (ok : x.Ok) (s : x.Sm) : (noteB x).length ≤ 4096 := by
  have h1 := itsB_lenS s.each
  have := s.name; have := s.key; have := s.data; have := s.items
  simp only [noteB, noteH, noteM, List.length_append, txB_len, byB_len, beN_len, numsB_len, ok.nums]
  omega
end Go.Proofs.YticefdfhcahlfaaDoor.AM


namespace Go.Proofs.YticefdfhcahlfaaDoor.AM
open Go.RowKit
set_option maxRecDepth 100000
set_option linter.unusedVariables false
set_option linter.unusedSimpArgs false
theorem and255 (c : Int) : ∃ d : Int, abits .and .i64 c 255 = some (.int .i64 d) ∧ 0 ≤ d ∧ d ≤ 255 := by
  have h : (BitVec.ofInt IntKind.i64.bits c &&& BitVec.ofInt IntKind.i64.bits 255).toNat ≤ 255 := by
    rw [BitVec.toNat_and]
    refine Nat.le_trans Nat.and_le_right ?_
    decide
  simp only [abits]
  refine ⟨_, rfl, ?_, ?_⟩ <;> rw [IntWalk.i64_in] <;> omega
end Go.Proofs.YticefdfhcahlfaaDoor.AM

namespace Go.Proofs.YticefdfhcahlfaaDoor.AM
open Go.RowKit
set_option maxRecDepth 100000
set_option linter.unusedVariables false
set_option linter.unusedSimpArgs false
def U8Arg (x : List AVal) : Prop := ∃ n, x = [.int .u8 n] ∧ (Lit.int .u8 n).wf = true
def BytesArg (b : List AVal) : Prop := b = [.nilsl] ∨ ∃ xs : List (List AVal), b = [.isl xs.flatten xs.length false] ∧ (∀ x ∈ xs, x.length = 1 ∧ U8Arg x) ∧ xs.length ≤ 9223372036854775807 ∧ xs.length * 1 ≤ 140737488351232
def U64Arg (x : List AVal) : Prop := ∃ n, x = [.int .u64 n] ∧ (Lit.int .u64 n).wf = true
def ItemArg (x : List AVal) : Prop := ∃ a b, x = a ++ b ∧ U64Arg a ∧ BytesArg b
def ItemsArg (b : List AVal) : Prop := b = [.nilsl] ∨ ∃ xs : List (List AVal), b = [.isl xs.flatten xs.length false] ∧ (∀ x ∈ xs, x.length = 2 ∧ ItemArg x) ∧ xs.length ≤ 9223372036854775807 ∧ xs.length * 32 ≤ 140737488351232
theorem bytesArg {b : List AVal} (h : BytesArg b) : ∃ d l, b = [d] ∧ BytesOf d l ∧ l.length ≤ 140737488355328 := by
  have hd : ∃ d, b = [d] := by
    rcases h with h | ⟨xs, h, _⟩ <;> exact ⟨_, h⟩
  obtain ⟨d, rfl⟩ := hd
  obtain ⟨l, h1, h2⟩ := bytes_arg (ok := U8Arg) (fun x hx => hx) h
  exact ⟨d, l, rfl, h1, by omega⟩
theorem itemsCells : ∀ xs : List (List AVal), (∀ x ∈ xs, x.length = 2 ∧ ItemArg x) → ∃ ys : List (Nat × List UInt8), ICells xs.flatten ys ∧ ys.length = xs.length ∧ (∀ y ∈ ys, y.1 < 18446744073709551616) ∧ ∀ y ∈ ys, y.2.length ≤ 140737488355328
  | [], _ => ⟨[], trivial, rfl, by simp, by simp⟩
  | x :: xs, h => by
    obtain ⟨ys, h1, h2, h3, h4⟩ := itemsCells xs (fun y hy => h y (by simp [hy]))
    obtain ⟨_, a, b, rfl, ⟨n, rfl, hw⟩, hb⟩ := h x (by simp)
    obtain ⟨d, l, rfl, hd, hl⟩ := bytesArg hb
    obtain ⟨k, rfl, hk⟩ := wf_u64 hw
    refine ⟨(k, l) :: ys, ⟨rfl, hd, h1⟩, by simp [h2], fun y hy => ?_, fun y hy => ?_⟩
    · rcases List.mem_cons.1 hy with rfl | hy
      · exact hk
      · exact h3 y hy
    · rcases List.mem_cons.1 hy with rfl | hy
      · exact hl
      · exact h4 y hy
theorem itemsArg {b : List AVal} (h : ItemsArg b) : ∃ v ys, b = [v] ∧ ItemsOf v ys ∧ (∀ y ∈ ys, y.1 < 18446744073709551616) ∧ ∀ y ∈ ys, y.2.length ≤ 140737488355328 := by
  rcases h with h | ⟨xs, h, hx, _⟩
  · exact ⟨_, [], h, .inl ⟨rfl, rfl⟩, by simp, by simp⟩
  · obtain ⟨ys, h1, h2, h3, h4⟩ := itemsCells xs hx
    exact ⟨_, ys, h, .inr ⟨_, _, _, rfl, h2.symm, h1⟩, h3, h4⟩
def I64Arg (x : List AVal) : Prop := ∃ n, x = [.int .i64 n] ∧ (Lit.int .i64 n).wf = true
def StrArg (x : List AVal) : Prop := ∃ s : ByteArray, x = [.str s] ∧ s.size ≤ 140737488351232
def PairArg (x : List AVal) : Prop := (fun x => ∃ a b, x = a ++ b ∧ U64Arg a ∧ U64Arg b) x
def NoteArg (us : List AVal) : Prop := (fun x => ∃ a b, x = a ++ b ∧ U8Arg a ∧ (fun x => ∃ a b, x = a ++ b ∧ U8Arg a ∧ (fun x => ∃ a b, x = a ++ b ∧ (∃ q, a = [.bool q]) ∧ (fun x => ∃ a b, x = a ++ b ∧ I64Arg a ∧ (fun x => ∃ a b, x = a ++ b ∧ U64Arg a ∧ (fun x => ∃ a b, x = a ++ b ∧ U64Arg a ∧ (fun x => ∃ a b, x = a ++ b ∧ U64Arg a ∧ (fun x => ∃ a b, x = a ++ b ∧ U64Arg a ∧ (fun x => ∃ a b, x = a ++ b ∧ U64Arg a ∧ (fun x => ∃ a b, x = a ++ b ∧ PairArg a ∧ (fun x => ∃ a b, x = a ++ b ∧ StrArg a ∧ (fun x => ∃ a b, x = a ++ b ∧ StrArg a ∧ (fun x => ∃ a b, x = a ++ b ∧ BytesArg a ∧ ItemsArg b) b) b) b) b) b) b) b) b) b) b) b) b) us
theorem noteArg {us : List AVal} (h : NoteArg us) : ∃ (x : NoteV) (dv iv : AVal), us = noteC x dv iv ∧ x.Ok ∧ (∀ y ∈ x.items, y.1 < 18446744073709551616) ∧ BytesOf dv x.data ∧ ItemsOf iv x.items := by
  obtain ⟨_, _, rfl, ⟨a1, rfl, w1⟩, _, _, rfl, ⟨a2, rfl, w2⟩, _, _, rfl, ⟨a3, rfl⟩, _, _, rfl, ⟨a4, rfl, w4⟩, _, _, rfl, ⟨n1, rfl, v1⟩, _, _, rfl, ⟨n2, rfl, v2⟩, _, _, rfl, ⟨n3, rfl, v3⟩, _, _, rfl, ⟨n4, rfl, v4⟩, _, _, rfl, ⟨n5, rfl, v5⟩, _, _, rfl, ⟨_, _, rfl, ⟨n6, rfl, v6⟩, ⟨n7, rfl, v7⟩⟩, _, _, rfl, ⟨nm, rfl, _⟩, _, _, rfl, ⟨ky, rfl, _⟩, _, _, rfl, hd, hi⟩ := h
  obtain ⟨dv, d, rfl, hd, _⟩ := bytesArg hd
  obtain ⟨iv, its, rfl, hi, he, _⟩ := itemsArg hi
  obtain ⟨a1, rfl, w1'⟩ := wf_u8 w1
  obtain ⟨a2, rfl, w2'⟩ := wf_u8 w2
  obtain ⟨n1, rfl, v1'⟩ := wf_u64 v1
  obtain ⟨n2, rfl, v2'⟩ := wf_u64 v2
  obtain ⟨n3, rfl, v3'⟩ := wf_u64 v3
  obtain ⟨n4, rfl, v4'⟩ := wf_u64 v4
  obtain ⟨n5, rfl, v5'⟩ := wf_u64 v5
  obtain ⟨n6, rfl, v6'⟩ := wf_u64 v6
  obtain ⟨n7, rfl, v7'⟩ := wf_u64 v7
  refine ⟨⟨a1, a2, a3, a4, [n1, n2, n3, n4, n5, n6, n7], nm, ky, d, its⟩, dv, iv, rfl, ⟨w1', w2', rfl, fun n hn => ?_⟩, he, hd, hi⟩
  simp at hn
  rcases hn with rfl | rfl | rfl | rfl | rfl | rfl | rfl <;> assumption
end Go.Proofs.YticefdfhcahlfaaDoor.AM

namespace Go.Proofs.YticefdfhcahlfaaDoor.AM
set_option maxRecDepth 100000
set_option linter.unusedVariables false
set_option linter.unusedSimpArgs false
theorem frz_sl {lo n o len cap es : Nat} {t : Bool} {m : Mem} {vals : List AVal} (hn : lo ≤ n) (hm : m.get n = some (.cells es vals)) (hl : o + len * es ≤ vals.length) (hu : uptoL lo vals = true) : frz lo m (.sl n o len cap t) = some (.isl ((vals.drop o).take (len * es)) len (t && decide (cap = len))) := by
  simp only [frz, frz1]
  rw [if_neg (by omega), hm]
  simp only
  rw [if_pos ⟨hl, hu⟩]
theorem uptoL_app (lo : Nat) : ∀ a b : List AVal, uptoL lo (a ++ b) = (uptoL lo a && uptoL lo b)
  | [], b => by simp [uptoL]
  | x :: a, b => by simp [uptoL, uptoL_app lo a b, Bool.and_assoc]
def rc : List S25 → List AVal
  | [] => []
  | x :: t => u64 x.f0 :: u64 x.f1 :: rc t
theorem rc_len : ∀ l : List S25, (rc l).length = l.length * 2
  | [] => rfl
  | x :: t => by simp [rc, rc_len t]; omega
theorem rc_drop : ∀ (l : List S25) (i : Nat), (rc l).drop (i * 2) = rc (l.drop i)
  | [], i => by simp [rc]
  | x :: t, 0 => by simp [rc]
  | x :: t, i + 1 => by rw [show (i + 1) * 2 = i * 2 + 1 + 1 by omega]; simp [rc, rc_drop t i]
theorem rc_app : ∀ (l m : List S25), rc (l ++ m) = rc l ++ rc m
  | [], m => rfl
  | x :: t, m => by simp [rc, rc_app t m]
theorem rc_upto (lo : Nat) : ∀ l : List S25, uptoL lo (rc l) = true
  | [] => rfl
  | x :: t => by simp [rc, rc_upto lo t]
theorem rc_get {l : List S25} {i : Nat} {x : S25} (h : l[i]? = some x) : ((rc l).drop (i * 2)).take 2 = [u64 x.f0, u64 x.f1] := by
  have hi := (List.getElem?_eq_some_iff.1 h).1
  rw [rc_drop, List.drop_eq_getElem_cons hi, (List.getElem?_eq_some_iff.1 h).2]
  simp [rc]
def RgI (v : AVal) (l : List S25) : Prop := v = .nilsl ∧ l = [] ∨ ∃ t, v = .isl (rc l) l.length t
def RgM (σ : St) (v : AVal) (l : List S25) : Prop := RgI v l ∨ ∃ a o c t vals, v = .sl a o l.length c t ∧ l.length ≤ c ∧ a < σ.next ∧ σ.mem.get a = some (.cells 2 vals) ∧ o + l.length * 2 ≤ vals.length ∧ (vals.drop o).take (l.length * 2) = rc l
theorem RgI.m {v : AVal} {l : List S25} (h : RgI v l) (σ : St) : RgM σ v l := .inl h
theorem RgM.len {σ : St} {v : AVal} {l : List S25} (h : RgM σ v l) (ρ : St) : evalV ρ (.len 1 v) = some (i64 l.length, ρ) := by
  rcases h with (⟨rfl, rfl⟩ | ⟨t, rfl⟩) | ⟨a, o, c, t, vals, rfl, _⟩ <;> simp
theorem RgM.frame {σ σ' : St} {v : AVal} {l : List S25} (h : RgM σ v l) (hn : σ.next ≤ σ'.next) (hm : ∀ a, a < σ.next → σ'.mem.get a = σ.mem.get a) : RgM σ' v l := by
  rcases h with h | ⟨a, o, c, t, vals, h1, h2, h3, h4, h5⟩
  · exact .inl h
  · exact .inr ⟨a, o, c, t, vals, h1, h2, by omega, (hm a h3).trans h4, h5⟩
theorem RgM.src {σ : St} {v : AVal} {l : List S25} (h : RgM σ v l) {ρ : St} (hm : ∀ a, a < σ.next → ρ.mem.get a = σ.mem.get a) : srcL ρ 2 v = some (rc l, l.length) := by
  rcases h with (⟨rfl, rfl⟩ | ⟨t, rfl⟩) | ⟨a, o, c, t, vals, rfl, h2, h3, h4, h5, h6⟩
  · rfl
  · simp [srcL, rc_len]
  · simp [srcL, hm a h3, h4, h5, h6]
theorem sl_get {vals : List AVal} {o : Nat} {l : List S25} {i : Nat} {x : S25} (h5 : o + l.length * 2 ≤ vals.length) (h6 : (vals.drop o).take (l.length * 2) = rc l) (h : l[i]? = some x) :
    vals[o + i * 2]? = some (u64 x.f0) ∧ vals[o + i * 2 + 1]? = some (u64 x.f1) ∧ o + i * 2 + 2 ≤ vals.length ∧ (vals.drop (o + i * 2)).take 2 = [u64 x.f0, u64 x.f1] := by
  have hi := (List.getElem?_eq_some_iff.1 h).1
  have hg := rc_get h
  have hd : (vals.drop (o + i * 2)).take 2 = [u64 x.f0, u64 x.f1] := by
    rw [← hg, ← h6, List.drop_take, List.drop_drop, List.take_take]
    congr 1; omega
  have e0 : vals[o + i * 2]? = ((vals.drop (o + i * 2)).take 2)[0]? := by simp
  have e1 : vals[o + i * 2 + 1]? = ((vals.drop (o + i * 2)).take 2)[1]? := by simp
  exact ⟨by rw [e0, hd]; rfl, by rw [e1, hd]; rfl, by omega, hd⟩
end Go.Proofs.YticefdfhcahlfaaDoor.AM

namespace Go.Proofs.YticefdfhcahlfaaDoor.AM
set_option maxRecDepth 100000
set_option linter.unusedVariables false
set_option linter.unusedSimpArgs false
theorem frz_rc {lo : Nat} {m : Mem} {b : Nat} {l : List S25} {c : Nat} {t : Bool} {rest : List AVal} (hb : lo ≤ b) (hm : m.get b = some (.cells 2 (rc l ++ rest))) (hr : uptoL lo rest = true) : ∃ v', frz lo m (.sl b 0 l.length c t) = some v' ∧ RgI v' l := by
  have h := frz_sl (o := 0) (len := l.length) (cap := c) (t := t) hb hm (by rw [List.length_append, rc_len]; omega) (by rw [uptoL_app, rc_upto, hr]; rfl)
  rw [List.drop_zero, List.take_append_of_le_length (by rw [rc_len]; omega), List.take_of_length_le (by rw [rc_len]; omega)] at h
  exact ⟨_, h, .inr ⟨_, rfl⟩⟩
end Go.Proofs.YticefdfhcahlfaaDoor.AM


namespace Go.Proofs.YticefdfhcahlfaaDoor.AM
set_option maxRecDepth 100000
set_option linter.unusedVariables false
set_option linter.unusedSimpArgs false
def Out (lo : Nat) (σ' : St) (v : AVal) (l : List S25) : Prop := v = .nilsl ∧ l = [] ∨ ∃ o, v = .sl o 0 l.length l.length false ∧ 0 < l.length ∧ lo ≤ o ∧ o < σ'.next ∧ σ'.mem.get o = some (.cells 2 (rc l))
theorem Out.frz {lo lo' : Nat} {σ' : St} {v : AVal} {l : List S25} (h : Out lo σ' v l) (hl : lo' ≤ lo) : ∃ v', frz lo' σ'.mem v = some v' ∧ RgI v' l := by
  rcases h with ⟨rfl, rfl⟩ | ⟨o, rfl, h0, h1, h2, h3⟩
  · exact ⟨.nilsl, rfl, .inl ⟨rfl, rfl⟩⟩
  · exact frz_rc (rest := []) (Nat.le_trans hl h1) (by simpa using h3) rfl
theorem RgM.at {σ : St} {v : AVal} {l : List S25} (hv : RgM σ v l) {i : Nat} {x : S25} (hx : l[i]? = some x) {ρ : St} (hm : ∀ a, a < σ.next → ρ.mem.get a = σ.mem.get a) :
    ∃ p, evalV ρ (.idxAddr 2 v (i64 i)) = some (p, ρ) ∧ evalV ρ (.ldn 2 p) = some (.agg [u64 x.f0, u64 x.f1], ρ) ∧ (∃ q, evalV ρ (.fieldAddr 0 p) = some (q, ρ) ∧ evalV ρ (.ld1 q) = some (u64 x.f0, ρ)) ∧ ∃ q, evalV ρ (.fieldAddr 1 p) = some (q, ρ) ∧ evalV ρ (.ld1 q) = some (u64 x.f1, ρ) := by
  have hi := (List.getElem?_eq_some_iff.1 hx).1
  rcases hv with (⟨rfl, rfl⟩ | ⟨t, rfl⟩) | ⟨a, o, c, t, vals, rfl, c2, c3, c4, c5, c6⟩
  · simp at hx
  · have e1 := rc_get hx
    exact ⟨.iptr [u64 x.f0, u64 x.f1], by simp [hi, e1], by simp, ⟨.iptr [u64 x.f0, u64 x.f1], by simp, by simp⟩, ⟨.iptr [u64 x.f1], by simp, by simp⟩⟩
  · obtain ⟨e1, e2, e3, e4⟩ := sl_get c5 c6 hx
    have ga := (hm a c3).trans c4
    exact ⟨.ptr a (o + i * 2), by simp [hi], by simp [ga, e3, e4], ⟨.ptr a (o + i * 2), by simp, by simp [ga, e1]⟩, ⟨.ptr a (o + i * 2 + 1), by simp, by simp [ga, e2]⟩⟩
end Go.Proofs.YticefdfhcahlfaaDoor.AM

namespace Go.Proofs.YticefdfhcahlfaaDoor.AM
set_option maxRecDepth 100000
set_option linter.unusedVariables false
set_option linter.unusedSimpArgs false
def InJr (v : AVal) (n : Int) (l : List S25) (σ0 : St) (mm : Nat) (rg : Regs) (σ' : St) : Prop := ∃ i : Nat, mm = l.length - i ∧ i ≤ l.length ∧ inB (l.take i) n = false ∧ σ' = σ0 ∧ rg = [(0, v), (1, u64 n), (5, i64 i)]
theorem rin_c {σ : St} {v : AVal} {l : List S25} (hv : RgM σ v l) (n : Int) (hl : l.length ≤ 100000) (Q : AVal → St → Prop) (h : Q (.bool (inB l n)) σ) : ACall Tryd.prog 95 [v, u64 n] σ Q := by
  refine ACall.of_compF hmx (fun a w => Tryd.call95 a w) Tryd.func95 cf95 (n := 2) (by decide) rfl ?_
  have l1 := hv.len
  simp [ac95, rs95, lk_cons]
  refine wp_loop (InJr v n l σ) l.length ?_ ?_
  · exact ⟨0, rfl, Nat.zero_le _, rfl, rfl, rfl⟩
  · rintro mm rg σ' ⟨i, rfl, hi, hp, rfl, rfl⟩
    by_cases hlt : i < l.length
    · obtain ⟨x, hx⟩ : ∃ x, l[i]? = some x := ⟨_, List.getElem?_eq_getElem hlt⟩
      obtain ⟨k, hk⟩ : ∃ k, i + 1 = k := ⟨_, rfl⟩
      have w1 : IntKind.i64.wrap ((i : Int) + 1) = (k : Int) := by rw [IntWalk.i64_in] <;> omega
      obtain ⟨p, p1, _, ⟨q0, a1, a2⟩, ⟨q1, b1, b2⟩⟩ := hv.at hx (ρ := σ') fun _ _ => rfl
      have hst : inB (l.take k) n = decide (x.f0 ≤ n ∧ n < x.f1) := by
        rw [inB] at hp
        rw [← hk, List.take_add_one, hx, inB, List.any_append, hp]; simp
      by_cases h1 : x.f0 ≤ n
      · by_cases h2 : n < x.f1
        · have : inB l n = true := by rw [inB, List.any_eq_true]; exact ⟨x, List.mem_of_getElem? hx, by simp [h1, h2]⟩
          rw [this] at h
          simp [lk_cons, ↓l1, hlt, ↓p1, ↓a1, ↓a2, ↓b1, ↓b2, h1, h2]
          exact h
        · simp [lk_cons, ↓l1, hlt, ↓p1, ↓a1, ↓a2, ↓b1, ↓b2, h1, h2, w1]
          exact ⟨l.length - k, by omega, k, rfl, by omega, by rw [hst]; simp [h2], rfl, rfl⟩
      · simp [lk_cons, ↓l1, hlt, ↓p1, ↓a1, ↓a2, h1, w1]
        exact ⟨l.length - k, by omega, k, rfl, by omega, by rw [hst]; simp [h1], rfl, rfl⟩
    · have : i = l.length := by omega
      subst this
      rw [List.take_length] at hp
      rw [hp] at h
      simp [lk_cons, ↓l1]
      exact h
def nc (ns : List Int) : List AVal := ns.map u64
def NI (v : AVal) (ns : List Int) : Prop := v = .nilsl ∧ ns = [] ∨ ∃ t, v = .isl (nc ns) ns.length t
theorem nc_len (ns : List Int) : (nc ns).length = ns.length := by simp [nc]
theorem nc_upto (lo : Nat) : ∀ ns : List Int, uptoL lo (nc ns) = true
  | [] => rfl
  | x :: t => by have := nc_upto lo t; simp [nc] at this ⊢; exact this
theorem NI.len {v : AVal} {ns : List Int} (h : NI v ns) (ρ : St) : evalV ρ (.len 1 v) = some (i64 ns.length, ρ) := by
  rcases h with ⟨rfl, rfl⟩ | ⟨t, rfl⟩ <;> simp
theorem NI.at {v : AVal} {ns : List Int} (h : NI v ns) {i : Nat} {y : Int} (hy : ns[i]? = some y) (ρ : St) : ∃ p, evalV ρ (.idxAddr 1 v (i64 i)) = some (p, ρ) ∧ evalV ρ (.ld1 p) = some (u64 y, ρ) := by
  have hi := (List.getElem?_eq_some_iff.1 hy).1
  rcases h with ⟨rfl, rfl⟩ | ⟨t, rfl⟩
  · simp at hy
  · have : ((nc ns).drop i).take 1 = [u64 y] := by
      rw [nc, ← List.map_drop, List.drop_eq_getElem_cons hi, (List.getElem?_eq_some_iff.1 hy).2]; rfl
    exact ⟨.iptr [u64 y], by simp [hi, this], by simp⟩
theorem putM_split (e : Int) : ∀ (l : List Int) (i : Nat), i ≤ l.length → (∀ y ∈ l.take i, y < e) → (∀ y, l[i]? = some y → ¬ y < e) → putM e l = l.take i ++ putM e (l.drop i)
  | l, 0, _, _, _ => by simp
  | [], i + 1, h, _, _ => by simp at h
  | y :: t, i + 1, h, h1, h2 => by
    have hy : y < e := h1 y (by simp)
    conv => lhs; unfold putM
    rw [if_pos hy, putM_split e t i (by simpa using h) (fun z hz => h1 z (by simp [hz])) (fun z hz => h2 z (by simpa using hz))]
    simp
def PutJ (v : AVal) (e : Int) (l : List Int) (σ0 : St) (mm : Nat) (rg : Regs) (σ' : St) : Prop := ∃ i : Nat, mm = l.length - i ∧ i ≤ l.length ∧ (∀ y ∈ l.take i, y < e) ∧ σ' = σ0 ∧ rg = [(0, v), (1, u64 e), (5, i64 i)]
theorem frz_nc {lo lo' : Nat} {m : Mem} {b : Nat} {l : List Int} {c : Nat} {t : Bool} (hb : lo ≤ b) (hm : m.get b = some (.cells 1 (nc l))) : ∃ v', frz lo m (.sl b 0 l.length c t) = some v' ∧ NI v' l := by
  have h := frz_sl (o := 0) (len := l.length) (cap := c) (t := t) hb hm (by rw [nc_len]; omega) (nc_upto _ l)
  rw [List.drop_zero, List.take_of_length_le (by rw [nc_len]; omega)] at h
  exact ⟨_, h, .inr ⟨_, rfl⟩⟩
theorem put_c (σ : St) {v : AVal} {l : List Int} (hv : NI v l) (e : Int) (hl : l.length ≤ 100000) (Q : AVal → St → Prop) (h : ∀ v', NI v' (putM e l) → Q v' σ) : ACall Tryd.prog 106 [v, u64 e] σ Q := by
  refine ACall.freeze ?_
  refine ACall.of_compF hmx (fun a w => Tryd.call106 a w) Tryd.func106 cf106 (n := 2) (by decide) rfl ?_
  have l1 := hv.len
  simp [ac106, rs106, lk_cons]
  refine wp_loop (PutJ v e l σ) l.length ?_ ?_
  · exact ⟨0, rfl, Nat.zero_le _, by simp, rfl, rfl⟩
  · rintro mm rg σ' ⟨i, rfl, hi, hp, rfl, rfl⟩
    by_cases hlt : i < l.length
    · obtain ⟨y, hy⟩ : ∃ y, l[i]? = some y := ⟨_, List.getElem?_eq_getElem hlt⟩
      have hye : l[i] = y := (List.getElem?_eq_some_iff.1 hy).2
      obtain ⟨k, hk⟩ : ∃ k, i + 1 = k := ⟨_, rfl⟩
      have w1 : IntKind.i64.wrap ((i : Int) + 1) = (k : Int) := by rw [IntWalk.i64_in] <;> omega
      obtain ⟨p, p1, p2⟩ := hv.at hy σ'
      by_cases h1 : y < e
      · simp [lk_cons, ↓l1, hlt, ↓p1, ↓p2, h1, w1]
        refine ⟨l.length - k, by omega, k, rfl, by omega, fun z hz => ?_, rfl, rfl⟩
        rw [← hk, List.take_add_one, hy] at hz
        rcases List.mem_append.1 hz with hz | hz
        · exact hp z hz
        · simp at hz; subst hz; exact h1
      · have hsp := putM_split e l i hi hp fun z hz => by rw [hy] at hz; cases hz; exact h1
        have hdr : l.drop i = y :: l.drop k := by rw [List.drop_eq_getElem_cons hlt, hye, hk]
        by_cases h2 : y = e
        · have : putM e l = l := by
            rw [hsp, hdr]; conv => lhs; unfold putM
            rw [if_neg h1, if_pos h2, ← hdr, List.take_append_drop]
          rw [this] at h
          simp [lk_cons, ↓l1, hlt, ↓p1, ↓p2, h1, h2]
          refine ⟨fun a ha => rfl, ?_⟩
          rcases hv with ⟨rfl, _⟩ | ⟨t, rfl⟩
          · exact ⟨_, rfl, h _ (.inl ⟨rfl, by assumption⟩)⟩
          · exact ⟨_, by simp only [frz, frz1]; simp [nc_upto], h _ (.inr ⟨t, rfl⟩)⟩
        · have hpm : putM e l = l.take i ++ e :: l.drop i := by
            rw [hsp, hdr]; conv => lhs; unfold putM
            rw [if_neg h1, if_neg h2]
          rw [hpm] at h
          rcases hv with ⟨rfl, rfl⟩ | ⟨t, rfl⟩
          · simp at hy
          have hc1 : ¬ l.length - i = 0 := by omega
          have fin : ∀ (nb : Nat) (σ'' : St) (kk : Nat), Old σ' σ'' → σ'.next ≤ nb → σ''.mem.get nb = some (.cells 1 (nc (l.take i ++ e :: l.drop i))) → kk = (l.take i ++ e :: l.drop i).length → Old σ' σ'' ∧ ∃ v', frz σ'.next σ''.mem (.sl nb 0 kk kk false) = some v' ∧ Q v' σ' := by
            intro nb σ'' kk a1 a2 a3 a5
            subst a5
            obtain ⟨v', f1, f2⟩ := frz_nc (lo' := 0) (c := (l.take i ++ e :: l.drop i).length) (t := false) a2 a3
            exact ⟨a1, v', f1, h v' f2⟩
          have hi8 : i * 8 ≤ 140737488355328 ∧ i ≤ 9223372036854775807 := by omega
          have hc8 : (i + 1) * 8 ≤ 140737488355328 ∧ i + 1 ≤ 9223372036854775807 := by omega
          have hd8 : (i + 1 + (l.length - i)) * 8 ≤ 140737488355328 ∧ i + 1 + (l.length - i) ≤ 9223372036854775807 := by omega
          simp [lk_cons, ↓l1, hlt, ↓p1, ↓p2, h1, h2, optM, asliceSl, bnd, hi, fillL, repL, srcL, storeL, nc_len, hc1]
          by_cases hi0 : i = 0
          · have hc9 : ¬ 1 + l.length ≤ 1 := by omega
            have hd9 : (1 + l.length) * 8 ≤ 140737488355328 ∧ 1 + l.length ≤ 9223372036854775807 := by omega
            have E1 : AVal.int .u64 e :: List.take l.length (nc l) = nc (l.take i ++ e :: l.drop i) := by
              rw [List.take_of_length_le (show (nc l).length ≤ l.length by rw [nc_len]; omega), hi0]; simp [nc]
            simp [lk_cons, hi0, fillL, repL, srcL, storeL, optM, asliceSl, bnd, nc_len, hc9, hd9]
            refine fin (σ'.next + 1 + 1 + 1) _ _ (fun a ha => by simp [show ¬ a = σ'.next by omega, show ¬ a = σ'.next + 1 by omega, show ¬ a = σ'.next + 1 + 1 by omega, show ¬ a = σ'.next + 1 + 1 + 1 by omega, show ¬ a = σ'.next + 1 + 1 + 1 + 1 by omega]) (by omega) (by rw [← E1]; simp) (by simp; omega)
          · have k1 : ¬ i + 1 ≤ i := by omega
            have k2 : ¬ i + 1 + (l.length - i) ≤ i + 1 := by omega
            have k3 : (nc l).length = l.length := nc_len l
            have k4 : min i l.length = i := by omega
            have k5 : ((nc l).take i).length = i := by rw [List.length_take, k3, k4]
            have E2 : List.take (i + 1) (List.take i (List.take i (nc l)) ++ [AVal.int .u64 e]) ++ List.take (l.length - i) (List.drop i (nc l)) = nc (l.take i ++ e :: l.drop i) := by
              rw [List.take_take, Nat.min_self, List.take_of_length_le (show ((nc l).take i ++ [AVal.int .u64 e]).length ≤ i + 1 by simp [k3, k4]), List.take_of_length_le (show ((nc l).drop i).length ≤ l.length - i by simp [k3])]
              simp [nc]
            simp [lk_cons, hi0, hi8, hc8, hd8, fillL, repL, srcL, storeL, optM, asliceSl, bnd, nc_len, hi, k1, k2, k4, hc1]
            refine fin (σ'.next + 1 + 1 + 1 + 1) _ _ (fun a ha => by simp [show ¬ a = σ'.next by omega, show ¬ a = σ'.next + 1 by omega, show ¬ a = σ'.next + 1 + 1 by omega, show ¬ a = σ'.next + 1 + 1 + 1 by omega, show ¬ a = σ'.next + 1 + 1 + 1 + 1 by omega]) (by omega) (by rw [← E2]; simp) (by simp; omega)
    · have hiN : i = l.length := by omega
      subst hiN
      have hpm : putM e l = l ++ [e] := by
        have := putM_split e l l.length (Nat.le_refl _) hp (fun y hy => by simp at hy)
        rw [this]; simp [putM]
      rw [hpm] at h
      have fin : ∀ (nb : Nat) (σ'' : St) (kk cc : Nat) (t : Bool), Old σ' σ'' → σ'.next ≤ nb → σ''.mem.get nb = some (.cells 1 (nc (l ++ [e]))) → kk = (l ++ [e]).length → Old σ' σ'' ∧ ∃ v', frz σ'.next σ''.mem (.sl nb 0 kk cc t) = some v' ∧ Q v' σ' := by
        intro nb σ'' kk cc t a1 a2 a3 a5
        subst a5
        obtain ⟨v', f1, f2⟩ := frz_nc (lo' := 0) (c := cc) (t := t) a2 a3
        exact ⟨a1, v', f1, h v' f2⟩
      have hi8 : l.length * 8 ≤ 140737488355328 ∧ l.length ≤ 9223372036854775807 := by omega
      have hc8 : (l.length + 1) * 8 ≤ 140737488355328 ∧ l.length + 1 ≤ 9223372036854775807 := by omega
      have k3 : (nc l).length = l.length := nc_len l
      have k1 : ¬ l.length + 1 ≤ l.length := by omega
      rcases hv with ⟨rfl, rfl⟩ | ⟨t, rfl⟩
      · simp [lk_cons, optM, asliceSl, bnd, fillL, repL, srcL, storeL, nc_len]
        exact fin (σ'.next + 1 + 1) _ 1 1 false (fun a ha => by simp [show ¬ a = σ'.next by omega, show ¬ a = σ'.next + 1 by omega, show ¬ a = σ'.next + 1 + 1 by omega]) (by omega) (by simp [nc]) (by simp)
      · by_cases hi0 : l.length = 0
        · have hl0 := List.length_eq_zero_iff.1 hi0
          subst hl0
          simp [lk_cons, optM, asliceSl, bnd, fillL, repL, srcL, storeL, nc_len, nc]
          exact fin (σ'.next + 1 + 1) _ 1 1 false (fun a ha => by simp [show ¬ a = σ'.next by omega, show ¬ a = σ'.next + 1 by omega, show ¬ a = σ'.next + 1 + 1 by omega]) (by omega) (by simp [nc]) (by simp)
        · have E3 : List.take l.length (List.take l.length (nc l)) ++ [AVal.int .u64 e] = nc (l ++ [e]) := by
            rw [List.take_take, Nat.min_self, List.take_of_length_le (show (nc l).length ≤ l.length by rw [nc_len]; omega)]; simp [nc]
          simp [lk_cons, optM, asliceSl, bnd, fillL, repL, srcL, storeL, k3, hi0, hi8, hc8, k1]
          exact fin (σ'.next + 1 + 1 + 1) _ _ _ false (fun a ha => by simp [show ¬ a = σ'.next by omega, show ¬ a = σ'.next + 1 by omega, show ¬ a = σ'.next + 1 + 1 by omega, show ¬ a = σ'.next + 1 + 1 + 1 by omega]) (by omega) (by rw [← E3]; simp) (by simp)
end Go.Proofs.YticefdfhcahlfaaDoor.AM

namespace Go.Proofs.YticefdfhcahlfaaDoor.AM
set_option maxRecDepth 100000
set_option linter.unusedVariables false
set_option linter.unusedSimpArgs false
theorem putM_len (e : Int) : ∀ l : List Int, (putM e l).length ≤ l.length + 1
  | [] => by simp [putM]
  | y :: t => by
    have := putM_len e t
    unfold putM
    split
    · simp; omega
    · split <;> simp
def EndJ (v : AVal) (l : List S25) (σ0 : St) (mm : Nat) (rg : Regs) (σ' : St) : Prop := ∃ (i : Nat) (ov : AVal) (acc : List Int), mm = l.length - i ∧ i ≤ l.length ∧ NI ov acc ∧ endsM l [] = endsM (l.drop i) acc ∧ acc.length ≤ 2 * i ∧ σ' = σ0 ∧ rg = [(0, v), (3, ov), (4, i64 i)]
theorem ends_c {σ : St} {v : AVal} {l : List S25} (hv : RgM σ v l) (hl : l.length ≤ 10000) (Q : AVal → St → Prop) (h : ∀ v', NI v' (endsM l []) → Q v' σ) : ACall Tryd.prog 94 [v] σ Q := by
  refine ACall.of_compF hmx (fun a w => Tryd.call94 a w) Tryd.func94 cf94 (n := 1) (by decide) rfl ?_
  have l1 := hv.len
  simp [ac94, rs94, lk_cons]
  refine wp_loop (EndJ v l σ) l.length ?_ ?_
  · exact ⟨0, .nilsl, [], rfl, Nat.zero_le _, .inl ⟨rfl, rfl⟩, rfl, Nat.zero_le _, rfl, rfl⟩
  · rintro mm rg σ' ⟨i, ov, acc, rfl, hi, ho, he, hal, rfl, rfl⟩
    by_cases hlt : i < l.length
    · obtain ⟨x, hx⟩ : ∃ x, l[i]? = some x := ⟨_, List.getElem?_eq_getElem hlt⟩
      have hdr : l.drop i = x :: l.drop (i + 1) := by rw [List.drop_eq_getElem_cons hlt, (List.getElem?_eq_some_iff.1 hx).2]
      obtain ⟨k, hk⟩ : ∃ k, i + 1 = k := ⟨_, rfl⟩
      have w1 : IntKind.i64.wrap ((i : Int) + 1) = (k : Int) := by rw [IntWalk.i64_in] <;> omega
      obtain ⟨p, p1, _, ⟨q0, a1, a2⟩, ⟨q1, b1, b2⟩⟩ := hv.at hx (ρ := σ') fun _ _ => rfl
      have g1 := putM_len x.f0 acc
      simp [lk_cons, ↓l1, hlt, ↓p1, ↓a1, ↓a2, ↓b1, ↓b2]
      refine put_c σ' ho x.f0 (by omega) _ fun v1 hv1 => ?_
      simp [lk_cons, ↓p1, ↓b1, ↓b2]
      refine put_c σ' hv1 x.f1 (by omega) _ fun v2 hv2 => ?_
      have g2 := putM_len x.f1 (putM x.f0 acc)
      simp [lk_cons, w1]
      exact ⟨l.length - k, by omega, k, v2, _, rfl, by omega, hv2, by rw [he, hdr, hk]; rfl, by omega, rfl, rfl⟩
    · have hiN : i = l.length := by omega
      subst hiN
      rw [List.drop_length] at he
      simp [lk_cons, ↓l1]
      exact h _ (he ▸ ho)
def rset (x y : List S25) : List S25 := setM x y [] (endsM (x ++ y) [])
theorem rset_spec {x y : List S25} (hx : ∀ z ∈ x, 0 ≤ z.f0 ∧ 0 ≤ z.f1 ∧ z.f1 ≤ 18446744073709551615) (hy : ∀ z ∈ y, 0 ≤ z.f0 ∧ 0 ≤ z.f1) : GoodR (rset x y) ∧ (∀ n, InP (rset x y) n ↔ InP x n ∧ ¬ InP y n) ∧ (rset x y).length ≤ 2 * (x.length + y.length) ∧ (endsM (x ++ y) []).length ≤ 2 * (x.length + y.length) := by
  have hp : ∀ z ∈ x ++ y, 0 ≤ z.f0 ∧ 0 ≤ z.f1 := fun z hz => by
    rcases List.mem_append.1 hz with h | h
    · exact ⟨(hx z h).1, (hx z h).2.1⟩
    · exact hy z h
  obtain ⟨e1, e2, e3⟩ := ends_spec (x ++ y) [] hp trivial
  simp only [List.length_append, List.length_nil] at e3
  have mx : ∀ z ∈ x, z.f0 ∈ endsM (x ++ y) [] ∧ z.f1 ∈ endsM (x ++ y) [] := fun z hz => ⟨(e2 _).2 (.inr ⟨z, List.mem_append.2 (.inl hz), .inl rfl⟩), (e2 _).2 (.inr ⟨z, List.mem_append.2 (.inl hz), .inr rfl⟩)⟩
  have my : ∀ z ∈ y, z.f0 ∈ endsM (x ++ y) [] ∧ z.f1 ∈ endsM (x ++ y) [] := fun z hz => ⟨(e2 _).2 (.inr ⟨z, List.mem_append.2 (.inr hz), .inl rfl⟩), (e2 _).2 (.inr ⟨z, List.mem_append.2 (.inr hz), .inr rfl⟩)⟩
  have key : Can (-1) (setM x y [] (endsM (x ++ y) [])) ∧ (∀ n, InP (setM x y [] (endsM (x ++ y) [])) n ↔ InP x n ∧ ¬ InP y n) ∧ (setM x y [] (endsM (x ++ y) [])).length ≤ 2 * (x.length + y.length) := by
    cases he : endsM (x ++ y) [] with
    | nil =>
      rw [he] at mx
      have hx0 : x = [] := by
        cases x with
        | nil => rfl
        | cons z t => exact absurd (mx z List.mem_cons_self).1 List.not_mem_nil
      subst hx0
      exact ⟨trivial, fun n => by simp [setM, InP], by simp [setM]⟩
    | cons a t =>
      rw [he] at mx my e1 e3
      obtain ⟨r1, r2, r3⟩ := set_spec mx my t a [] e1.2 (by have := e1.1; omega) (fun m hm => by
        rcases List.mem_cons.1 hm with rfl | h
        · exact .inl (Int.le_refl _)
        · exact .inr h) trivial (fun z hz => absurd hz List.not_mem_nil) (fun n => by
        constructor
        · exact fun h => absurd h (in_nil n)
        · rintro ⟨h1, ⟨z, hz, h2, h3⟩, _⟩
          have hm := (mx z hz).1
          rcases List.mem_cons.1 hm with h | h
          · omega
          · have := inc_mem e1.2 _ h; omega)
      refine ⟨r1, r2, ?_⟩
      simp only [List.length_cons, List.length_nil] at e3 r3
      omega
  refine ⟨⟨key.1, fun n hn => ?_⟩, key.2.1, key.2.2, by omega⟩
  obtain ⟨z, hz, h1, h2⟩ := ((key.2.1 n).1 hn).1
  have := hx z hz
  omega
def SetJ (v w ev : AVal) (x y : List S25) (e : List Int) (σ0 : St) (mm : Nat) (rg : Regs) (σ' : St) : Prop := ∃ (i : Nat) (ov : AVal) (acc : List S25), mm = e.length - i ∧ i ≤ e.length ∧ Grow σ0 σ' ∧ Out σ0.next σ' ov acc ∧ acc.length ≤ i ∧ setM x y [] e = setM x y acc (e.drop i) ∧ rg = [(0, v), (1, w), (5, ev), (6, ov), (7, i64 i)]
theorem Out.len {lo : Nat} {σ : St} {v : AVal} {l : List S25} (h : Out lo σ v l) (ρ : St) : evalV ρ (.len 1 v) = some (i64 l.length, ρ) := by
  rcases h with ⟨rfl, rfl⟩ | ⟨o, rfl, _⟩ <;> simp
theorem rc_at {l : List S25} {i : Nat} {x : S25} (h : l[i]? = some x) : (rc l)[i * 2 + 1]? = some (u64 x.f1) := by
  have hg := rc_get h
  have e1 : (rc l)[i * 2 + 1]? = (((rc l).drop (i * 2)).take 2)[1]? := by simp
  rw [e1, hg]; rfl
theorem rc_last (m : List S25) (z : S25) (c : Int) : (rc (m ++ [z])).set (m.length * 2 + 1) (u64 c) = rc (m ++ [⟨z.f0, c⟩]) := by
  rw [rc_app, rc_app, ← rc_len m]
  rw [List.set_append_right _ _ (by omega)]
  congr 1
  simp [rc]
theorem set_step (x y acc : List S25) (a c : Int) (t : List Int) : setM x y acc (a :: c :: t) = setM x y (if keepB x y a = true then pushM acc a c else acc) (c :: t) := rfl
set_option maxHeartbeats 2000000 in
theorem rgset_c {σ : St} {v w : AVal} {x y : List S25} (hv : RgM σ v x) (hw : RgM σ w y) (hlx : x.length + y.length ≤ 1000) (hx : ∀ z ∈ x, 0 ≤ z.f0 ∧ 0 ≤ z.f1 ∧ z.f1 ≤ 18446744073709551615) (hy : ∀ z ∈ y, 0 ≤ z.f0 ∧ 0 ≤ z.f1) (Q : AVal → St → Prop) (h : ∀ v', RgI v' (rset x y) → Q v' σ) : ACall Tryd.prog 72 [v, w] σ Q := by
  refine ACall.freeze ?_
  refine ACall.of_compF hmx (fun a w => Tryd.call72 a w) Tryd.func72 cf72 (n := 2) (by decide) rfl ?_
  obtain ⟨_, _, _, hel⟩ := rset_spec hx hy
  obtain ⟨e, he⟩ : ∃ e, endsM (x ++ y) [] = e := ⟨_, rfl⟩
  rw [he] at hel
  rw [rset, he] at h
  have main : ∀ (σ1 : St) (ev : AVal), Grow σ σ1 → NI ev e → SetJ v w ev x y e σ e.length [(0, v), (1, w), (5, ev), (6, .nilsl), (7, i64 0)] σ1 := fun σ1 ev hg hev => ⟨0, .nilsl, [], rfl, Nat.zero_le _, hg, .inl ⟨rfl, rfl⟩, Nat.zero_le _, rfl, rfl⟩
  have sx : ∀ ρ : St, (∀ a, a < σ.next → ρ.mem.get a = σ.mem.get a) → srcL ρ 2 v = some (rc x, x.length) := fun ρ hρ => hv.src hρ
  have sy : ∀ ρ : St, (∀ a, a < σ.next → ρ.mem.get a = σ.mem.get a) → srcL ρ 2 w = some (rc y, y.length) := fun ρ hρ => hw.src hρ
  have hb1 : x.length * 16 ≤ 140737488355328 ∧ x.length ≤ 9223372036854775807 := by omega
  have hb2 : y.length * 16 ≤ 140737488355328 ∧ y.length ≤ 9223372036854775807 := by omega
  have hb3 : (x.length + y.length) * 16 ≤ 140737488355328 ∧ x.length + y.length ≤ 9223372036854775807 := by omega
  have s1 := sx ⟨σ.mem.set σ.next (.cells 2 []), σ.next + 1⟩ fun a ha => by simp [show ¬ a = σ.next by omega]
  have u1 : ¬ σ.next + 1 = σ.next + 1 + 1 := by omega
  have g0 : ∀ (b1 b2 : Blk), Grow σ ⟨(σ.mem.set σ.next b1).set σ.next b2, σ.next + 1⟩ := fun b1 b2 => ⟨by simp, fun a ha => by simp [show ¬ a = σ.next by omega]⟩
  have g1 : ∀ (b1 b2 : Blk), Grow σ ⟨(σ.mem.set σ.next b1).set (σ.next + 1) b2, σ.next + 1 + 1⟩ := fun b1 b2 => ⟨by simp; omega, fun a ha => by simp [show ¬ a = σ.next by omega, show ¬ a = σ.next + 1 by omega]⟩
  have hl2 : (x ++ y).length ≤ 10000 := by simp; omega
  rcases Nat.eq_zero_or_pos x.length with hx0 | hx0 <;> rcases Nat.eq_zero_or_pos y.length with hy0 | hy0
  case' inl.inl =>
    have hxn := List.length_eq_zero_iff.1 hx0
    have hyn := List.length_eq_zero_iff.1 hy0
    have s2 := sy ⟨(σ.mem.set σ.next (.cells 2 [])).set σ.next (.cells 2 (storeL [] 0 (rc x))), σ.next + 1⟩ fun a ha => by simp [show ¬ a = σ.next by omega]
    simp [ac72, rs72, lk_cons, fillL, repL, s1, hx0, s2, hy0, hyn]
    refine ends_c (l := x ++ y) (.inr ⟨σ.next, 0, 0, true, [], by rw [hxn, hyn]; rfl, by rw [hxn, hyn]; simp, by simp, by simp [hxn, hyn, rc, storeL], by rw [hxn, hyn]; simp, by rw [hxn, hyn]; simp [rc]⟩) hl2 _ fun ev hev => ?_
    rw [he] at hev
    simp [lk_cons]
    refine wp_loop _ _ (main _ ev ?_ hev) ?_
    focus exact ⟨by simp, fun a ha => by simp [show ¬ a = σ.next by omega]⟩
  case' inl.inr =>
    replace hy0 : ¬ y.length = 0 := by omega
    have hxn := List.length_eq_zero_iff.1 hx0
    have hyn : ¬ y = [] := fun e => hy0 (by rw [e]; rfl)
    have s2 := sy ⟨(σ.mem.set σ.next (.cells 2 [])).set σ.next (.cells 2 (storeL [] 0 (rc x))), σ.next + 1⟩ fun a ha => by simp [show ¬ a = σ.next by omega]
    simp [ac72, rs72, lk_cons, fillL, repL, s1, hx0, s2, hy0, hyn, hb2]
    refine ends_c (l := x ++ y) (.inr ⟨σ.next + 1, 0, y.length, false, rc y, by rw [hxn]; rfl, by rw [hxn]; simp, by simp, by simp, by rw [hxn]; simp [rc_len], by rw [hxn]; simp [List.take_of_length_le (show (rc y).length ≤ y.length * 2 by rw [rc_len]; omega)]⟩) hl2 _ fun ev hev => ?_
    rw [he] at hev
    simp [lk_cons]
    refine wp_loop _ _ (main _ ev ?_ hev) ?_
    focus exact ⟨by simp; omega, fun a ha => by simp [show ¬ a = σ.next by omega, show ¬ a = σ.next + 1 by omega]⟩
  case' inr.inl =>
    replace hx0 : ¬ x.length = 0 := by omega
    have hyn := List.length_eq_zero_iff.1 hy0
    have s2 := sy ⟨(σ.mem.set σ.next (.cells 2 [])).set (σ.next + 1) (.cells 2 (rc x)), σ.next + 1 + 1⟩ fun a ha => by simp [show ¬ a = σ.next by omega, show ¬ a = σ.next + 1 by omega]
    have k1 : x.length * 2 ≤ (rc x).length := by rw [rc_len]; omega
    simp [ac72, rs72, lk_cons, fillL, repL, s1, hx0, s2, hb1, hy0, k1]
    refine ends_c (l := x ++ y) (.inr ⟨σ.next + 1, 0, x.length, false, rc x, by simp [hyn], by simp [hyn], by simp, by simp [hyn, rc, storeL], by rw [hyn]; simp [rc_len], by rw [hyn]; simp [List.take_of_length_le (show (rc x).length ≤ x.length * 2 by rw [rc_len]; omega)]⟩) hl2 _ fun ev hev => ?_
    rw [he] at hev
    simp [lk_cons]
    refine wp_loop _ _ (main _ ev ?_ hev) ?_
    focus exact ⟨by simp; omega, fun a ha => by simp [show ¬ a = σ.next by omega, show ¬ a = σ.next + 1 by omega]⟩
  case' inr.inr =>
    replace hx0 : ¬ x.length = 0 := by omega
    replace hy0 : ¬ y.length = 0 := by omega
    have s2 := sy ⟨(σ.mem.set σ.next (.cells 2 [])).set (σ.next + 1) (.cells 2 (rc x)), σ.next + 1 + 1⟩ fun a ha => by simp [show ¬ a = σ.next by omega, show ¬ a = σ.next + 1 by omega]
    have k1 : x.length * 2 ≤ (rc x).length := by rw [rc_len]; omega
    have k2 : ¬ x.length + y.length ≤ x.length := by omega
    have k3 : ¬ y = [] := fun e => hy0 (by rw [e]; rfl)
    have k4 : (rc x).take (x.length * 2) = rc x := List.take_of_length_le (by rw [rc_len]; omega)
    simp [ac72, rs72, lk_cons, fillL, repL, s1, hx0, s2, hb1, hy0, k1, k2, k3, hb3, k4]
    refine ends_c (l := x ++ y) (.inr ⟨σ.next + 1 + 1, 0, x.length + y.length, false, rc x ++ rc y, by rw [List.length_append], by rw [List.length_append]; exact Nat.le_refl _, by simp, by simp, by rw [List.length_append, List.length_append, rc_len, rc_len]; omega, by rw [rc_app]; simp [List.take_of_length_le (show (rc x ++ rc y).length ≤ (x.length + y.length) * 2 by simp [rc_len]; omega)]⟩) hl2 _ fun ev hev => ?_
    rw [he] at hev
    simp [lk_cons]
    refine wp_loop _ _ (main _ ev ?_ hev) ?_
    focus exact ⟨by simp; omega, fun a ha => by simp [show ¬ a = σ.next by omega, show ¬ a = σ.next + 1 by omega, show ¬ a = σ.next + 1 + 1 by omega]⟩
  all_goals
    clear s2 s1 u1 g0 g1
    rintro mm rg σ' ⟨i, ov, acc, rfl, hi, hg, ho, hal, hse, rfl⟩
    have l1 := hev.len
    have l2 := ho.len
    obtain ⟨k, hk⟩ : ∃ k, i + 1 = k := ⟨_, rfl⟩
    have w1 : IntKind.i64.wrap ((i : Int) + 1) = (k : Int) := by rw [IntWalk.i64_in] <;> omega
    have hvr : RgM σ' v x := hv.frame hg.1 hg.2
    have hwr : RgM σ' w y := hw.frame hg.1 hg.2
    by_cases hlt : k < e.length
    · obtain ⟨a, ha⟩ : ∃ a, e[i]? = some a := ⟨_, List.getElem?_eq_getElem (by omega)⟩
      obtain ⟨c, hc⟩ : ∃ c, e[k]? = some c := ⟨_, List.getElem?_eq_getElem hlt⟩
      obtain ⟨p, p1, p2⟩ := hev.at ha σ'
      obtain ⟨q, q1, q2⟩ := hev.at hc σ'
      have hd1 : e.drop i = a :: e.drop k := by rw [List.drop_eq_getElem_cons (by omega), (List.getElem?_eq_some_iff.1 ha).2, hk]
      have hd2 : e.drop k = c :: e.drop (k + 1) := by rw [List.drop_eq_getElem_cons hlt, (List.getElem?_eq_some_iff.1 hc).2]
      rw [hd1, hd2, set_step, ← hd2] at hse
      have skip : keepB x y a = false → ∃ m', m' < e.length - i ∧ SetJ v w ev x y e σ m' [(0, v), (1, w), (5, ev), (6, ov), (7, i64 k)] σ' := fun hkb => by
        rw [hkb] at hse
        exact ⟨e.length - k, by omega, k, ov, acc, rfl, by omega, hg, ho, by omega, hse, rfl⟩
      simp [lk_cons, ↓l1, w1, hlt, ↓p1, ↓p2]
      refine rin_c hvr a (by omega) _ ?_
      cases hbx : inB x a with
      | false =>
        simp [lk_cons, w1]
        exact skip (by simp [keepB, hbx])
      | true =>
        simp [lk_cons, ↓p1, ↓p2]
        refine rin_c hwr a (by omega) _ ?_
        cases hby : inB y a with
        | true =>
          simp [lk_cons, w1]
          exact skip (by simp [keepB, hby])
        | false =>
          have hkb : keepB x y a = true := by simp [keepB, hbx, hby]
          rw [hkb, if_pos rfl] at hse
          rcases List.eq_nil_or_concat acc with rfl | ⟨m, z, rfl⟩
          · rcases ho with ⟨rfl, _⟩ | ⟨o, rfl, h0, _⟩
            · simp [lk_cons, ↓l1, w1, ↓p1, ↓p2, ↓q1, ↓q2, fillL, repL, srcL, storeL]
              exact ⟨e.length - k, by omega, k, _, [⟨a, c⟩], rfl, by omega, ⟨by have := hg.1; simp; omega, fun b hb => by have := hg.1; simp [show ¬ b = σ'.next by omega, show ¬ b = σ'.next + 1 by omega]; exact hg.2 b hb⟩, .inr ⟨σ'.next + 1, rfl, by simp, by have := hg.1; omega, by simp, by simp [rc]⟩, by simp; omega, by rw [hse, push_nil], rfl⟩
            · simp at h0
          · rw [List.concat_eq_append] at *
            rcases ho with ⟨_, h0⟩ | ⟨o, rfl, h0, h1, h2, h3⟩
            · simp at h0
            · have hzz : (m ++ [z])[m.length]? = some z := by simp
              have hz1 := rc_at hzz
              have hl1 : (m ++ [z]).length = m.length + 1 := by simp
              have w2 : IntKind.i64.wrap (((m ++ [z]).length : Int) - 1) = (m.length : Int) := by rw [IntWalk.i64_in] <;> omega
              have hg1 := hg.1
              have w3 : IntKind.i64.wrap (((m.length + 1 : Nat) : Int) - 1) = (m.length : Int) := by rw [IntWalk.i64_in] <;> omega
              rw [hl1] at l2 hal
              have w4 : (0 : Int) < ((m.length + 1 : Nat) : Int) := by omega
              have hlt3 : (m.length : Int) < ((m.length + 1 : Nat) : Int) := by omega
              have hrl : m.length * 2 + 1 < (rc (m ++ [z])).length := by rw [rc_len, hl1]; omega
              have hl3 : m.length < m.length + 1 := by omega
              have i2 := push_snoc m z a c
              have w5 : IntKind.i64.wrap (m.length : Int) = (m.length : Int) := by rw [IntWalk.i64_in] <;> omega
              obtain ⟨hz2, hz3⟩ := List.getElem?_eq_some_iff.1 hz1
              have w7 : m.length * 2 + 1 + 1 ≤ (rc (m ++ [z])).length := by rw [rc_len, hl1]; omega
              have w6 : (m.length : Int) < (m.length : Int) + 1 := by omega
              by_cases hza : z.f1 = a
              · rw [if_pos hza] at i2
                rw [i2] at hse
                have hlast := rc_last m z c
                simp [lk_cons, ↓l1, ↓l2, w1, w5, w6, ↓p1, ↓p2, ↓q1, ↓q2, fillL, repL, srcL, storeL, h3, hz1, hz3, hza, hl1, hlast, hrl, w7]
                exact ⟨e.length - k, by omega, k, _, m ++ [⟨z.f0, c⟩], rfl, by omega, ⟨hg1, fun b hb => by simp [show ¬ b = o by omega]; exact hg.2 b hb⟩, .inr ⟨o, by simp, by simp, h1, h2, by simp⟩, by simp; omega, hse, rfl⟩
              · rw [if_neg hza] at i2
                have kk1 : ¬ m.length + 1 + 1 ≤ m.length + 1 := by omega
                have kk2 : (m.length + 1) * 2 ≤ (rc (m ++ [z])).length := by rw [rc_len, hl1]; omega
                have kk3 : (m.length + 1 + 1) * 16 ≤ 140737488355328 ∧ m.length + 1 + 1 ≤ 9223372036854775807 := by omega
                have kk4 : (rc (m ++ [z])).take ((m.length + 1) * 2) = rc (m ++ [z]) := List.take_of_length_le (by rw [rc_len, hl1]; omega)
                have kk5 : m.length ≤ 9223372036854775805 := by omega
                have kk6 : ¬ o = σ'.next := by omega
                rw [i2] at hse
                simp [lk_cons, ↓l1, ↓l2, w1, w5, w6, ↓p1, ↓p2, ↓q1, ↓q2, fillL, repL, srcL, storeL, h3, hz1, hz3, hza, hl1, kk1, kk2, kk3, kk4, kk5, kk6, Ne.symm kk6]
                exact ⟨e.length - k, by omega, k, _, m ++ [z] ++ [⟨a, c⟩], rfl, by omega, ⟨by simp; omega, fun b hb => by simp [show ¬ b = σ'.next by omega, show ¬ b = σ'.next + 1 by omega, show ¬ b = o by omega]; exact hg.2 b hb⟩, .inr ⟨σ'.next + 1, by simp, by simp, by omega, by simp, by rw [rc_app (m ++ [z])]; simp [rc]⟩, by simp; omega, hse, rfl⟩
    · have hsd : setM x y acc (e.drop i) = acc := by
        cases hd : e.drop i with
        | nil => rfl
        | cons a t =>
          have : t = [] := List.eq_nil_of_length_eq_zero (by have := congrArg List.length hd; simp at this; omega)
          subst this; rfl
      rw [hsd] at hse
      obtain ⟨v', f1, f2⟩ := ho.frz (Nat.le_refl _)
      simp [lk_cons, ↓l1, w1, hlt]
      exact ⟨fun a ha => hg.2 a ha, v', f1, h v' (hse ▸ f2)⟩
end Go.Proofs.YticefdfhcahlfaaDoor.AM



namespace Go.Proofs.YticefdfhcahlfaaDoor.AM
set_option linter.unusedVariables false
set_option linter.unusedSimpArgs false
structure Ld where
  f0 : Int
  f1 : Bool
  f2 : Int
deriving DecidableEq
structure Hd where
  f0 : Int
  f1 : List S25
deriving DecidableEq
def RisingP (l : List Ld) : Prop := l.Pairwise fun x y => x.f0 < y.f0
def cmpM (a b : Int) : Int := if a < b then -1 else if a > b then 1 else 0
def ordM (al ae bl be : Int) : Int := if cmpM al bl = 0 then cmpM ae be else cmpM al bl
theorem ord_lt (a b c d : Int) : ordM a b c d < 0 ↔ a < c ∨ (a = c ∧ b < d) := by
  unfold ordM cmpM; (repeat' split) <;> omega
def ofM (L : Int) : List Hd → List S25
  | [] => []
  | x :: t => if x.f0 = L then x.f1 else ofM L t
def HOk : Int → List Hd → Prop
  | _, [] => True
  | b, x :: t => b < x.f0 ∧ GoodR x.f1 ∧ x.f1 ≠ [] ∧ HOk x.f0 t
theorem hok_mem : ∀ {l : List Hd} {b : Int}, HOk b l → ∀ x ∈ l, b < x.f0 ∧ GoodR x.f1 ∧ x.f1 ≠ []
  | [], _, _, _, h => absurd h List.not_mem_nil
  | y :: t, b, hc, x, h => by
    obtain ⟨h1, h2, h3, h4⟩ := hc
    rcases List.mem_cons.1 h with rfl | h
    · exact ⟨h1, h2, h3⟩
    · have := hok_mem h4 x h
      exact ⟨by omega, this.2⟩
theorem hok_snoc : ∀ {m : List Hd} {b : Int} {z : Hd}, HOk b m → (∀ w ∈ m, w.f0 < z.f0) → b < z.f0 → GoodR z.f1 → z.f1 ≠ [] → HOk b (m ++ [z])
  | [], _, _, _, _, h1, h2, h3 => ⟨h1, h2, h3, trivial⟩
  | x :: t, b, z, hc, hw, h1, h2, h3 => ⟨hc.1, hc.2.1, hc.2.2.1, hok_snoc hc.2.2.2 (fun w h => hw w (List.mem_cons_of_mem _ h)) (hw x List.mem_cons_self) h2 h3⟩
theorem of_snoc (L : Int) (z : Hd) : ∀ m : List Hd, (∀ w ∈ m, w.f0 < z.f0) → ofM L (m ++ [z]) = if z.f0 = L then z.f1 else ofM L m
  | [], _ => rfl
  | x :: t, h => by
    have hx := h x List.mem_cons_self
    show (if x.f0 = L then x.f1 else ofM L (t ++ [z])) = if z.f0 = L then z.f1 else (if x.f0 = L then x.f1 else ofM L t)
    rw [of_snoc L z t fun w hw => h w (List.mem_cons_of_mem _ hw)]
    by_cases h1 : x.f0 = L
    · rw [if_pos h1, if_pos h1, if_neg (by omega)]
    · rw [if_neg h1, if_neg h1]
def COk (pl pe : Int) (h : List Hd) : Prop := HOk (-1) h ∧ (∀ x ∈ h, x.f0 ≤ 18446744073709551615) ∧ ∀ L n, InP (ofM L h) n → pl < L ∨ (L = pl ∧ pe ≤ n)
end Go.Proofs.YticefdfhcahlfaaDoor.AM

namespace Go.Proofs.YticefdfhcahlfaaDoor.AM
set_option maxRecDepth 100000
set_option linter.unusedVariables false
set_option linter.unusedSimpArgs false
abbrev ps (a b : Int) : AVal := .agg [u64 a, u64 b]
theorem nan_c (a : Int) (σ : St) (Q : AVal → St → Prop) (h : Q (.bool false) σ) : ACall Tryd.prog 112 [u64 a] σ Q := by
  refine ACall.of_compF hmx (fun a w => Tryd.call112 a w) Tryd.func112 cf112 (n := 1) (by decide) rfl ?_
  simp [ac112, rs112, lk_cons]
  exact h
theorem cmpu_c (a b : Int) (σ : St) (Q : AVal → St → Prop) (h : Q (i64 (cmpM a b)) σ) : ACall Tryd.prog 108 [u64 a, u64 b] σ Q := by
  refine ACall.of_compF hmx (fun a w => Tryd.call108 a w) Tryd.func108 cf108 (n := 2) (by decide) rfl ?_
  simp [ac108, rs108, lk_cons]
  refine nan_c _ _ _ ?_
  simp [lk_cons]
  refine nan_c _ _ _ ?_
  simp [lk_cons]
  unfold cmpM at h
  by_cases h1 : a < b
  · rw [if_pos h1] at h
    simp [lk_cons, h1]
    exact h
  · rw [if_neg h1] at h
    by_cases h2 : a > b
    · rw [if_pos h2] at h
      simp [lk_cons, h1, h2]
      exact h
    · rw [if_neg h2] at h
      simp [lk_cons, h1, h2]
      exact h
def OrJ (n : Nat) (t : Bool) (a b : Int) (σ0 : St) (mm : Nat) (rg : Regs) (σ' : St) : Prop := ∃ i : Nat, mm = 2 - i ∧ i ≤ 2 ∧ (1 ≤ i → a = 0) ∧ (2 ≤ i → b = 0) ∧ σ' = σ0 ∧ rg = [(3, i64 0), (6, .sl n 0 2 2 t), (7, i64 2), (8, i64 i)]
theorem or_c (a b : Int) (n : Nat) (t : Bool) (σ : St) (hm : σ.mem.get n = some (.cells 1 [i64 a, i64 b])) (Q : AVal → St → Prop) (h : Q (i64 (if a = 0 then b else a)) σ) : ACall Tryd.prog 107 [.sl n 0 2 2 t] σ Q := by
  refine ACall.of_compF hmx (fun a w => Tryd.call107 a w) Tryd.func107 cf107 (n := 1) (by decide) rfl ?_
  simp [ac107, rs107, lk_cons]
  refine wp_loop (OrJ n t a b σ) 2 ?_ ?_
  · exact ⟨0, rfl, by omega, by omega, by omega, rfl, rfl⟩
  · rintro mm rg σ' ⟨i, rfl, hi, h1, h2, rfl, rfl⟩
    have w0 : IntKind.i64.wrap (0 + 1) = 1 := by rw [IntWalk.i64_in] <;> omega
    have w1 : IntKind.i64.wrap (1 + 1) = 2 := by rw [IntWalk.i64_in] <;> omega
    rcases (by omega : i = 0 ∨ i = 1 ∨ i = 2) with rfl | rfl | rfl
    · by_cases ha : a = 0
      · simp [lk_cons, hm, ha, w0]
        exact ⟨1, by omega, 1, by omega, by omega, fun _ => rfl, by omega, rfl, rfl⟩
      · rw [if_neg ha] at h
        simp [lk_cons, hm, ha]
        exact h
    · have ha := h1 (by omega)
      rw [if_pos ha] at h
      by_cases hb : b = 0
      · simp [lk_cons, hm, hb, w1]
        exact ⟨2, by omega, by omega, fun _ => ha, fun _ => rfl, rfl, rfl⟩
      · simp [lk_cons, hm, hb]
        exact h
    · have ha := h1 (by omega)
      have hb := h2 (by omega)
      rw [if_pos ha, hb] at h
      simp [lk_cons]
      exact h
theorem order_c (a b c d : Int) (σ : St) (Q : AVal → St → Prop) (h : Q (i64 (ordM a b c d)) σ) : ACall Tryd.prog 98 [ps a b, ps c d] σ Q := by
  refine ACall.scrub ?_
  refine ACall.of_compF hmx (fun a w => Tryd.call98 a w) Tryd.func98 cf98 (n := 2) (by decide) rfl ?_
  simp [ac98, rs98, lk_cons]
  refine cmpu_c _ _ _ _ ?_
  simp [lk_cons]
  refine cmpu_c _ _ _ _ ?_
  simp [lk_cons, fillL, storeL, repL]
  refine or_c (cmpM a c) (cmpM b d) _ _ _ (by simp) _ ?_
  simp [lk_cons]
  exact ⟨fun x hx => by simp [show ¬ x = σ.next by omega, show ¬ x = σ.next + 1 by omega, show ¬ x = σ.next + 1 + 1 by omega], h⟩
end Go.Proofs.YticefdfhcahlfaaDoor.AM

namespace Go.Proofs.YticefdfhcahlfaaDoor.AM
set_option maxRecDepth 100000
set_option linter.unusedVariables false
set_option linter.unusedSimpArgs false
def ldc : List Ld → List AVal
  | [] => []
  | x :: t => u64 x.f0 :: .bool x.f1 :: u64 x.f2 :: ldc t
theorem ldc_len : ∀ l : List Ld, (ldc l).length = l.length * 3
  | [] => rfl
  | x :: t => by simp [ldc, ldc_len t]; omega
end Go.Proofs.YticefdfhcahlfaaDoor.AM


namespace Go.Proofs.YticefdfhcahlfaaDoor.AM
set_option maxRecDepth 100000
set_option linter.unusedVariables false
set_option linter.unusedSimpArgs false
theorem Out.set {lo : Nat} {σ' : St} {v : AVal} {l : List S25} (h : Out lo σ' v l) (b : Blk) : Out lo ⟨σ'.mem.set σ'.next b, σ'.next + 1⟩ v l := by
  rcases h with h | ⟨o, h1, h2, h3, h4, h5⟩
  · exact .inl h
  · exact .inr ⟨o, h1, h2, h3, by show o < σ'.next + 1; omega, by show (σ'.mem.set σ'.next b).get o = _; rw [Mem.get_set_ne _ _ (by omega)]; exact h5⟩
theorem out_app {lo : Nat} {ρ : St} {ov : AVal} {acc : List S25} (ho : Out lo ρ ov acc) (hacc : acc.length ≤ 100000) {b : Nat} {x y : Int} (hb : ρ.mem.get b = some (.cells 2 [u64 x, u64 y])) (hlo : lo ≤ ρ.next) :
    ∃ w ρ', evalV ρ (.append 2 16 ov (.sl b 0 1 1 true)) = some (w, ρ') ∧ Out lo ρ' w (acc ++ [⟨x, y⟩]) ∧ ρ'.next = ρ.next + 1 ∧ ∀ a, a < lo → ρ'.mem.get a = ρ.mem.get a := by
  rcases ho with ⟨rfl, rfl⟩ | ⟨o, rfl, h2, h3, h4, h5⟩
  · refine ⟨.sl ρ.next 0 1 1 false, ⟨ρ.mem.set ρ.next (.cells 2 [u64 x, u64 y]), ρ.next + 1⟩, by simp [srcL, hb], .inr ⟨ρ.next, rfl, by simp, hlo, Nat.lt_succ_self _, by simp [rc]⟩, rfl, fun a ha => ?_⟩
    simp [show ¬ a = ρ.next by omega]
  · have k1 : ¬ acc.length + 1 ≤ acc.length := by omega
    have k2 : acc.length * 2 ≤ (rc acc).length := by rw [rc_len]; omega
    have k3 : (acc.length + 1) * 16 ≤ 140737488355328 ∧ acc.length ≤ 9223372036854775806 := by omega
    have k4 : (rc acc).take (acc.length * 2) = rc acc := List.take_of_length_le (by rw [rc_len]; omega)
    refine ⟨.sl ρ.next 0 (acc.length + 1) (acc.length + 1) false, ⟨(ρ.mem.del o).set ρ.next (.cells 2 (rc acc ++ [u64 x, u64 y])), ρ.next + 1⟩, by simp [srcL, hb, h5, k1, k2, k3, k4], .inr ⟨ρ.next, by simp, by simp, hlo, Nat.lt_succ_self _, by simp [rc_app, rc]⟩, rfl, fun a ha => ?_⟩
    simp [show ¬ a = ρ.next by omega, show ¬ a = o by omega]
end Go.Proofs.YticefdfhcahlfaaDoor.AM



namespace Go.Proofs.YticefdfhcahlfaaDoor.AM
set_option maxRecDepth 100000
set_option linter.unusedVariables false
set_option linter.unusedSimpArgs false
theorem RgI.upto {v : AVal} {l : List S25} (h : RgI v l) (lo : Nat) : v.upto lo = true := by
  rcases h with ⟨rfl, rfl⟩ | ⟨t, rfl⟩
  · rfl
  · simp [rc_upto]
theorem RgI.one {v : AVal} {l : List S25} (h : RgI v l) : v.one = true ∧ cellsOf v = [v] := by
  rcases h with ⟨rfl, rfl⟩ | ⟨t, rfl⟩ <;> simp
def HC : List AVal → List Hd → Prop
  | [], [] => True
  | a :: b :: cs, x :: xs => a = u64 x.f0 ∧ RgI b x.f1 ∧ HC cs xs
  | _, _ => False
theorem HC.get : ∀ {cs : List AVal} {xs : List Hd} {i : Nat} {x : Hd}, HC cs xs → xs[i]? = some x → ∃ r, RgI r x.f1 ∧ (cs.drop (i * 2)).take 2 = [u64 x.f0, r]
  | a :: b :: cs, y :: xs, 0, x, h, hx => by
    simp at hx; subst hx
    exact ⟨b, h.2.1, by simp [h.1]⟩
  | a :: b :: cs, y :: xs, i + 1, x, h, hx => by
    obtain ⟨r, h1, h2⟩ := h.2.2.get (i := i) (by simpa using hx)
    exact ⟨r, h1, by rw [show (i + 1) * 2 = i * 2 + 1 + 1 by omega]; simpa using h2⟩
  | [], [], _, _, _, hx => by simp at hx
  | [], _ :: _, _, _, h, _ => h.elim
  | [_], _, _, _, h, _ => by cases ‹List Hd› <;> exact h.elim
  | _ :: _ :: _, [], _, _, h, _ => h.elim
def HI (v : AVal) (h : List Hd) : Prop := v = .nilsl ∧ h = [] ∨ ∃ cs t, v = .isl cs h.length t ∧ HC cs h
theorem HI.len {v : AVal} {h : List Hd} (hh : HI v h) (ρ : St) : evalV ρ (.len 1 v) = some (i64 h.length, ρ) := by
  rcases hh with ⟨rfl, rfl⟩ | ⟨cs, t, rfl, _⟩ <;> simp
theorem HI.one {v : AVal} {h : List Hd} (hh : HI v h) : v.one = true ∧ cellsOf v = [v] := by
  rcases hh with ⟨rfl, rfl⟩ | ⟨cs, t, rfl, _⟩ <;> simp
theorem HI.at {v : AVal} {h : List Hd} (hh : HI v h) {i : Nat} {x : Hd} (hx : h[i]? = some x) (ρ : St) :
    ∃ p r, RgI r x.f1 ∧ evalV ρ (.idxAddr 2 v (i64 i)) = some (p, ρ) ∧ evalV ρ (.ldn 2 p) = some (.agg [u64 x.f0, r], ρ) ∧ (∃ q, evalV ρ (.fieldAddr 0 p) = some (q, ρ) ∧ evalV ρ (.ld1 q) = some (u64 x.f0, ρ)) ∧ ∃ q, evalV ρ (.fieldAddr 1 p) = some (q, ρ) ∧ evalV ρ (.ld1 q) = some (r, ρ) := by
  have hi := (List.getElem?_eq_some_iff.1 hx).1
  rcases hh with ⟨rfl, rfl⟩ | ⟨cs, t, rfl, hc⟩
  · simp at hx
  · obtain ⟨r, hr, e⟩ := hc.get hx
    have h1 := hr.one.1
    exact ⟨.iptr [u64 x.f0, r], r, hr, by simp [hi, e], by simp [h1], ⟨.iptr [u64 x.f0, r], by simp, by simp⟩, ⟨.iptr [r], by simp, by simp⟩⟩
abbrev cv (ml me : Int) (v : AVal) : AVal := .agg [u64 ml, u64 me, v]
end Go.Proofs.YticefdfhcahlfaaDoor.AM
