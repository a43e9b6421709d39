/- What the functions of this chapter give: their contracts over the machine. -/
import Derived.Test.YticefdfhcahlfaaDoorCtx121
import Derived.Test.YticefdfhcahlfaaDoorCt121
namespace Go.Proofs.YticefdfhcahlfaaDoor.AM
set_option maxRecDepth 100000
set_option linter.unusedVariables false
set_option linter.unusedSimpArgs false
def RgN (lo hi : Nat) (m : Mem) (v : AVal) (l : List S25) : Prop := RgI v l ∨ ∃ b c t, v = .sl b 0 l.length c t ∧ lo ≤ b ∧ b < hi ∧ m.get b = some (.cells 2 (rc l))
theorem RgN.mono {lo lo' hi hi' : Nat} {m m' : Mem} {v : AVal} {l : List S25} (h : RgN lo hi m v l) (h1 : lo' ≤ lo) (h2 : hi ≤ hi') (hm : ∀ a, lo ≤ a → a < hi → m'.get a = m.get a) : RgN lo' hi' m' v l := by
  rcases h with h | ⟨b, c, t, e, k1, k2, k3⟩
  · exact .inl h
  · exact .inr ⟨b, c, t, e, Nat.le_trans h1 k1, Nat.lt_of_lt_of_le k2 h2, (hm b k1 k2).trans k3⟩
theorem rc_frz0 (lo : Nat) (m : Mem) (l : List S25) : listM (frzD lo m 0) (rc l) = some (rc l) := by
  refine listM_id ?_
  induction l with
  | nil => intro x hx; simp [rc] at hx
  | cons y t ih =>
    intro x hx
    simp only [rc, List.mem_cons] at hx
    rcases hx with rfl | rfl | hx
    · simp [frzD]
    · simp [frzD]
    · exact ih x hx
theorem RgN.frz {lo lo' hi : Nat} {m : Mem} {v : AVal} {l : List S25} (h : RgN lo hi m v l) (hl : lo' ≤ lo) : ∃ v', frzD lo' m 1 v = some v' ∧ RgI v' l := by
  rcases h with h | ⟨b, c, t, rfl, k1, k2, k3⟩
  · refine ⟨v, ?_, h⟩
    have := h.upto lo'
    rcases h with ⟨rfl, rfl⟩ | ⟨t, rfl⟩
    · simp [frzD]
    · simp only [frzD, this, if_true]
  · refine ⟨.isl (rc l) l.length (t && decide (c = l.length)), ?_, .inr ⟨_, rfl⟩⟩
    rw [frzD_sl (Nat.le_trans hl k1) k3 (by rw [rc_len]; omega), List.drop_zero, List.take_of_length_le (by rw [rc_len]; omega), rc_frz0]
    rfl
def HCM (lo hi : Nat) (m : Mem) : List AVal → List Hd → Prop
  | [], [] => True
  | a :: b :: cs, x :: xs => a = u64 x.f0 ∧ RgN lo hi m b x.f1 ∧ HCM lo hi m cs xs
  | _, _ => False
theorem HCM.len {lo hi : Nat} {m : Mem} : ∀ {cs : List AVal} {xs : List Hd}, HCM lo hi m cs xs → cs.length = xs.length * 2
  | [], [], _ => rfl
  | a :: b :: cs, x :: xs, h => by simp [h.2.2.len]; omega
  | [], _ :: _, h => h.elim
  | [_], _, h => by cases ‹List Hd› <;> exact h.elim
  | _ :: _ :: _, [], h => h.elim
theorem HCM.app {lo hi : Nat} {m : Mem} : ∀ {cs ds : List AVal} {xs ys : List Hd}, HCM lo hi m cs xs → HCM lo hi m ds ys → HCM lo hi m (cs ++ ds) (xs ++ ys)
  | [], ds, [], ys, _, h => h
  | a :: b :: cs, ds, x :: xs, ys, h, k => ⟨h.1, h.2.1, h.2.2.app k⟩
  | [], _, _ :: _, _, h, _ => h.elim
  | [_], _, _, _, h, _ => by cases ‹List Hd› <;> exact h.elim
  | _ :: _ :: _, _, [], _, h, _ => h.elim
theorem HCM.mono {lo lo' hi hi' : Nat} {m m' : Mem} (h1 : lo' ≤ lo) (h2 : hi ≤ hi') (hm : ∀ a, lo ≤ a → a < hi → m'.get a = m.get a) : ∀ {cs : List AVal} {xs : List Hd}, HCM lo hi m cs xs → HCM lo' hi' m' cs xs
  | [], [], _ => trivial
  | a :: b :: cs, x :: xs, h => ⟨h.1, h.2.1.mono h1 h2 hm, HCM.mono h1 h2 hm h.2.2⟩
  | [], _ :: _, h => h.elim
  | [_], _, h => by cases ‹List Hd› <;> exact h.elim
  | _ :: _ :: _, [], h => h.elim
theorem HCM.frz {lo lo' hi : Nat} {m : Mem} (hl : lo' ≤ lo) : ∀ {cs : List AVal} {xs : List Hd}, HCM lo hi m cs xs → ∃ cs', listM (frzD lo' m 1) cs = some cs' ∧ HC cs' xs
  | [], [], _ => ⟨[], rfl, trivial⟩
  | a :: b :: cs, x :: xs, h => by
    obtain ⟨cs', h1, h2⟩ := HCM.frz hl h.2.2
    obtain ⟨b', h3, h4⟩ := h.2.1.frz hl
    refine ⟨u64 x.f0 :: b' :: cs', ?_, rfl, h4, h2⟩
    have e : frzD lo' m 1 (u64 x.f0) = some (u64 x.f0) := by simp [frzD]
    rw [listM_cons, h.1, e, listM_cons, h3, h1]
    rfl
  | [], _ :: _, h => h.elim
  | [_], _, h => by cases ‹List Hd› <;> exact h.elim
  | _ :: _ :: _, [], h => h.elim
def HOut (lo : Nat) (σ' : St) (v : AVal) (h : List Hd) : Prop := v = .nilsl ∧ h = [] ∨ ∃ o cs, v = .sl o 0 h.length h.length false ∧ 0 < h.length ∧ lo ≤ o ∧ o < σ'.next ∧ σ'.mem.get o = some (.cells 2 cs) ∧ HCM lo o σ'.mem cs h
theorem HOut.one {lo : Nat} {σ' : St} {v : AVal} {h : List Hd} (hh : HOut lo σ' v h) : v.one = true ∧ cellsOf v = [v] := by
  rcases hh with ⟨rfl, _⟩ | ⟨o, cs, rfl, _⟩ <;> exact ⟨rfl, rfl⟩
theorem HOut.frame {lo : Nat} {σ1 σ2 : St} {v : AVal} {h : List Hd} (hh : HOut lo σ1 v h) (hn : σ1.next ≤ σ2.next) (hm : ∀ a, lo ≤ a → a < σ1.next → σ2.mem.get a = σ1.mem.get a) : HOut lo σ2 v h := by
  rcases hh with hh | ⟨o, cs, h1, h2, h3, h4, h5, h6⟩
  · exact .inl hh
  · exact .inr ⟨o, cs, h1, h2, h3, by omega, (hm o h3 h4).trans h5, h6.mono (Nat.le_refl _) (Nat.le_refl _) fun a ha hb => hm a ha (by omega)⟩
theorem HOut.frz {lo lo' : Nat} {σ' : St} {v : AVal} {h : List Hd} (hh : HOut lo σ' v h) (hl : lo' ≤ lo) (ml me : Int) : ∃ hv, frzD lo' σ'.mem 3 (cv ml me v) = some (cv ml me hv) ∧ HI hv h := by
  have e : ∀ n : Int, frzD lo' σ'.mem 2 (u64 n) = some (u64 n) := fun n => by simp [frzD]
  have ag : ∀ vs : List AVal, frzD lo' σ'.mem 3 (.agg vs) = (listM (frzD lo' σ'.mem 2) vs).map .agg := fun vs => by simp only [frzD]
  rcases hh with ⟨rfl, rfl⟩ | ⟨o, cs, rfl, h2, h3, h4, h5, h6⟩
  · refine ⟨.nilsl, ?_, .inl ⟨rfl, rfl⟩⟩
    rw [ag, listM_cons, e, listM_cons, e, listM_cons]
    simp [frzD, AM.listM]
  · obtain ⟨cs', k1, k2⟩ := h6.frz hl
    have hlen := h6.len
    have es : frzD lo' σ'.mem 2 (.sl o 0 h.length h.length false) = some (.isl cs' h.length false) := by
      rw [frzD_sl (Nat.le_trans hl h3) h5 (by rw [hlen]; omega), List.drop_zero, List.take_of_length_le (by rw [hlen]; omega), k1]
      rfl
    refine ⟨.isl cs' h.length false, ?_, .inr ⟨cs', false, rfl, k2⟩⟩
    rw [ag, listM_cons, e, listM_cons, e, listM_cons, es]
    rfl
theorem hout_app {lo : Nat} {ρ0 ρ : St} {ov : AVal} {h : List Hd} (ho : HOut lo ρ0 ov h) (hn : ρ0.next ≤ ρ.next) (hm : ∀ a, lo ≤ a → a < ρ0.next → ρ.mem.get a = ρ0.mem.get a) (hlen : h.length ≤ 100000) {b : Nat} {L : Int} {rv : AVal} {r : List S25}
    (hb : ρ.mem.get b = some (.cells 2 [u64 L, rv])) (hr : RgN ρ0.next ρ.next ρ.mem rv r) (hlo : lo ≤ ρ0.next) :
    ∃ w ρ', evalV ρ (.append 2 32 ov (.sl b 0 1 1 true)) = some (w, ρ') ∧ HOut lo ρ' w (h ++ [⟨L, r⟩]) ∧ ρ'.next = ρ.next + 1 ∧ ∀ a, a < ρ.next → (a < lo ∨ ρ0.next ≤ a) → ρ'.mem.get a = ρ.mem.get a := by
  rcases ho with ⟨rfl, rfl⟩ | ⟨o, cs, rfl, h2, h3, h4, h5, h6⟩
  · refine ⟨.sl ρ.next 0 1 1 false, ⟨ρ.mem.set ρ.next (.cells 2 [u64 L, rv]), ρ.next + 1⟩, by simp [srcL, hb], .inr ⟨ρ.next, [u64 L, rv], rfl, by simp, by omega, Nat.lt_succ_self _, by simp, rfl, ?_, trivial⟩, rfl, fun a ha _ => ?_⟩
    · exact hr.mono hlo (Nat.le_refl _) fun a ha hb => by simp [show ¬ a = ρ.next by omega]
    · simp [show ¬ a = ρ.next by omega]
  · have hl := h6.len
    have k1 : ¬ h.length + 1 ≤ h.length := by omega
    have k2 : h.length * 2 ≤ cs.length := by omega
    have k3 : (h.length + 1) * 32 ≤ 140737488355328 ∧ h.length ≤ 9223372036854775806 := by omega
    have k4 : cs.take (h.length * 2) = cs := List.take_of_length_le (by omega)
    have hmo := (hm o h3 h4).trans h5
    refine ⟨.sl ρ.next 0 (h.length + 1) (h.length + 1) false, ⟨(ρ.mem.del o).set ρ.next (.cells 2 (cs ++ [u64 L, rv])), ρ.next + 1⟩, by simp [srcL, hb, hmo, k1, k2, k3, k4], .inr ⟨ρ.next, cs ++ [u64 L, rv], by simp, by simp, by omega, Nat.lt_succ_self _, by simp, HCM.app ?_ ⟨rfl, ?_, trivial⟩⟩, rfl, fun a ha hb => ?_⟩
    · exact h6.mono (Nat.le_refl _) (by omega) fun a ha hb => by simp [show ¬ a = ρ.next by omega, show ¬ a = o by omega]; exact hm a ha (by omega)
    · exact hr.mono hlo (Nat.le_refl _) fun a ha hb => by simp [show ¬ a = ρ.next by omega, show ¬ a = o by omega]
    · simp [show ¬ a = ρ.next by omega, show ¬ a = o by omega]
end Go.Proofs.YticefdfhcahlfaaDoor.AM



namespace Go.Proofs.YticefdfhcahlfaaDoor.AM
set_option maxRecDepth 100000
set_option linter.unusedVariables false
set_option linter.unusedSimpArgs false
theorem wp_cut {P : Program} {a b : ACode} {Q : Post} {r : Regs} {σ : St} (M : Regs → St → Prop) (h : a.wp P (fun e r σ => e = .normal ∧ M r σ) r σ) (hq : ∀ r σ, M r σ → b.wp P Q r σ) : ACode.wp P (.seq a b) Q r σ := by
  simp only [ACode.wp]
  refine wp_mono' h ?_
  rintro e r σ ⟨rfl, hm⟩
  exact hq r σ hm
def HW (h : List Hd) : Prop := h.length ≤ 1000 ∧ ∀ x ∈ h, GoodR x.f1 ∧ x.f1.length ≤ 900
end Go.Proofs.YticefdfhcahlfaaDoor.AM



namespace Go.Proofs.YticefdfhcahlfaaDoor.AM
set_option maxRecDepth 100000
set_option linter.unusedVariables false
set_option linter.unusedSimpArgs false
theorem wp_cutK {P : Program} {a : ACode} {Q : Post} {r : Regs} {σ : St} (M : Regs → St → Prop) (h : a.wp P (fun e r σ => e = .normal ∧ M r σ) r σ) (hq : ∀ r σ, M r σ → Q .normal r σ) : ACode.wp P a Q r σ := by
  refine wp_mono' h ?_
  rintro e r σ ⟨rfl, hm⟩
  exact hq r σ hm
end Go.Proofs.YticefdfhcahlfaaDoor.AM

namespace Go.Proofs.YticefdfhcahlfaaDoor.AM
set_option maxRecDepth 100000
set_option linter.unusedVariables false
set_option linter.unusedSimpArgs false
theorem place_c (a b : Int) (raw : Bool) (ha : 0 ≤ a ∧ a ≤ 18446744073709551615) (hb : 0 ≤ b ∧ b ≤ 18446744073709551615) (σ : St) (Q : AVal → St → Prop) (h : ∀ x y : Int, (0 ≤ x ∧ x ≤ 18446744073709551615) → (0 ≤ y ∧ y ≤ 18446744073709551615) → (raw = false → y < 8 ∧ x < 16) → Q (ps x y) σ) : ACall Tryd.prog 71 [ps a b, .bool raw] σ Q := by
  refine ACall.scrub ?_
  refine ACall.of_compF hmx (fun a w => Tryd.call71 a w) Tryd.func71 cf71 (n := 2) (by decide) rfl ?_
  cases raw with
  | true =>
    simp [ac71, rs71, lk_cons, storeL, fillL]
    exact ⟨fun a ha => by simp [show ¬ a = σ.next by omega, show ¬ a = σ.next + 1 by omega], h a b ha hb (by simp)⟩
  | false =>
    have w1 : Int.tmod a 16 = a % 16 := Int.tmod_eq_emod_of_nonneg ha.1
    have w2 : Int.tmod b 8 = b % 8 := Int.tmod_eq_emod_of_nonneg hb.1
    simp [ac71, rs71, lk_cons, storeL, fillL, w1, w2]
    exact ⟨fun a ha => by simp [show ¬ a = σ.next by omega, show ¬ a = σ.next + 1 by omega], h (a % 16) (b % 8) (by omega) (by omega) (by omega)⟩
def LOut (lo : Nat) (σ' : St) (v : AVal) (l : List Ld) : Prop := v = .nilsl ∧ l = [] ∨ ∃ o, v = .sl o 0 l.length l.length false ∧ 0 < l.length ∧ lo ≤ o ∧ o < σ'.next ∧ σ'.mem.get o = some (.cells 3 (ldc l))
theorem ldc_app : ∀ (l m : List Ld), ldc (l ++ m) = ldc l ++ ldc m
  | [], m => rfl
  | x :: t, m => by simp [ldc, ldc_app t m]
theorem LOut.len {lo : Nat} {σ' : St} {v : AVal} {l : List Ld} (h : LOut lo σ' v l) (ρ : St) : evalV ρ (.len 1 v) = some (i64 l.length, ρ) := by
  rcases h with ⟨rfl, rfl⟩ | ⟨o, rfl, _⟩ <;> simp
theorem lout_app {lo : Nat} {ρ0 ρ : St} {ov : AVal} {acc : List Ld} (ho : LOut lo ρ0 ov acc) (hm : ∀ a, lo ≤ a → a < ρ0.next → ρ.mem.get a = ρ0.mem.get a) (hn : ρ0.next ≤ ρ.next) (hacc : acc.length ≤ 100000) {b : Nat} (x : Ld) (hb : ρ.mem.get b = some (.cells 3 [u64 x.f0, .bool x.f1, u64 x.f2])) (hlo : lo ≤ ρ0.next) :
    ∃ w ρ', evalV ρ (.append 3 24 ov (.sl b 0 1 1 true)) = some (w, ρ') ∧ LOut lo ρ' w (acc ++ [x]) ∧ ρ'.next = ρ.next + 1 ∧ ∀ a, a < lo → ρ'.mem.get a = ρ.mem.get a := by
  rcases ho with ⟨rfl, rfl⟩ | ⟨o, rfl, h2, h3, h4, h5⟩
  · refine ⟨.sl ρ.next 0 1 1 false, ⟨ρ.mem.set ρ.next (.cells 3 [u64 x.f0, .bool x.f1, u64 x.f2]), ρ.next + 1⟩, by simp [srcL, hb], .inr ⟨ρ.next, rfl, by simp, by omega, Nat.lt_succ_self _, by simp [ldc]⟩, rfl, fun a ha => ?_⟩
    simp [show ¬ a = ρ.next by omega]
  · have k1 : ¬ acc.length + 1 ≤ acc.length := by omega
    have k2 : acc.length * 3 ≤ (ldc acc).length := by rw [ldc_len]; omega
    have k3 : (acc.length + 1) * 24 ≤ 140737488355328 ∧ acc.length ≤ 9223372036854775806 := by omega
    have k4 : (ldc acc).take (acc.length * 3) = ldc acc := List.take_of_length_le (by rw [ldc_len]; omega)
    have h6 := (hm o h3 h4).trans h5
    refine ⟨.sl ρ.next 0 (acc.length + 1) (acc.length + 1) false, ⟨(ρ.mem.del o).set ρ.next (.cells 3 (ldc acc ++ [u64 x.f0, .bool x.f1, u64 x.f2])), ρ.next + 1⟩, by simp [srcL, hb, h6, k1, k2, k3, k4], .inr ⟨ρ.next, by simp, by simp, by omega, Nat.lt_succ_self _, by simp [ldc_app, ldc]⟩, rfl, fun a ha => ?_⟩
    simp [show ¬ a = ρ.next by omega, show ¬ a = o by omega]
theorem BytesOf.at14 {d : AVal} {l : List UInt8} (h : BytesOf d l) {i : Nat} {x : UInt8} (hx : l[i]? = some x) (ρ : St) : ∃ p, evalV ρ (.idxAddr 1 d (i64 i)) = some (p, ρ) ∧ evalV ρ (.ld1 p) = some (.int .u8 (x.toNat : Int), ρ) := by
  have hi := (List.getElem?_eq_some_iff.1 hx).1
  rcases h with ⟨rfl, rfl⟩ | ⟨t, rfl⟩
  · simp at hx
  · have e : ((bytesV l).drop i).take 1 = [.int .u8 (x.toNat : Int)] := by
      have hl : i < (bytesV l).length := by rw [bytesV_len]; exact hi
      rw [List.drop_eq_getElem_cons hl]
      have : (bytesV l)[i] = .int .u8 (x.toNat : Int) := by
        have := (List.getElem?_eq_some_iff.1 hx).2
        simp [bytesV, this]
      simp [this]
    exact ⟨.iptr [.int .u8 (x.toNat : Int)], by simp [hi, e], by simp⟩
def Mk (t : List Ld) : Prop := t.length ≤ 13 ∧ RisingP t ∧ ∀ x ∈ t, (0 ≤ x.f0 ∧ x.f0 ≤ 52) ∧ 0 ≤ x.f2 ∧ x.f2 ≤ 5
end Go.Proofs.YticefdfhcahlfaaDoor.AM

namespace Go.Proofs.YticefdfhcahlfaaDoor.AM
set_option maxRecDepth 100000
set_option linter.unusedVariables false
set_option linter.unusedSimpArgs false
def Bnd (l : List S25) : Prop := ∀ z ∈ l, 0 ≤ z.f0 ∧ 0 ≤ z.f1 ∧ z.f1 ≤ 18446744073709551615
def HArg (h : List Hd) : Prop := h.length ≤ 9223372036854775806 ∧ ∀ x ∈ h, (0 ≤ x.f0 ∧ x.f0 ≤ 18446744073709551615) ∧ Bnd x.f1 ∧ x.f1.length ≤ 9223372036854775806
def RInv (ml me last : Int) (i : Nat) (out : List Hd) : Prop := COk ml me out ∧ out.length ≤ i ∧ out.length ≤ 7 ∧ (∀ x ∈ out, x.f1.length ≤ 14) ∧ (∀ x ∈ out, x.f0 ≤ last) ∧ 0 ≤ last
def RiJr (hv : AVal) (raw : Bool) (ml me : Int) (h : List Hd) (σ0 : St) (mm : Nat) (rg : Regs) (σ' : St) : Prop := ∃ (i : Nat) (last : Int) (ov : AVal) (acc : List Hd), mm = h.length - i ∧ i ≤ h.length ∧ i ≤ 7 ∧ RInv ml me last i acc ∧ (∀ a, a < σ0.next → σ'.mem.get a = σ0.mem.get a) ∧ σ0.next + 1 + 1 + 1 ≤ σ'.next ∧ HOut (σ0.next + 1 + 1 + 1) σ' ov acc ∧
  σ'.mem.get (σ0.next + 1) = some (.cells 3 [u64 0, u64 0, .nilsl]) ∧ σ'.mem.get (σ0.next + 1 + 1) = some (.cells 3 [u64 ml, u64 me, ov]) ∧
  rg = [(1, .bool raw), (4, .ptr (σ0.next + 1) 0), (5, .ptr (σ0.next + 1 + 1) 0), (6, u64 last), (19, hv), (20, i64 h.length), (21, i64 i)]
def RiJr2 (hv rv : AVal) (raw : Bool) (last : Int) (rs : List S25) (h : List Hd) (i : Nat) (n0 n8 : Nat) (σ1 : St) (mm : Nat) (rg : Regs) (σ' : St) : Prop := ∃ (j : Nat) (av : AVal) (acc : List S25), mm = rs.length - j ∧ j ≤ rs.length ∧ acc.length ≤ 6 ∧ acc.length ≤ j ∧ Bnd acc ∧ σ1.next ≤ σ'.next ∧ (∀ a, a < σ1.next → σ'.mem.get a = σ1.mem.get a) ∧ Out σ1.next σ' av acc ∧
  rg = [(1, .bool raw), (4, .ptr (n0 + 1) 0), (5, .ptr (n0 + 1 + 1) 0), (6, u64 last), (8, .ptr n8 0), (9, av), (19, hv), (20, i64 h.length), (21, i64 i), (57, rv), (58, i64 rs.length), (59, i64 j)]
theorem Out.rgm {lo : Nat} {σ' : St} {v : AVal} {l : List S25} (h : Out lo σ' v l) : RgM σ' v l := by
  rcases h with h | ⟨o, rfl, h1, h2, h3, h4⟩
  · exact .inl (.inl h)
  · exact .inr ⟨o, 0, l.length, false, rc l, rfl, Nat.le_refl _, h3, h4, by rw [rc_len]; omega, by rw [List.drop_zero, List.take_of_length_le (by rw [rc_len]; omega)]⟩
set_option maxHeartbeats 2000000 in
theorem right14_c {hv : AVal} {h : List Hd} (hh : HI hv h) (ha : HArg h) (a b : Int) (raw : Bool) (hab : (0 ≤ a ∧ a ≤ 18446744073709551615) ∧ 0 ≤ b ∧ b ≤ 18446744073709551615) (σ : St) (Q : AVal → St → Prop)
    (hq : ∀ ml me hv' h', (0 ≤ ml ∧ ml ≤ 18446744073709551615) → (0 ≤ me ∧ me ≤ 18446744073709551615) → HI hv' h' → COk ml me h' → h'.length ≤ 7 → (∀ x ∈ h', x.f1.length ≤ 14) → Q (cv ml me hv') σ) : ACall Tryd.prog 30 [cv a b hv, .bool raw] σ Q := by
  refine ACall.freezeD 3 ?_
  refine ACall.of_compF hmx (fun a w => Tryd.call30 a w) Tryd.func30 cf30 (n := 2) (by decide) rfl ?_
  have l1 := hh.len
  have h1 := hh.one.1
  have h2 := hh.one.2
  have u1 : ¬ σ.next = σ.next + 1 + 1 := by omega
  simp only [ac30, rs30]
  simp [lk_cons, h1, h2, fillL, storeL]
  refine place_c a b raw hab.1 hab.2 _ _ fun ml me hml hme _ => ?_
  simp [lk_cons, h1, h2, fillL, storeL, u1, ↓l1]
  refine wp_loop (RiJr hv raw ml me h σ) h.length ?_ ?_
  · exact ⟨0, 0, .nilsl, [], rfl, Nat.zero_le _, by omega, ⟨⟨trivial, by simp, fun L n hn => absurd hn (in_nil n)⟩, by simp, by simp, by simp, by simp, by omega⟩, fun k hk => by simp [show ¬ k = σ.next by omega, show ¬ k = σ.next + 1 by omega, show ¬ k = σ.next + 1 + 1 by omega], by simp, .inl ⟨rfl, rfl⟩, by simp, by simp, rfl⟩
  · rintro mm rg σ' ⟨i, last, ov, acc, rfl, hi, hi7, ⟨hC, hoi, ho7, hrl, hlast, hl0⟩, gold, hn, ho, m1, m2, rfl⟩
    have z1 : ¬ σ.next = σ'.next := by omega
    have z2 : ¬ σ.next + 1 = σ'.next := by omega
    have z3 : ¬ σ.next + 1 + 1 = σ'.next := by omega
    have o1 := ho.one.1
    have o2 := ho.one.2
    have olen : ∀ ρ : St, evalV ρ (.len 1 ov) = some (i64 acc.length, ρ) := fun ρ => by
      rcases ho with ⟨rfl, rfl⟩ | ⟨o, cs, rfl, _⟩ <;> simp
    have done : ∀ ρ : St, σ'.next ≤ ρ.next → (∀ k, k < σ'.next → ρ.mem.get k = σ'.mem.get k) → Old σ ⟨ρ.mem.set (σ.next + 1) (.cells 3 [u64 ml, u64 me, ov]), ρ.next⟩ ∧ ∃ v', frzD σ.next (ρ.mem.set (σ.next + 1) (.cells 3 [u64 ml, u64 me, ov])) 3 (.agg [u64 ml, u64 me, ov]) = some v' ∧ Q v' σ := by
      intro ρ hρ hm
      have e5 : HOut (σ.next + 1 + 1 + 1) ⟨ρ.mem.set (σ.next + 1) (.cells 3 [u64 ml, u64 me, ov]), ρ.next⟩ ov acc := ho.frame hρ fun k hk hb => by simp [show ¬ k = σ.next + 1 by omega]; exact hm k hb
      obtain ⟨hv', f1, f2⟩ := e5.frz (lo' := σ.next) (by omega) ml me
      refine ⟨fun k hk => ?_, cv ml me hv', f1, hq _ _ _ _ hml hme f2 hC ho7 hrl⟩
      simp [show ¬ k = σ.next + 1 by omega]
      rw [hm k (by omega)]
      exact gold k hk
    by_cases hlt : i < h.length
    · obtain ⟨x, hx⟩ : ∃ x, h[i]? = some x := ⟨_, List.getElem?_eq_getElem hlt⟩
      obtain ⟨k, hk⟩ : ∃ k, i + 1 = k := ⟨_, rfl⟩
      have w1 : IntKind.i64.wrap ((i : Int) + 1) = (k : Int) := by have := ha.1; rw [IntWalk.i64_in] <;> omega
      obtain ⟨p, xr, hri, p1, p2, _, _⟩ := hh.at hx σ'
      have r1 := hri.one.1
      have r2 := hri.one.2
      obtain ⟨hx0, hxb, hxl⟩ := ha.2 x (List.mem_of_getElem? hx)
      by_cases c6 : (6 : Int) < (i : Int)
      · simp [lk_cons, hlt, ↓p1, ↓p2, storeL, r1, r2, m1, m2, z1, z2, z3, c6, o1, o2]
        exact done ⟨(σ'.mem.set σ'.next (.cells 2 [.int .u64 0, .nilsl])).set σ'.next (.cells 2 [u64 x.f0, xr]), σ'.next + 1⟩ (by simp) fun k hk => by simp [show ¬ k = σ'.next by omega]
      · simp [lk_cons, hlt, ↓p1, ↓p2, storeL, r1, r2, m1, m2, z1, z2, z3, c6]
        have fin : ∀ (last' : Int) (w : AVal) (acc' : List Hd) (ρ' : St), RInv ml me last' k acc' → HOut (σ.next + 1 + 1 + 1) ρ' w acc' → σ'.next ≤ ρ'.next → (∀ a, a < σ.next + 1 + 1 → ρ'.mem.get a = σ'.mem.get a) → ρ'.mem.get (σ.next + 1 + 1) = some (.cells 3 [u64 ml, u64 me, w]) →
            ∃ mm, mm < h.length - i ∧ RiJr hv raw ml me h σ mm [(1, .bool raw), (4, .ptr (σ.next + 1) 0), (5, .ptr (σ.next + 1 + 1) 0), (6, u64 last'), (19, hv), (20, i64 h.length), (21, i64 k)] ρ' := by
          intro last' w acc' ρ' e0 e1 e2 e3 e6
          exact ⟨h.length - k, by omega, k, last', w, acc', rfl, by omega, by omega, e0, fun a ha => (e3 a (by omega)).trans (gold a ha), by omega, e1, (e3 _ (by omega)).trans m1, e6, rfl⟩
        have skip : ∀ s : St, s.next = σ'.next + 1 → (∀ k, k < σ'.next → s.mem.get k = σ'.mem.get k) → ∃ mm, mm < h.length - i ∧ RiJr hv raw ml me h σ mm [(1, .bool raw), (4, .ptr (σ.next + 1) 0), (5, .ptr (σ.next + 1 + 1) 0), (6, u64 last), (19, hv), (20, i64 h.length), (21, i64 k)] s := fun s hs hg =>
          fin last ov acc s ⟨hC, by omega, ho7, hrl, hlast, hl0⟩ (ho.frame (by omega) fun a _ hb => hg a hb) (by omega) (fun a ha => hg a (by omega)) ((hg _ (by omega)).trans m2)
        refine condK_mid (fun rg s => ∃ L : Int, (0 ≤ L ∧ L ≤ 18446744073709551615) ∧ s.next = σ'.next + 1 ∧ (∀ k, k < σ'.next → s.mem.get k = σ'.mem.get k) ∧ s.mem.get σ'.next = some (.cells 2 [u64 L, xr]) ∧ rg.lookup 1 = some (.bool raw) ∧ rg.lookup 4 = some (.ptr (σ.next + 1) 0) ∧ rg.lookup 5 = some (.ptr (σ.next + 1 + 1) 0) ∧ rg.lookup 6 = some (u64 last) ∧ rg.lookup 7 = some (i64 i) ∧ rg.lookup 8 = some (.ptr σ'.next 0) ∧ rg.lookup 19 = some hv ∧ rg.lookup 20 = some (i64 h.length) ∧ rg.lookup 21 = some (i64 i)) ?_ ?_
        · cases raw with
          | true =>
            simp [lk_cons]
            exact ⟨hx0, fun k hk => by simp [show ¬ k = σ'.next by omega]⟩
          | false =>
            simp [lk_cons, storeL]
            have e1 : Int.tmod x.f0 16 = x.f0 % 16 := Int.tmod_eq_emod_of_nonneg hx0.1
            exact ⟨by omega, fun k hk => by simp [show ¬ k = σ'.next by omega]⟩
        · rintro rg s ⟨L, hL, hsn, hsg, hs8, g1, g4, g5, g6, g7, g8, g19, g20, g21⟩
          have s2 := (hsg _ (show σ.next + 1 + 1 < σ'.next by omega)).trans m2
          have s1 := (hsg _ (show σ.next + 1 < σ'.next by omega)).trans m1
          simp only [seqK_normal, wp_seq]
          refine wp_cutK (fun rg' s' => s' = s ∧ rg' = [(1, .bool raw), (4, .ptr (σ.next + 1) 0), (5, .ptr (σ.next + 1 + 1) 0), (6, u64 last), (8, .ptr σ'.next 0), (19, hv), (20, i64 h.length), (21, i64 i), (55, .bool (decide (L < ml) || (decide (L ≤ last) && decide (0 < i) && decide (0 < acc.length))))]) ?_ ?_
          · by_cases c1 : L < ml
            · simp [lk_cons, g1, g4, g5, g6, g7, g8, g19, g20, g21, hs8, s2, c1]
            · by_cases c2 : L ≤ last
              · by_cases c3 : 0 < i
                · have c3' : (0 : Int) < (i : Int) := by omega
                  simp [lk_cons, g1, g4, g5, g6, g7, g8, g19, g20, g21, hs8, s2, c1, c2, c3, c3', o1, o2, ↓olen]
                · have c3' : ¬ (0 : Int) < (i : Int) := by omega
                  simp [lk_cons, g1, g4, g5, g6, g7, g8, g19, g20, g21, hs8, s2, c1, c2, c3, c3', o1, o2, ↓olen]
              · simp [lk_cons, g1, g4, g5, g6, g7, g8, g19, g20, g21, hs8, s2, c1, c2]
          · rintro _ _ ⟨rfl, rfl⟩
            cases hsk : (decide (L < ml) || (decide (L ≤ last) && decide (0 < i) && decide (0 < acc.length))) with
            | true =>
              simp [lk_cons, w1]
              exact skip _ hsn hsg
            | false =>
              rename_i s
              have hnot : ¬ L < ml ∧ (L ≤ last → 0 < i → acc = []) := by
                simp at hsk
                refine ⟨by omega, fun h1 h2 => hsk.2 h1 h2⟩
              simp [-wp_seq, lk_cons]
              refine wp_cut (fun rg s' => s' = s ∧ rg = [(1, .bool raw), (4, .ptr (σ.next + 1) 0), (5, .ptr (σ.next + 1 + 1) 0), (6, u64 last), (8, .ptr σ'.next 0), (9, .nilsl), (19, hv), (20, i64 h.length), (21, i64 i)]) (by simp [lk_cons]) ?_
              rintro _ s' ⟨hs', rfl⟩
              rw [hs']
              clear hs' s'
              refine wp_cut (fun rg s' => ∃ av ac, Out s.next s' av ac ∧ ac.length ≤ 6 ∧ Bnd ac ∧ s.next ≤ s'.next ∧ (∀ k, k < s.next → s'.mem.get k = s.mem.get k) ∧ rg.lookup 1 = some (.bool raw) ∧ rg.lookup 4 = some (.ptr (σ.next + 1) 0) ∧ rg.lookup 5 = some (.ptr (σ.next + 1 + 1) 0) ∧ rg.lookup 6 = some (u64 last) ∧ rg.lookup 8 = some (.ptr σ'.next 0) ∧ rg.lookup 9 = some av ∧ rg.lookup 19 = some hv ∧ rg.lookup 20 = some (i64 h.length) ∧ rg.lookup 21 = some (i64 i)) ?_ ?_
              · have xl := (hri.m σ).len
                simp [lk_cons, hs8, r1, r2, ↓xl]
                refine wp_loop (RiJr2 hv xr raw last x.f1 h i σ.next σ'.next s) x.f1.length ?_ ?_
                · exact ⟨0, .nilsl, [], rfl, Nat.zero_le _, by simp, by simp, fun z hz => absurd hz List.not_mem_nil, Nat.le_refl _, fun _ _ => rfl, .inl ⟨rfl, rfl⟩, rfl⟩
                · rintro m3 rg3 σ2 ⟨j, av, ac, rfl, hj, ha6, haj, hab2, hn2, hg2, hav, rfl⟩
                  by_cases hlt2 : j < x.f1.length
                  · obtain ⟨z, hz⟩ : ∃ z, x.f1[j]? = some z := ⟨_, List.getElem?_eq_getElem hlt2⟩
                    obtain ⟨j', hj'⟩ : ∃ k, j + 1 = k := ⟨_, rfl⟩
                    have w3 : IntKind.i64.wrap ((j : Int) + 1) = (j' : Int) := by rw [IntWalk.i64_in] <;> omega
                    obtain ⟨q, q1, q2, _, _⟩ := (hri.m σ2).at hz (ρ := σ2) fun _ _ => rfl
                    have hzb := hxb z (List.mem_of_getElem? hz)
                    have e8 : Int.tmod z.f0 8 = z.f0 % 8 := Int.tmod_eq_emod_of_nonneg hzb.1
                    have e9 : Int.tmod z.f1 9 = z.f1 % 9 := Int.tmod_eq_emod_of_nonneg hzb.2.1
                    have fin2 : ∀ (w : AVal) (ac' : List S25) (ρ' : St), Out s.next ρ' w ac' → σ2.next ≤ ρ'.next → (∀ k, k < s.next → ρ'.mem.get k = σ2.mem.get k) → ac'.length ≤ 6 → ac'.length ≤ j' → Bnd ac' →
                        ∃ mm, mm < x.f1.length - j ∧ RiJr2 hv xr raw last x.f1 h i σ.next σ'.next s mm [(1, .bool raw), (4, .ptr (σ.next + 1) 0), (5, .ptr (σ.next + 1 + 1) 0), (6, u64 last), (8, .ptr σ'.next 0), (9, w), (19, hv), (20, i64 h.length), (21, i64 i), (57, xr), (58, i64 x.f1.length), (59, i64 j')] ρ' := by
                      intro w ac' ρ' e1 e2 e3 e4 e5 e6
                      exact ⟨x.f1.length - j', by omega, j', w, ac', rfl, by omega, e4, e5, e6, by omega, fun k hk => (e3 k hk).trans (hg2 k hk), e1, rfl⟩
                    by_cases c7 : (j : Int) < 6
                    · have app : ∀ (y : S25) (M : Mem), (0 ≤ y.f0 ∧ 0 ≤ y.f1 ∧ y.f1 ≤ 18446744073709551615) → (∀ k, k < σ2.next → M.get k = σ2.mem.get k) → ∃ w ρ', evalV ⟨M.set (σ2.next + 1) (.cells 2 [u64 y.f0, u64 y.f1]), σ2.next + 1 + 1⟩ (.append 2 16 av (.sl (σ2.next + 1) 0 1 1 true)) = some (w, ρ') ∧ ∃ mm, mm < x.f1.length - j ∧ RiJr2 hv xr raw last x.f1 h i σ.next σ'.next s mm [(1, .bool raw), (4, .ptr (σ.next + 1) 0), (5, .ptr (σ.next + 1 + 1) 0), (6, u64 last), (8, .ptr σ'.next 0), (9, w), (19, hv), (20, i64 h.length), (21, i64 i), (57, xr), (58, i64 x.f1.length), (59, i64 j')] ρ' := by
                        intro y M hy hM
                        have hav' : Out s.next ⟨M.set (σ2.next + 1) (.cells 2 [u64 y.f0, u64 y.f1]), σ2.next + 1 + 1⟩ av ac := by
                          rcases hav with hav | ⟨o, k1, k2, k3, k4, k5⟩
                          · exact .inl hav
                          · exact .inr ⟨o, k1, k2, k3, by show o < σ2.next + 1 + 1; omega, by show (M.set _ _).get o = _; rw [Mem.get_set_ne _ _ (by omega), hM o k4]; exact k5⟩
                        obtain ⟨w, ρ', f1, f2, f3, f4⟩ := out_app (b := σ2.next + 1) (x := y.f0) (y := y.f1) hav' (by omega) (by simp) (by show s.next ≤ σ2.next + 1 + 1; omega)
                        refine ⟨w, ρ', f1, fin2 w _ ρ' f2 (by rw [f3]; simp; omega) (fun k hk => ?_) (by simp; omega) (by simp; omega) fun t ht => ?_⟩
                        · rw [f4 k hk]
                          simp [show ¬ k = σ2.next + 1 by omega]
                          exact hM k (by omega)
                        · rcases List.mem_append.1 ht with ht | ht
                          · exact hab2 t ht
                          · rw [List.mem_singleton.1 ht]; exact hy
                      cases raw with
                      | true =>
                        obtain ⟨w, ρ', f1, f2⟩ := app z ((σ2.mem.set σ2.next (.cells 2 [.int .u64 0, .int .u64 0])).set σ2.next (.cells 2 [u64 z.f0, u64 z.f1])) hzb fun k hk => by simp [show ¬ k = σ2.next by omega]
                        simp [lk_cons, hlt2, ↓q1, ↓q2, storeL, c7, fillL, repL, ↓f1, w3]
                        exact f2
                      | false =>
                        obtain ⟨w, ρ', f1, f2⟩ := app ⟨z.f0 % 8, z.f1 % 9⟩ (((σ2.mem.set σ2.next (.cells 2 [.int .u64 0, .int .u64 0])).set σ2.next (.cells 2 [u64 z.f0, u64 z.f1])).set σ2.next (.cells 2 [u64 (z.f0 % 8), u64 (z.f1 % 9)])) (by simp only; omega) fun k hk => by simp [show ¬ k = σ2.next by omega]
                        simp [lk_cons, hlt2, ↓q1, ↓q2, storeL, c7, fillL, repL, e8, e9, ↓f1, w3]
                        exact f2
                    · have keep : ∀ M : Mem, (∀ k, k < σ2.next → M.get k = σ2.mem.get k) → ∃ mm, mm < x.f1.length - j ∧ RiJr2 hv xr raw last x.f1 h i σ.next σ'.next s mm [(1, .bool raw), (4, .ptr (σ.next + 1) 0), (5, .ptr (σ.next + 1 + 1) 0), (6, u64 last), (8, .ptr σ'.next 0), (9, av), (19, hv), (20, i64 h.length), (21, i64 i), (57, xr), (58, i64 x.f1.length), (59, i64 j')] ⟨M, σ2.next + 1⟩ := fun M hM =>
                        fin2 av ac ⟨M, σ2.next + 1⟩ (by
                          rcases hav with hav | ⟨o, k1, k2, k3, k4, k5⟩
                          · exact .inl hav
                          · exact .inr ⟨o, k1, k2, k3, by show o < σ2.next + 1; omega, (hM o k4).trans k5⟩) (by simp) (fun k hk => hM k (by omega)) ha6 (by omega) hab2
                      cases raw with
                      | true =>
                        simp [lk_cons, hlt2, ↓q1, ↓q2, storeL, c7, fillL, repL, w3]
                        exact keep _ fun k hk => by simp [show ¬ k = σ2.next by omega]
                      | false =>
                        simp [lk_cons, hlt2, ↓q1, ↓q2, storeL, c7, fillL, repL, w3]
                        exact keep _ fun k hk => by simp [show ¬ k = σ2.next by omega]
                  · have : j = x.f1.length := by omega
                    subst this
                    simp [lk_cons]
                    exact ⟨av, ac, hav, ha6, hab2, hn2, hg2, rfl⟩
              · rintro rg2 s3 ⟨av, ac, hav, ha6, hab2, hn3, hg3, t1, t4, t5, t6, t8, t9, t19, t20, t21⟩
                have n8 := (hg3 _ (show σ'.next < s.next by omega)).trans hs8
                have n2 := (hg3 _ (show σ.next + 1 + 1 < s.next by omega)).trans s2
                have pos : ∀ x ∈ acc, x.f0 < L := fun y hy => by
                  have := hlast y hy
                  by_cases c2 : L ≤ last
                  · have h0 := hnot.2 c2 (by
                      have := List.length_pos_of_mem hy
                      omega)
                    rw [h0] at hy; cases hy
                  · omega
                have y2 : ∀ k : Nat, k < σ'.next → s3.mem.get k = σ'.mem.get k := fun k hk => (hg3 k (by omega)).trans (hsg k hk)
                -- behind the document's Set
                have after : ∀ (y : List S25) (bn : Nat) (r : List S25), r = rset ac y → y.length ≤ 1 → (∀ z ∈ y, 0 ≤ z.f0 ∧ 0 ≤ z.f1) → (∀ n, InP r n → L = ml → me ≤ n) → r ≠ [] → COk ml me (acc ++ [⟨L, r⟩]) ∧ r.length ≤ 14 := by
                  intro y bn r hr hy1 hy2 hin hne
                  obtain ⟨e1, e2, e3, _⟩ := rset_spec hab2 hy2
                  rw [← hr] at e1 e2 e3
                  refine ⟨⟨hok_snoc hC.1 pos (by show -1 < L; omega) e1 hne, fun t ht => ?_, fun K n hK => ?_⟩, by omega⟩
                  · rcases List.mem_append.1 ht with ht | ht
                    · exact hC.2.1 t ht
                    · rw [List.mem_singleton.1 ht]; exact hL.2
                  · rw [of_snoc K ⟨L, r⟩ acc pos] at hK
                    by_cases hKL : L = K
                    · rw [if_pos hKL] at hK
                      by_cases hm2 : L = ml
                      · exact .inr ⟨by omega, hin n hK hm2⟩
                      · exact .inl (by omega)
                    · rw [if_neg hKL] at hK
                      exact hC.2.2 K n hK
                have last3 : ∀ (y : List S25) (r : List S25) (vv : AVal) (ρ0 : St), r = rset ac y → y.length ≤ 1 → (∀ z ∈ y, 0 ≤ z.f0 ∧ 0 ≤ z.f1) → (∀ n, InP r n → L = ml → me ≤ n) → r ≠ [] → RgI vv r → σ'.next ≤ ρ0.next → (∀ k, k < σ'.next → ρ0.mem.get k = σ'.mem.get k) →
                    ∃ w ρ', evalV ⟨ρ0.mem.set ρ0.next (.cells 2 [u64 L, vv]), ρ0.next + 1⟩ (.append 2 32 ov (.sl ρ0.next 0 1 1 true)) = some (w, ρ') ∧ w.one = true ∧ cellsOf w = [w] ∧ ρ'.mem.get (σ.next + 1 + 1) = some (.cells 3 [u64 ml, u64 me, ov]) ∧ (∀ k, k < σ'.next → (k < σ.next + 1 + 1 + 1 ∨ σ'.next ≤ k) → ρ'.mem.get k = σ'.mem.get k) ∧ (σ'.next < ρ0.next → ρ'.mem.get σ'.next = ρ0.mem.get σ'.next) ∧
                    ∃ mm, mm < h.length - i ∧ RiJr hv raw ml me h σ mm [(1, .bool raw), (4, .ptr (σ.next + 1) 0), (5, .ptr (σ.next + 1 + 1) 0), (6, u64 L), (19, hv), (20, i64 h.length), (21, i64 k)] ⟨ρ'.mem.set (σ.next + 1 + 1) (.cells 3 [u64 ml, u64 me, w]), ρ'.next⟩ := by
                  intro y r vv ρ0 hr hy1 hy2 hin hne hvv hρ hρm
                  obtain ⟨hco, hr14⟩ := after y 0 r hr hy1 hy2 hin hne
                  obtain ⟨w, ρ', f1, f2, f3, f4⟩ := hout_app (b := ρ0.next) (L := L) (rv := vv) (r := r) (ρ0 := σ') (ρ := ⟨ρ0.mem.set ρ0.next (.cells 2 [u64 L, vv]), ρ0.next + 1⟩) ho (by show σ'.next ≤ ρ0.next + 1; omega) (fun k _ hk => by simp [show ¬ k = ρ0.next by omega]; exact hρm k hk) (by omega) (by simp) (.inl hvv) hn
                  have f5 : ∀ k, k < σ.next + 1 + 1 + 1 → ρ'.mem.get k = σ'.mem.get k := fun k hk => by
                    rw [f4 k (by show k < ρ0.next + 1; omega) (.inl hk)]
                    simp [show ¬ k = ρ0.next by omega]
                    exact hρm k (by omega)
                  refine ⟨w, ρ', f1, f2.one.1, f2.one.2, (f5 _ (by omega)).trans m2, fun k _ hk => ?_, fun hlt3 => ?_, ?_⟩
                  · rcases hk with hk | hk
                    · exact f5 k hk
                    · omega
                  · rw [f4 _ (by show σ'.next < ρ0.next + 1; omega) (.inr (Nat.le_refl _))]
                    simp [show ¬ σ'.next = ρ0.next by omega]
                  · refine fin L w (acc ++ [⟨L, r⟩]) _ ⟨hco, by simp; omega, by simp; omega, fun t ht => ?_, fun t ht => ?_, by omega⟩ (f2.frame (σ2 := ⟨ρ'.mem.set (σ.next + 1 + 1) (.cells 3 [u64 ml, u64 me, w]), ρ'.next⟩) (Nat.le_refl _) fun k hk _ => by simp [show ¬ k = σ.next + 1 + 1 by omega]) (by show σ'.next ≤ ρ'.next; rw [f3]; show _ ≤ ρ0.next + 1 + 1; omega) (fun k hk => by simp [show ¬ k = σ.next + 1 + 1 by omega]; exact f5 k (by omega)) (by simp)
                    · rcases List.mem_append.1 ht with ht | ht
                      · exact hrl t ht
                      · rw [List.mem_singleton.1 ht]; exact hr14
                    · rcases List.mem_append.1 ht with ht | ht
                      · have := pos t ht; omega
                      · rw [List.mem_singleton.1 ht]; exact Int.le_refl _
                have x1 : ¬ σ'.next = s3.next := by omega
                have x2 : ¬ σ.next + 1 + 1 = s3.next := by omega
                by_cases cL : ml < L
                · have hy2 : ∀ z ∈ ([] : List S25), 0 ≤ z.f0 ∧ 0 ≤ z.f1 := fun z hz => absurd hz List.not_mem_nil
                  simp [lk_cons, t1, t4, t5, t6, t8, t9, t19, t20, t21, n8, n2, fillL, storeL, repL, cL, x1, x2]
                  refine rgset_c (y := []) (hav.set (.cells 2 [u64 0, u64 me])).rgm (.inl (.inl ⟨rfl, rfl⟩)) (by simp; omega) hab2 hy2 _ fun sv hsv => ?_
                  have sl := (hsv.m σ).len
                  have v1 := hsv.one.1
                  have v2 := hsv.one.2
                  obtain ⟨r, hr⟩ : ∃ r, r = rset ac [] := ⟨_, rfl⟩
                  rw [← hr] at hsv sl
                  by_cases hr0 : r = []
                  · have c0 : ¬ 0 < r.length := by rw [hr0]; simp
                    simp [lk_cons, ↓sl, c0, w1]
                    exact fin last ov acc ⟨s3.mem.set s3.next (.cells 2 [u64 0, u64 me]), s3.next + 1⟩ ⟨hC, by omega, ho7, hrl, hlast, hl0⟩ (ho.frame (by show σ'.next ≤ s3.next + 1; omega) fun a _ hb => by simp [show ¬ a = s3.next by omega]; exact y2 a hb) (by show σ'.next ≤ s3.next + 1; omega) (fun a ha => by simp [show ¬ a = s3.next by omega]; exact y2 a (by omega)) (by simp [x2]; exact n2)
                  · have c0 : 0 < r.length := List.length_pos_iff.2 hr0
                    obtain ⟨w, ρ', f1, g1', g2', f2, f3, f4, f5⟩ := last3 [] r sv ⟨s3.mem.set s3.next (.cells 2 [u64 0, u64 me]), s3.next + 1⟩ hr (by simp) hy2 (fun n _ e => by omega) hr0 hsv (by show σ'.next ≤ s3.next + 1; omega) (fun k hk => by simp [show ¬ k = s3.next by omega]; exact y2 k hk)
                    have b8 : ρ'.mem.get σ'.next = some (.cells 2 [u64 L, xr]) := by
                      rw [f4 (by show σ'.next < s3.next + 1; omega)]
                      simp [x1]; exact n8
                    simp [lk_cons, ↓sl, c0, w1, x1, x2, n8, n2, v1, v2, fillL, storeL, repL, ↓f1, f2, g1', g2', b8, show ¬ σ'.next = σ.next + 1 + 1 by omega, show ¬ σ'.next = s3.next + 1 by omega]
                    exact f5
                · have hy2 : ∀ z ∈ ([⟨0, me⟩] : List S25), 0 ≤ z.f0 ∧ 0 ≤ z.f1 := fun z hz => by rw [List.mem_singleton.1 hz]; exact ⟨Int.le_refl _, hme.1⟩
                  simp [lk_cons, t1, t4, t5, t6, t8, t9, t19, t20, t21, n8, n2, fillL, storeL, repL, cL, x1, x2]
                  refine rgset_c (y := [⟨0, me⟩]) (hav.set (.cells 2 [u64 0, u64 me])).rgm (.inr ⟨s3.next, 0, 1, true, [u64 0, u64 me], rfl, by simp, by simp, by simp, by simp, by simp [rc]⟩) (by simp; omega) hab2 hy2 _ fun sv hsv => ?_
                  have sl := (hsv.m σ).len
                  have v1 := hsv.one.1
                  have v2 := hsv.one.2
                  obtain ⟨r, hr⟩ : ∃ r, r = rset ac [⟨0, me⟩] := ⟨_, rfl⟩
                  rw [← hr] at hsv sl
                  by_cases hr0 : r = []
                  · have c0 : ¬ 0 < r.length := by rw [hr0]; simp
                    simp [lk_cons, ↓sl, c0, w1]
                    exact fin last ov acc ⟨s3.mem.set s3.next (.cells 2 [u64 0, u64 me]), s3.next + 1⟩ ⟨hC, by omega, ho7, hrl, hlast, hl0⟩ (ho.frame (by show σ'.next ≤ s3.next + 1; omega) fun a _ hb => by simp [show ¬ a = s3.next by omega]; exact y2 a hb) (by show σ'.next ≤ s3.next + 1; omega) (fun a ha => by simp [show ¬ a = s3.next by omega]; exact y2 a (by omega)) (by simp [x2]; exact n2)
                  · have c0 : 0 < r.length := List.length_pos_iff.2 hr0
                    obtain ⟨w, ρ', f1, g1', g2', f2, f3, f4, f5⟩ := last3 [⟨0, me⟩] r sv ⟨s3.mem.set s3.next (.cells 2 [u64 0, u64 me]), s3.next + 1⟩ hr (by simp) hy2 (fun n hn e => by
                      obtain ⟨k1, k2, _, _⟩ := rset_spec hab2 hy2
                      rw [← hr] at k1 k2
                      have h3 := ((k2 n).1 hn).2
                      have h4 := can_in k1.1 hn
                      have h5 : ¬ (0 ≤ n ∧ n < me) := fun h' => h3 ⟨⟨0, me⟩, List.mem_singleton.2 rfl, h'⟩
                      omega) hr0 hsv (by show σ'.next ≤ s3.next + 1; omega) (fun k hk => by simp [show ¬ k = s3.next by omega]; exact y2 k hk)
                    have b8 : ρ'.mem.get σ'.next = some (.cells 2 [u64 L, xr]) := by
                      rw [f4 (by show σ'.next < s3.next + 1; omega)]
                      simp [x1]; exact n8
                    simp [lk_cons, ↓sl, c0, w1, x1, x2, n8, n2, v1, v2, fillL, storeL, repL, ↓f1, f2, g1', g2', b8, show ¬ σ'.next = σ.next + 1 + 1 by omega, show ¬ σ'.next = s3.next + 1 by omega]
                    exact f5
    · have : i = h.length := by omega
      subst this
      simp [lk_cons, m1, m2, z1, z2, z3, storeL, o1, o2]
      exact done σ' (Nat.le_refl _) fun _ _ => rfl
end Go.Proofs.YticefdfhcahlfaaDoor.AM


namespace Go.Proofs.YticefdfhcahlfaaDoor.AM
open Go.RowKit
set_option maxRecDepth 100000
set_option linter.unusedVariables false
set_option linter.unusedSimpArgs false
def RgW (σ : St) (v : AVal) (l : List S25) : Prop := RgI v l ∨ ∃ a o c t vals, v = .sl a o l.length c t ∧ a < σ.next ∧ σ.mem.get a = some (.cells 2 vals) ∧ o + l.length * 2 ≤ vals.length ∧ (vals.drop o).take (l.length * 2) = rc l
theorem RgI.w {v : AVal} {l : List S25} (h : RgI v l) (σ : St) : RgW σ v l := .inl h
theorem RgN.w {lo hi : Nat} {σ : St} {v : AVal} {l : List S25} (h : RgN lo hi σ.mem v l) (hh : hi ≤ σ.next) : RgW σ v l := by
  rcases h with h | ⟨b, c, t, h1, h2, h3, h4⟩
  · exact .inl h
  · refine .inr ⟨b, 0, c, t, rc l, h1, by omega, h4, by rw [rc_len]; omega, ?_⟩
    rw [List.drop_zero, List.take_of_length_le (by rw [rc_len]; exact Nat.le_refl _)]
theorem RgW.len {σ : St} {v : AVal} {l : List S25} (h : RgW σ v l) (ρ : St) : evalV ρ (.len 1 v) = some (i64 l.length, ρ) := by
  rcases h with (⟨rfl, rfl⟩ | ⟨t, rfl⟩) | ⟨a, o, c, t, vals, rfl, _⟩ <;> simp
theorem RgW.one {σ : St} {v : AVal} {l : List S25} (h : RgW σ v l) : v.one = true ∧ cellsOf v = [v] := by
  rcases h with (⟨rfl, rfl⟩ | ⟨t, rfl⟩) | ⟨a, o, c, t, vals, rfl, _⟩ <;> simp
theorem RgW.frame {σ σ' : St} {v : AVal} {l : List S25} (h : RgW σ v l) (hn : σ.next ≤ σ'.next) (hm : ∀ a, a < σ.next → σ'.mem.get a = σ.mem.get a) : RgW σ' v l := by
  rcases h with h | ⟨a, o, c, t, vals, h1, h3, h4, h5, h6⟩
  · exact .inl h
  · exact .inr ⟨a, o, c, t, vals, h1, by omega, (hm a h3).trans h4, h5, h6⟩
theorem RgW.at {σ : St} {v : AVal} {l : List S25} (hv : RgW σ v l) {i : Nat} {x : S25} (hx : l[i]? = some x) {ρ : St} (hm : ∀ a, a < σ.next → ρ.mem.get a = σ.mem.get a) :
    ∃ p, evalV ρ (.idxAddr 2 v (i64 i)) = some (p, ρ) ∧ evalV ρ (.ldn 2 p) = some (.agg [u64 x.f0, u64 x.f1], ρ) ∧ (∃ q, evalV ρ (.fieldAddr 0 p) = some (q, ρ) ∧ evalV ρ (.ld1 q) = some (u64 x.f0, ρ)) ∧ ∃ q, evalV ρ (.fieldAddr 1 p) = some (q, ρ) ∧ evalV ρ (.ld1 q) = some (u64 x.f1, ρ) := by
  have hi := (List.getElem?_eq_some_iff.1 hx).1
  rcases hv with (⟨rfl, rfl⟩ | ⟨t, rfl⟩) | ⟨a, o, c, t, vals, rfl, c3, c4, c5, c6⟩
  · simp at hx
  · have e1 := rc_get hx
    exact ⟨.iptr [u64 x.f0, u64 x.f1], by simp [hi, e1], by simp, ⟨.iptr [u64 x.f0, u64 x.f1], by simp, by simp⟩, ⟨.iptr [u64 x.f1], by simp, by simp⟩⟩
  · obtain ⟨e1, e2, e3, e4⟩ := sl_get c5 c6 hx
    have ga := (hm a c3).trans c4
    exact ⟨.ptr a (o + i * 2), by simp [hi], by simp [ga, e3, e4], ⟨.ptr a (o + i * 2), by simp, by simp [ga, e1]⟩, ⟨.ptr a (o + i * 2 + 1), by simp, by simp [ga, e2]⟩⟩
theorem HCM.get {lo hi : Nat} {m : Mem} : ∀ {cs : List AVal} {xs : List Hd} {i : Nat} {x : Hd}, HCM lo hi m cs xs → xs[i]? = some x → ∃ r, RgN lo hi m r x.f1 ∧ (cs.drop (i * 2)).take 2 = [u64 x.f0, r] ∧ cs[i * 2]? = some (u64 x.f0) ∧ cs[i * 2 + 1]? = some r
  | a :: b :: cs, y :: xs, 0, x, h, hx => by
    simp at hx; subst hx
    exact ⟨b, h.2.1, by simp [h.1], by simp [h.1], by simp⟩
  | a :: b :: cs, y :: xs, i + 1, x, h, hx => by
    obtain ⟨r, h1, h2, h3, h4⟩ := h.2.2.get (i := i) (by simpa using hx)
    have e : (i + 1) * 2 = i * 2 + 1 + 1 := by omega
    exact ⟨r, h1, by rw [e]; simpa using h2, by rw [e]; simpa using h3, by rw [e]; simpa using h4⟩
  | [], [], _, _, _, hx => by simp at hx
  | [], _ :: _, _, _, h, _ => h.elim
  | [_], _, _, _, h, _ => by cases ‹List Hd› <;> exact h.elim
  | _ :: _ :: _, [], _, _, h, _ => h.elim
def HR (σ : St) (v : AVal) (h : List Hd) : Prop := HI v h ∨ ∃ lo, HOut lo σ v h
theorem HR.len {σ : St} {v : AVal} {h : List Hd} (hh : HR σ v h) (ρ : St) : evalV ρ (.len 1 v) = some (i64 h.length, ρ) := by
  rcases hh with hh | ⟨lo, ⟨rfl, rfl⟩ | ⟨o, cs, rfl, _⟩⟩
  · exact hh.len ρ
  · simp
  · simp
theorem HR.one {σ : St} {v : AVal} {h : List Hd} (hh : HR σ v h) : v.one = true ∧ cellsOf v = [v] := by
  rcases hh with hh | ⟨lo, hh⟩
  · exact hh.one
  · exact hh.one
theorem HR.frame {σ σ' : St} {v : AVal} {h : List Hd} (hh : HR σ v h) (hn : σ.next ≤ σ'.next) (hm : ∀ a, a < σ.next → σ'.mem.get a = σ.mem.get a) : HR σ' v h := by
  rcases hh with hh | ⟨lo, hh⟩
  · exact .inl hh
  · exact .inr ⟨lo, hh.frame hn fun a _ ha => hm a ha⟩
theorem HR.at {σ : St} {v : AVal} {h : List Hd} (hh : HR σ v h) {i : Nat} {x : Hd} (hx : h[i]? = some x) {ρ : St} (hm : ∀ a, a < σ.next → ρ.mem.get a = σ.mem.get a) :
    ∃ p r, RgW σ r x.f1 ∧ evalV ρ (.idxAddr 2 v (i64 i)) = some (p, ρ) ∧ evalV ρ (.ldn 2 p) = some (.agg [u64 x.f0, r], ρ) ∧ (∃ q, evalV ρ (.fieldAddr 0 p) = some (q, ρ) ∧ evalV ρ (.ld1 q) = some (u64 x.f0, ρ)) ∧ ∃ q, evalV ρ (.fieldAddr 1 p) = some (q, ρ) ∧ evalV ρ (.ld1 q) = some (r, ρ) := by
  rcases hh with hh | ⟨lo, ⟨rfl, rfl⟩ | ⟨o, cs, rfl, h2, h3, h4, h5, h6⟩⟩
  · obtain ⟨p, r, h1, h2, h3, h4, h5⟩ := hh.at hx ρ
    exact ⟨p, r, h1.w σ, h2, h3, h4, h5⟩
  · simp at hx
  · obtain ⟨r, hr, e1, e2, e3⟩ := h6.get hx
    have hi := (List.getElem?_eq_some_iff.1 hx).1
    have hlen := h6.len
    have hb : i * 2 + 2 ≤ cs.length := by omega
    have ga := (hm o h4).trans h5
    exact ⟨.ptr o (i * 2), r, hr.w (by omega), by simp [hi], by simp [ga, e1, hb], ⟨.ptr o (i * 2), by simp, by simp [ga, e2]⟩, ⟨.ptr o (i * 2 + 1), by simp, by simp [ga, e3]⟩⟩
end Go.Proofs.YticefdfhcahlfaaDoor.AM

namespace Go.Proofs.YticefdfhcahlfaaDoor.AM
open Go.RowKit
set_option maxRecDepth 100000
set_option linter.unusedVariables false
set_option linter.unusedSimpArgs false
def rgCond (l : List S25) (i : Nat) : Prop := ∀ x, l[i]? = some x → x.f0 < x.f1 ∧ ∀ y, 0 < i → l[i - 1]? = some y → y.f1 < x.f0
def rgOk (l : List S25) : Prop := ∀ i, i < l.length → rgCond l i
theorem rgOk_step {l : List S25} {i : Nat} (h : ∀ j, j < i → rgCond l j) (hi : rgCond l i) : ∀ j, j < i + 1 → rgCond l j := fun j hj => by
  by_cases e : j = i
  · rw [e]; exact hi
  · exact h j (by omega)
def CgJ (v : AVal) (l : List S25) (σ0 : St) (mm : Nat) (rg : Regs) (σ' : St) : Prop := ∃ i : Nat, mm = l.length - i ∧ i ≤ l.length ∧ Grow σ0 σ' ∧ (∀ j, j < i → rgCond l j) ∧ rg = [(0, v), (5, v), (6, i64 l.length), (7, i64 i)]
theorem rgcheck_g {σ : St} {v : AVal} {l : List S25} (hv : RgW σ v l) (hl : l.length < 1000000) (Q : AVal → St → Prop) (h : ∀ b, (b = true ↔ rgOk l) → Q (.bool b) σ) : ACall Tryd.prog 97 [v] σ Q := by
  refine ACall.scrub ?_
  refine ACall.of_compF hmx (fun a w => Tryd.call97 a w) Tryd.func97 cf97 (n := 1) (by decide) rfl ?_
  have l1 := hv.len
  simp [ac97, rs97, lk_cons, ↓l1]
  refine wp_loop (CgJ v l σ) l.length ?_ ?_
  · exact ⟨0, rfl, Nat.zero_le _, Grow.refl _, by omega, rfl⟩
  · rintro mm rg σ' ⟨i, rfl, hi, hg, hall, rfl⟩
    by_cases hlt : i < l.length
    · obtain ⟨x, hx⟩ : ∃ x, l[i]? = some x := ⟨_, List.getElem?_eq_getElem hlt⟩
      obtain ⟨k, hk⟩ : ∃ k, i + 1 = k := ⟨_, rfl⟩
      have w1 : IntKind.i64.wrap ((i : Int) + 1) = (k : Int) := by rw [IntWalk.i64_in] <;> omega
      obtain ⟨p, p1, p2, _, _⟩ := hv.at hx (ρ := σ') hg.2
      have hg1 := hg.1
      have gr : ∀ b0 b1 : Blk, Grow σ ⟨(σ'.mem.set σ'.next b0).set σ'.next b1, σ'.next + 1⟩ := fun b0 b1 => ⟨by simp; omega, fun a ha => by simp [show ¬ a = σ'.next by omega]; exact hg.2 a ha⟩
      by_cases c1 : x.f1 ≤ x.f0
      · simp [lk_cons, hlt, ↓p1, ↓p2, storeL, c1]
        refine ⟨fun a ha => (gr _ _).2 a ha, h false ⟨fun e => (by simp at e), fun e => ?_⟩⟩
        have := (e i hlt x hx).1
        omega
      by_cases hi0 : i = 0
      · have hi1 : ¬ 0 < i := by omega
        simp [lk_cons, hlt, ↓p1, ↓p2, storeL, c1, hi1, w1]
        refine ⟨l.length - k, by omega, k, rfl, by omega, gr _ _, ?_, rfl⟩
        rw [← hk]
        refine rgOk_step hall fun z hz => ?_
        rw [hx] at hz; cases hz
        exact ⟨by omega, fun y h0 => absurd h0 hi1⟩
      · obtain ⟨j, hj⟩ : ∃ j, j + 1 = i := ⟨i - 1, by omega⟩
        obtain ⟨y, hy⟩ : ∃ y, l[j]? = some y := ⟨_, List.getElem?_eq_getElem (by omega)⟩
        have w2 : IntKind.i64.wrap ((i : Int) - 1) = (j : Int) := by rw [IntWalk.i64_in] <;> omega
        have hi1 : 0 < i := by omega
        have hji : i - 1 = j := by omega
        have hgm : ∀ a, a < σ.next → (⟨(σ'.mem.set σ'.next (.cells 2 [u64 0, u64 0])).set σ'.next (.cells 2 [u64 x.f0, u64 x.f1]), σ'.next + 1⟩ : St).mem.get a = σ.mem.get a := (gr _ _).2
        obtain ⟨q, q1, _, _, ⟨r, r1, r2⟩⟩ := hv.at hy hgm
        by_cases hlt2 : x.f0 ≤ y.f1
        · simp [lk_cons, hlt, ↓p1, ↓p2, storeL, c1, hi1, w1, w2, ↓q1, ↓r1, ↓r2, hlt2]
          refine ⟨fun a ha => (gr _ _).2 a ha, h false ⟨fun e => (by simp at e), fun e => ?_⟩⟩
          have := (e i hlt x hx).2 y hi1 (by rw [hji]; exact hy)
          omega
        · simp [lk_cons, hlt, ↓p1, ↓p2, storeL, c1, hi1, w1, w2, ↓q1, ↓r1, ↓r2, hlt2]
          refine ⟨l.length - k, by omega, k, rfl, by omega, gr _ _, ?_, rfl⟩
          rw [← hk]
          refine rgOk_step hall fun z hz => ?_
          rw [hx] at hz; cases hz
          refine ⟨by omega, fun w _ hw => ?_⟩
          rw [hji, hy] at hw; cases hw
          omega
    · have : i = l.length := by omega
      subst this
      simp [lk_cons]
      exact ⟨fun a ha => hg.2 a ha, h true ⟨fun _ => hall, fun _ => rfl⟩⟩
end Go.Proofs.YticefdfhcahlfaaDoor.AM

namespace Go.Proofs.YticefdfhcahlfaaDoor.AM
open Go.RowKit
set_option maxRecDepth 100000
set_option linter.unusedVariables false
set_option linter.unusedSimpArgs false
def cuCond (ml me : Int) (h : List Hd) (i : Nat) : Prop := ∀ x, h[i]? = some x → x.f1 ≠ [] ∧ rgOk x.f1 ∧ (∀ y, 0 < i → h[i - 1]? = some y → y.f0 < x.f0) ∧ ∀ z, x.f1[0]? = some z → ¬ ordM x.f0 z.f0 ml me < 0
def cuOk (ml me : Int) (h : List Hd) : Prop := ∀ i, i < h.length → cuCond ml me h i
theorem cuOk_step {ml me : Int} {h : List Hd} {i : Nat} (hh : ∀ j, j < i → cuCond ml me h j) (hi : cuCond ml me h i) : ∀ j, j < i + 1 → cuCond ml me h j := fun j hj => by
  by_cases e : j = i
  · rw [e]; exact hi
  · exact hh j (by omega)
def HFew (h : List Hd) : Prop := h.length < 1000000 ∧ ∀ x ∈ h, x.f1.length < 1000000
def CcJ (hv : AVal) (ml me : Int) (h : List Hd) (σ0 : St) (mm : Nat) (rg : Regs) (σ' : St) : Prop := ∃ i : Nat, mm = h.length - i ∧ i ≤ h.length ∧ σ0.next + 1 ≤ σ'.next ∧ (∀ a, a < σ0.next → σ'.mem.get a = σ0.mem.get a) ∧ σ'.mem.get σ0.next = some (.cells 3 [u64 ml, u64 me, hv]) ∧ (∀ j, j < i → cuCond ml me h j) ∧
  rg = [(1, .ptr σ0.next 0), (6, hv), (7, i64 h.length), (8, i64 i)]
set_option maxHeartbeats 2000000 in
theorem ccheck_g {hv : AVal} {h : List Hd} {σ : St} (hh : HR σ hv h) (hf : HFew h) (ml me : Int) (Q : AVal → St → Prop) (hq : ∀ b, (b = true ↔ cuOk ml me h) → Q (.bool b) σ) : ACall Tryd.prog 76 [cv ml me hv] σ Q := by
  refine ACall.scrub ?_
  refine ACall.of_compF hmx (fun a w => Tryd.call76 a w) Tryd.func76 cf76 (n := 1) (by decide) rfl ?_
  have k1 := hh.one.1
  have k2 := hh.one.2
  have hl := hf.1
  have l1 := hh.len
  simp only [ac76, rs76]
  simp [lk_cons, k1, k2, ↓l1]
  refine wp_loop (CcJ hv ml me h σ) h.length ?_ ?_
  · exact ⟨0, rfl, Nat.zero_le _, by simp, fun a ha => by simp [show ¬ a = σ.next by omega], by simp, by omega, rfl⟩
  · rintro mm rg σ1 ⟨i, rfl, hi, hn1, gold, m1, hall, rfl⟩
    have no : ∀ {P : Prop}, (¬ P) → (false = true ↔ P) := fun hp => ⟨fun e => by simp at e, fun e => absurd e hp⟩
    by_cases hlt : i < h.length
    · obtain ⟨x, hx⟩ : ∃ x, h[i]? = some x := ⟨_, List.getElem?_eq_getElem hlt⟩
      obtain ⟨k, hk⟩ : ∃ k, i + 1 = k := ⟨_, rfl⟩
      have w1 : IntKind.i64.wrap ((i : Int) + 1) = (k : Int) := by rw [IntWalk.i64_in] <;> omega
      obtain ⟨p, r, hr, p1, p2, _, _⟩ := hh.at hx (ρ := σ1) gold
      have r1 := hr.one.1
      have r2 := hr.one.2
      have l2 := hr.len
      have hxf := hf.2 x (List.mem_of_getElem? hx)
      have z1 : ¬ σ.next = σ1.next := by omega
      have gold2 : ∀ (b0 b1 : Blk) (a : Nat), a < σ.next → (⟨(σ1.mem.set σ1.next b0).set σ1.next b1, σ1.next + 1⟩ : St).mem.get a = σ.mem.get a := fun b0 b1 a ha => by simp [show ¬ a = σ1.next by omega]; exact gold a ha
      by_cases h0 : x.f1.length = 0
      · simp [lk_cons, hlt, ↓p1, ↓p2, storeL, r1, r2, ↓l2, h0]
        exact ⟨fun a ha => gold2 _ _ a ha, hq false (no fun e => (e i hlt x hx).1 (List.eq_nil_of_length_eq_zero h0))⟩
      obtain ⟨w, hw0⟩ : ∃ w, x.f1[0]? = some w := ⟨_, List.getElem?_eq_getElem (by omega)⟩
      have hpos : ¬ x.f1.length = 0 := h0
      have fin : cuCond ml me h i → ∀ b0 b1 : Blk, ∃ mm, mm < h.length - i ∧ CcJ hv ml me h σ mm [(1, .ptr σ.next 0), (6, hv), (7, i64 h.length), (8, i64 k)] ⟨(σ1.mem.set σ1.next b0).set σ1.next b1, σ1.next + 1⟩ := fun hc b0 b1 =>
        ⟨h.length - k, by omega, k, rfl, by omega, by simp; omega, gold2 b0 b1, by simp [z1]; exact m1, by rw [← hk]; exact cuOk_step hall hc, rfl⟩
      have wl : IntKind.i64.wrap (x.f1.length : Int) = x.f1.length := by rw [IntWalk.i64_in] <;> omega
      simp [lk_cons, hlt, ↓p1, ↓p2, storeL, r1, r2, ↓l2, hpos]
      refine rgcheck_g (hr.frame (by simp; omega) (gold2 _ _)) hxf _ fun b hb => ?_
      obtain ⟨q, q1, _, ⟨q0, q2, q3⟩, _⟩ := hr.at hw0 (ρ := ⟨(σ1.mem.set σ1.next (.cells 2 [.int .u64 0, .nilsl])).set σ1.next (.cells 2 [u64 x.f0, r]), σ1.next + 1⟩) (gold2 _ _)
      have q1' : evalV ⟨(σ1.mem.set σ1.next (.cells 2 [.int .u64 0, .nilsl])).set σ1.next (.cells 2 [u64 x.f0, r]), σ1.next + 1⟩ (.idxAddr 2 r (.int .i64 0)) = some (q, ⟨(σ1.mem.set σ1.next (.cells 2 [.int .u64 0, .nilsl])).set σ1.next (.cells 2 [u64 x.f0, r]), σ1.next + 1⟩) := q1
      cases b with
      | false =>
        simp [lk_cons, ↓l2, hpos, fillL, storeL, r1, r2]
        exact ⟨fun a ha => gold2 _ _ a ha, hq false (no fun e => by have := hb.2 (e i hlt x hx).2.1; simp at this)⟩
      | true =>
        have hrg := hb.1 rfl
        have ord : ∀ (hc : ∀ y, 0 < i → h[i - 1]? = some y → y.f0 < x.f0), ordM x.f0 w.f0 ml me < 0 ∨ ¬ ordM x.f0 w.f0 ml me < 0 ∧ cuCond ml me h i := fun hc => by
          by_cases ho : ordM x.f0 w.f0 ml me < 0
          · exact .inl ho
          · refine .inr ⟨ho, fun x' hx' => ?_⟩
            rw [hx] at hx'; cases hx'
            refine ⟨fun e => h0 (by rw [e]; rfl), hrg, hc, fun z hz => ?_⟩
            rw [hw0] at hz; cases hz
            exact ho
        have bad : ordM x.f0 w.f0 ml me < 0 → ¬ cuOk ml me h := fun ho e => (e i hlt x hx).2.2.2 w hw0 ho
        by_cases hi0 : i = 0
        · have c0 : ¬ (0 : Int) < (i : Int) := by omega
          have c0' : ¬ 0 < i := by omega
          simp [lk_cons, ↓l2, hpos, c0, c0', m1, z1, k1, k2, ↓q1', ↓q2, ↓q3, fillL, storeL, r1, r2]
          refine order_c x.f0 w.f0 ml me _ _ ?_
          rcases ord fun y h0 => absurd h0 c0' with ho | ⟨ho, hc⟩
          · simp [lk_cons, ↓l2, hpos, c0, c0', ho]
            exact ⟨fun a ha => gold2 _ _ a ha, hq false (no (bad ho))⟩
          · simp [lk_cons, ↓l2, hpos, c0, c0', ho, w1]
            exact fin hc _ _
        · obtain ⟨j, hj⟩ : ∃ j, j + 1 = i := ⟨i - 1, by omega⟩
          obtain ⟨y, hy⟩ : ∃ y, h[j]? = some y := ⟨_, List.getElem?_eq_getElem (by omega)⟩
          have c0 : (0 : Int) < (i : Int) := by omega
          have c0' : 0 < i := by omega
          have hji : i - 1 = j := by omega
          have w2 : IntKind.i64.wrap ((i : Int) - 1) = (j : Int) := by rw [IntWalk.i64_in] <;> omega
          obtain ⟨s, _, _, s1, _, ⟨s0, s2, s3⟩, _⟩ := hh.at hy (ρ := ⟨(σ1.mem.set σ1.next (.cells 2 [.int .u64 0, .nilsl])).set σ1.next (.cells 2 [u64 x.f0, r]), σ1.next + 1⟩) (gold2 _ _)
          by_cases hlt2 : x.f0 ≤ y.f0
          · simp [lk_cons, ↓l2, hpos, c0, c0', m1, z1, k1, k2, w2, ↓s1, ↓s2, ↓s3, ↓q1', ↓q2, ↓q3, fillL, storeL, r1, r2, hlt2]
            refine ⟨fun a ha => gold2 _ _ a ha, hq false (no fun e => ?_)⟩
            have := (e i hlt x hx).2.2.1 y c0' (by rw [hji]; exact hy)
            omega
          · simp [lk_cons, ↓l2, hpos, c0, c0', m1, z1, k1, k2, w2, ↓s1, ↓s2, ↓s3, ↓q1', ↓q2, ↓q3, fillL, storeL, r1, r2, hlt2]
            refine order_c x.f0 w.f0 ml me _ _ ?_
            rcases ord fun z _ hz => (by rw [hji, hy] at hz; cases hz; omega) with ho | ⟨ho, hc⟩
            · simp [lk_cons, ↓l2, hpos, c0, c0', ho, hlt2, m1, z1, w2, ↓s1, ↓s2, ↓s3]
              exact ⟨fun a ha => gold2 _ _ a ha, hq false (no (bad ho))⟩
            · simp [lk_cons, ↓l2, hpos, c0, c0', ho, w1, hlt2, m1, z1, w2, ↓s1, ↓s2, ↓s3]
              exact fin hc _ _
    · have : i = h.length := by omega
      subst this
      simp [lk_cons]
      exact ⟨fun a ha => gold a ha, hq true ⟨fun _ => hall, fun _ => rfl⟩⟩
end Go.Proofs.YticefdfhcahlfaaDoor.AM


namespace Go.Proofs.YticefdfhcahlfaaDoor.AM
open Go.RowKit
set_option maxRecDepth 100000
set_option linter.unusedVariables false
set_option linter.unusedSimpArgs false
def rgB (z : S25) : List UInt8 := beN 8 z.f0.toNat ++ beN 8 z.f1.toNat
def rgsB (l : List S25) : List UInt8 := (l.map rgB).flatten
def hdB (x : Hd) : List UInt8 := beN 8 x.f0.toNat ++ beN 2 (x.f1.length % 65536) ++ rgsB x.f1
def hdsB (h : List Hd) : List UInt8 := (h.map hdB).flatten
def cuB (ml me : Int) (h : List Hd) : List UInt8 := beN 8 ml.toNat ++ beN 8 me.toNat ++ beN 2 (h.length % 65536) ++ hdsB h
theorem rgsB_snoc (l : List S25) (x : S25) : rgsB (l ++ [x]) = rgsB l ++ rgB x := by simp [rgsB]
theorem hdsB_snoc (l : List Hd) (x : Hd) : hdsB (l ++ [x]) = hdsB l ++ hdB x := by simp [hdsB]
theorem rgsB_len : ∀ l : List S25, (rgsB l).length = 16 * l.length
  | [] => rfl
  | x :: l => by
    have := rgsB_len l
    simp only [rgsB, List.map_cons, List.flatten_cons, List.length_append, rgB, beN_len, List.length_cons] at this ⊢
    omega
def In64 (a : Int) : Prop := 0 ≤ a ∧ a < 18446744073709551616
structure HSm (h : List Hd) : Prop where
  len : h.length ≤ 600
  each : ∀ x ∈ h, x.f1.length ≤ 600
  led : ∀ x ∈ h, In64 x.f0
  rg : ∀ x ∈ h, ∀ z ∈ x.f1, In64 z.f0 ∧ In64 z.f1
theorem hdsB_len {h : List Hd} (he : ∀ x ∈ h, x.f1.length ≤ 600) : (hdsB h).length ≤ 9610 * h.length := by
  induction h with
  | nil => simp [hdsB]
  | cons x l ih =>
    have h1 := he x (by simp)
    have h2 := ih fun y hy => he y (by simp [hy])
    simp only [hdsB, List.map_cons, List.flatten_cons, List.length_append, hdB, rgsB_len, beN_len, List.length_cons] at h2 ⊢
    omega
theorem nat_of {a : Int} (h : In64 a) : ∃ n : Nat, a = (n : Int) ∧ a.toNat = n ∧ n < 18446744073709551616 := ⟨a.toNat, by have := h.1; omega, rfl, by have := h.2; have := h.1; omega⟩
def WoJ (w : Nat) (hv : AVal) (h : List Hd) (l : List UInt8) (b : Option Nat) (S : St) (mm : Nat) (rg : Regs) (σ' : St) : Prop := ∃ (i : Nat) (b' : Option Nat), mm = h.length - i ∧ i ≤ h.length ∧ WB σ' w (l ++ hdsB (h.take i)) b' ∧ WStp w b b' S σ' ∧ rg = [(0, .ptr w 0), (25, hv), (26, i64 h.length), (27, i64 i)]
def WiJ (w : Nat) (hv rv : AVal) (N i : Nat) (r : List S25) (l : List UInt8) (b : Option Nat) (S : St) (mm : Nat) (rg : Regs) (σ' : St) : Prop := ∃ (j : Nat) (b' : Option Nat), mm = r.length - j ∧ j ≤ r.length ∧ WB σ' w (l ++ rgsB (r.take j)) b' ∧ WStp w b b' S σ' ∧ rg = [(0, .ptr w 0), (25, hv), (26, i64 N), (27, i64 i), (42, rv), (43, i64 r.length), (44, i64 j)]
theorem WStp.grow {w : Nat} {b b' : Option Nat} {σ σ' τ : St} (h : WStp w b b' σ σ') (hb : ∀ x, b' = some x → x < σ'.next) (g : Grow σ' τ) (hw : w < σ.next) : WStp w b b' σ τ := ⟨Nat.le_trans h.next g.1, h.own, fun a ha h1 h2 => (g.2 a (Nat.lt_of_lt_of_le ha h.next)).trans (h.keep a ha h1 h2)⟩
theorem WB.lt {σ : St} {w : Nat} {l : List UInt8} {b : Option Nat} (h : WB σ w l b) : (∀ x, b = some x → x < σ.next) ∧ w < σ.next := by
  obtain ⟨_, _, hg, _, hw⟩ := h
  exact ⟨fun x hx => hg.lt hx, hw⟩
theorem WB.grow {σ τ : St} {w : Nat} {l : List UInt8} {b : Option Nat} (h : WB σ w l b) (g : Grow σ τ) : WB τ w l b := h.keep g.1 fun a ha _ => g.2 a ha
set_option maxHeartbeats 2000000 in
theorem cwrite_c {σ : St} {w : Nat} {l : List UInt8} {b : Option Nat} (h0 : WB σ w l b) {hv : AVal} {h : List Hd} (hh : HI hv h) (hs : HSm h) {ml me : Int} (hml : In64 ml) (hme : In64 me) (hl : l.length ≤ 100000000) (Q : AVal → St → Prop)
    (hQ : ∀ σ' b', WB σ' w (l ++ cuB ml me h) b' → WStp w b b' σ σ' → Q (.tup []) σ') : ACall Tryd.prog 61 [.ptr w 0, cv ml me hv] σ Q := by
  refine ACall.of_compF hmx (fun a w => Tryd.call61 a w) Tryd.func61 cf61 (n := 2) (by decide) rfl ?_
  have k1 := hh.one.1
  have k2 := hh.one.2
  have l1 := hh.len
  have hlen := hs.len
  obtain ⟨nl, rfl, tnl, _⟩ := nat_of hml
  obtain ⟨ne, rfl, tne, _⟩ := nat_of hme
  simp [ac61, rs61, lk_cons, k1, k2]
  obtain ⟨S, hS⟩ : ∃ S : St, S = ⟨σ.mem.set σ.next (.cells 3 [u64 (nl : Int), u64 (ne : Int), hv]), σ.next + 1⟩ := ⟨_, rfl⟩
  have gS : Grow σ S := ⟨by rw [hS]; exact Nat.le_succ _, fun a ha => by rw [hS]; simp [show ¬ a = σ.next by omega]⟩
  have nS : S.next = σ.next + 1 := by rw [hS]
  have mS : S.mem.get σ.next = some (.cells 3 [u64 (nl : Int), u64 (ne : Int), hv]) := by rw [hS]; simp
  obtain ⟨hbl, hwl⟩ := h0.lt
  have mm : ∀ {σ' : St} {b' : Option Nat}, WStp w b b' S σ' → σ'.mem.get σ.next = S.mem.get σ.next := fun t => t.keep σ.next (by omega) (by omega) (fun e => by have := hbl _ e; omega)
  have toS : ∀ {σ' : St} {b' : Option Nat}, WStp w b b' S σ' → WStp w b b' σ σ' := fun t => ⟨by have := t.next; omega, fun x hx => (t.own x hx).imp id fun h => by omega, fun a ha h1 h2 => (t.keep a (by omega) h1 h2).trans (gS.2 a ha)⟩
  rw [← hS]
  refine wu64_c (h0.grow gS) (by omega) _ fun σ1 b1 h1 t1 => ?_
  simp [lk_cons, mm t1, mS]
  refine wu64_c h1 (by simp [beN_len]; omega) _ fun σ2 b2 h2 t2 => ?_
  have t2 := t1.trans t2
  have wl : IntKind.u16.wrap (h.length : Int) = h.length := by rw [IntWalk.u16_in] <;> omega
  simp [lk_cons, mm t2, mS, ↓l1, wl]
  refine wu16_c h2 (by omega) (by simp [beN_len]; omega) _ fun σ3 b3 h3 t3 => ?_
  have t3 := t2.trans t3
  simp [lk_cons, mm t3, mS, ↓l1]
  obtain ⟨L0, hL0⟩ : ∃ L0, l ++ beN 8 nl ++ beN 8 ne ++ beN 2 h.length = L0 := ⟨_, rfl⟩
  have hL0l : L0.length = l.length + 18 := by rw [← hL0]; simp [beN_len]
  rw [hL0] at h3
  refine wp_loop (WoJ w hv h L0 b S) h.length ?_ ?_
  · exact ⟨0, b3, rfl, Nat.zero_le _, by simpa [hdsB] using h3, t3, by simp [lk_cons]⟩
  rintro m rg σ4 ⟨i, b4, rfl, hi, h4, t4, rfl⟩
  by_cases hlt : i < h.length
  · obtain ⟨x, hx⟩ : ∃ x, h[i]? = some x := ⟨_, List.getElem?_eq_getElem hlt⟩
    have hxm := List.mem_of_getElem? hx
    have w1 : IntKind.i64.wrap ((i : Int) + 1) = ((i + 1 : Nat) : Int) := by rw [IntWalk.i64_in] <;> omega
    obtain ⟨p, r, hr, p1, p2, _, _⟩ := hh.at hx σ4
    have r1 := hr.one.1
    have r2 := hr.one.2
    have l2 := (hr.w σ4).len
    have hxe := hs.each x hxm
    obtain ⟨nx, ex, tx, _⟩ := nat_of (hs.led x hxm)
    rw [ex] at p2
    have htk : h.take (i + 1) = h.take i ++ [x] := by rw [List.take_add_one, hx]; rfl
    have hdl := hdsB_len (h := h.take i) fun y hy => hs.each y (List.mem_of_mem_take hy)
    rw [List.length_take] at hdl
    simp [lk_cons, hlt, ↓p1, ↓p2, storeL, r1, r2]
    obtain ⟨S4, hS4⟩ : ∃ S4 : St, S4 = ⟨(σ4.mem.set σ4.next (.cells 2 [.int .u64 0, .nilsl])).set σ4.next (.cells 2 [u64 (nx : Int), r]), σ4.next + 1⟩ := ⟨_, rfl⟩
    have gS4 : Grow σ4 S4 := ⟨by rw [hS4]; exact Nat.le_succ _, fun a ha => by rw [hS4]; simp [show ¬ a = σ4.next by omega]⟩
    have nS4 : S4.next = σ4.next + 1 := by rw [hS4]
    have mS4 : S4.mem.get σ4.next = some (.cells 2 [u64 (nx : Int), r]) := by rw [hS4]; simp
    obtain ⟨hb4, hw4⟩ := h4.lt
    have mm4 : ∀ {σ' : St} {b' : Option Nat}, WStp w b4 b' S4 σ' → σ'.mem.get σ4.next = S4.mem.get σ4.next := fun t => t.keep σ4.next (by omega) (by omega) (fun e => by have := hb4 _ e; omega)
    have t4S : WStp w b b4 S S4 := t4.grow hb4 gS4 (by omega)
    rw [← hS4]
    refine wu64_c (h4.grow gS4) (by rw [List.length_append]; omega) _ fun σ5 b5 h5 t5 => ?_
    have wl2 : IntKind.u16.wrap (x.f1.length : Int) = x.f1.length := by rw [IntWalk.u16_in] <;> omega
    simp [lk_cons, mm4 t5, mS4, ↓l2, wl2]
    refine wu16_c h5 (by omega) (by simp only [List.length_append, beN_len]; omega) _ fun σ6 b6 h6 t6 => ?_
    have t6 := t5.trans t6
    simp [lk_cons, mm4 t6, mS4, ↓l2]
    obtain ⟨L1, hL1⟩ : ∃ L1, L0 ++ hdsB (h.take i) ++ beN 8 nx ++ beN 2 x.f1.length = L1 := ⟨_, rfl⟩
    have hL1l : L1.length ≤ l.length + 6000000 := by rw [← hL1]; simp only [List.length_append, beN_len]; omega
    rw [hL1] at h6
    refine wp_loop (WiJ w hv r h.length i x.f1 L1 b S) x.f1.length ?_ ?_
    · exact ⟨0, b6, rfl, Nat.zero_le _, by simpa [rgsB] using h6, t4S.trans t6, by simp [lk_cons]⟩
    rintro m rg σ7 ⟨j, b7, rfl, hj, h7, t7, rfl⟩
    by_cases hjl : j < x.f1.length
    · obtain ⟨z, hz⟩ : ∃ z, x.f1[j]? = some z := ⟨_, List.getElem?_eq_getElem hjl⟩
      have w2 : IntKind.i64.wrap ((j : Int) + 1) = ((j + 1 : Nat) : Int) := by rw [IntWalk.i64_in] <;> omega
      obtain ⟨q, q1, q2, _, _⟩ := (hr.w σ7).at hz (ρ := σ7) fun _ _ => rfl
      obtain ⟨⟨na, ea, ta, _⟩, ⟨nb, eb, tb, _⟩⟩ := And.intro (nat_of (hs.rg x hxm z (List.mem_of_getElem? hz)).1) (nat_of (hs.rg x hxm z (List.mem_of_getElem? hz)).2)
      rw [ea, eb] at q2
      have htk2 : x.f1.take (j + 1) = x.f1.take j ++ [z] := by rw [List.take_add_one, hz]; rfl
      have hrl := rgsB_len (x.f1.take j)
      rw [List.length_take] at hrl
      simp [lk_cons, hjl, ↓q1, ↓q2, storeL]
      obtain ⟨S7, hS7⟩ : ∃ S7 : St, S7 = ⟨(σ7.mem.set σ7.next (.cells 2 [.int .u64 0, .int .u64 0])).set σ7.next (.cells 2 [u64 (na : Int), u64 (nb : Int)]), σ7.next + 1⟩ := ⟨_, rfl⟩
      have gS7 : Grow σ7 S7 := ⟨by rw [hS7]; exact Nat.le_succ _, fun a ha => by rw [hS7]; simp [show ¬ a = σ7.next by omega]⟩
      have nS7 : S7.next = σ7.next + 1 := by rw [hS7]
      have mS7 : S7.mem.get σ7.next = some (.cells 2 [u64 (na : Int), u64 (nb : Int)]) := by rw [hS7]; simp
      obtain ⟨hb7, hw7⟩ := h7.lt
      have mm7 : ∀ {σ' : St} {b' : Option Nat}, WStp w b7 b' S7 σ' → σ'.mem.get σ7.next = S7.mem.get σ7.next := fun t => t.keep σ7.next (by omega) (by omega) (fun e => by have := hb7 _ e; omega)
      rw [← hS7]
      refine wu64_c (h7.grow gS7) (by rw [List.length_append]; omega) _ fun σ8 b8 h8 t8 => ?_
      simp [lk_cons, mm7 t8, mS7]
      refine wu64_c h8 (by simp only [List.length_append, beN_len]; omega) _ fun σ9 b9 h9 t9 => ?_
      have t9 := t8.trans t9
      simp [lk_cons, w2]
      refine ⟨x.f1.length - (j + 1), by omega, j + 1, b9, rfl, by omega, ?_, (t7.grow hb7 gS7 (by omega)).trans t9, rfl⟩
      rw [htk2, rgsB_snoc, rgB, ta, tb]
      simpa [List.append_assoc] using h9
    have : j = x.f1.length := by omega
    subst this
    rw [List.take_length] at h7
    simp [lk_cons, w1]
    refine ⟨h.length - (i + 1), by omega, i + 1, b7, rfl, by omega, ?_, t7, rfl⟩
    rw [htk, hdsB_snoc, hdB, tx, Nat.mod_eq_of_lt (by omega)]
    rw [← hL1] at h7
    simpa [List.append_assoc] using h7
  have : i = h.length := by omega
  subst this
  rw [List.take_length] at h4
  simp [lk_cons]
  refine hQ σ4 b4 ?_ (toS t4)
  rw [cuB, tnl, tne, Nat.mod_eq_of_lt (by omega)]
  rw [← hL0] at h4
  simpa [List.append_assoc] using h4
end Go.Proofs.YticefdfhcahlfaaDoor.AM

namespace Go.Proofs.YticefdfhcahlfaaDoor.AM
open Go.RowKit
set_option maxRecDepth 100000
set_option linter.unusedVariables false
set_option linter.unusedSimpArgs false
theorem GS.grow {α : Type} {k : Nat} {R : Rw α k} {σ τ : St} {v : AVal} {l : List α} {b : Option Nat} (h : GS R σ v l b) (g : Grow σ τ) : GS R τ v l b := h.keep g.1 fun a ha _ => g.2 a ha
end Go.Proofs.YticefdfhcahlfaaDoor.AM

namespace Go.Proofs.YticefdfhcahlfaaDoor.AM
open Go.RowKit
set_option maxRecDepth 100000
set_option linter.unusedVariables false
set_option linter.unusedSimpArgs false
def rgOkB (l : List S25) : Bool := (List.range l.length).all fun i => match l[i]? with
  | none => true
  | some x => decide (x.f0 < x.f1) && (decide (i = 0) || match l[i - 1]? with
    | none => true
    | some y => decide (y.f1 < x.f0))
theorem rgOkB_iff (l : List S25) : rgOkB l = true ↔ rgOk l := by
  simp only [rgOkB, List.all_eq_true, List.mem_range, rgOk]
  refine forall_congr' fun i => forall_congr' fun hi => ?_
  obtain ⟨x, hx⟩ : ∃ x, l[i]? = some x := ⟨_, List.getElem?_eq_getElem hi⟩
  simp only [hx, rgCond, Bool.and_eq_true, decide_eq_true_eq, Bool.or_eq_true]
  constructor
  · rintro ⟨h1, h2⟩ z hz
    cases hz
    refine ⟨h1, fun y h0 hy => ?_⟩
    rcases h2 with h2 | h2
    · omega
    · rw [hy] at h2; simpa using h2
  · intro h
    obtain ⟨h1, h2⟩ := h x rfl
    refine ⟨h1, ?_⟩
    by_cases h0 : i = 0
    · exact .inl h0
    · right
      cases hy : l[i - 1]? with
      | none => rfl
      | some y => simpa using h2 y (by omega) hy
def cuOkB (ml me : Int) (h : List Hd) : Bool := (List.range h.length).all fun i => match h[i]? with
  | none => true
  | some x => !x.f1.isEmpty && rgOkB x.f1 && (decide (i = 0) || match h[i - 1]? with
    | none => true
    | some y => decide (y.f0 < x.f0)) && match x.f1[0]? with
    | none => true
    | some z => decide (¬ ordM x.f0 z.f0 ml me < 0)
theorem cuOkB_iff (ml me : Int) (h : List Hd) : cuOkB ml me h = true ↔ cuOk ml me h := by
  simp only [cuOkB, List.all_eq_true, List.mem_range, cuOk]
  refine forall_congr' fun i => forall_congr' fun hi => ?_
  obtain ⟨x, hx⟩ : ∃ x, h[i]? = some x := ⟨_, List.getElem?_eq_getElem hi⟩
  simp only [hx, cuCond, Bool.and_eq_true, decide_eq_true_eq, Bool.or_eq_true, rgOkB_iff]
  constructor
  · rintro ⟨⟨⟨h1, h2⟩, h3⟩, h4⟩ z hz
    cases hz
    refine ⟨fun e => by rw [e] at h1; simp at h1, h2, fun y h0 hy => ?_, fun z hz => ?_⟩
    · rcases h3 with h3 | h3
      · omega
      · rw [hy] at h3; simpa using h3
    · rw [hz] at h4; simpa using h4
  · intro hh
    obtain ⟨h1, h2, h3, h4⟩ := hh x rfl
    refine ⟨⟨⟨by simpa using h1, h2⟩, ?_⟩, ?_⟩
    · by_cases h0 : i = 0
      · exact .inl h0
      · right
        cases hy : h[i - 1]? with
        | none => rfl
        | some y => simpa using h3 y (by omega) hy
    · cases hz : x.f1[0]? with
      | none => rfl
      | some z => simpa using h4 z hz
def pRg : Prs S25 := pB (pNum 8) fun a => pB (pNum 8) fun b => pR ⟨(a : Int), (b : Int)⟩
def pHd : Prs Hd := pB (pNum 8) fun L => pB (pNum 2) fun n => pB (pMany pRg n) fun r => pR ⟨(L : Int), r⟩
structure Cu where
  ml : Int
  me : Int
  h : List Hd
def pCu0 : Prs Cu := pB (pNum 8) fun a => pB (pNum 8) fun b => pB (pNum 2) fun n => pB (pMany pHd n) fun h => pR ⟨(a : Int), (b : Int), h⟩
def pCu : Prs Cu := pB pCu0 fun c l => if cuOkB c.ml c.me c.h then .ok (c, l) else .error 23
theorem pRg_ne0 : ∀ l e, pRg l = .error e → e ≠ 0 := ne0 (fun l e => pNum_err) fun _ => ne0 (fun l e => pNum_err) fun _ => pR_ne0 _
theorem pHd_ne0 : ∀ l e, pHd l = .error e → e ≠ 0 := ne0 (fun l e => pNum_err) fun _ => ne0 (fun l e => pNum_err) fun n => ne0 (pMany_ne0 pRg_ne0 n) fun _ => pR_ne0 _
theorem pCu_ne0 : ∀ l e, pCu l = .error e → e ≠ 0 := ne0 (ne0 (fun l e => pNum_err) fun _ => ne0 (fun l e => pNum_err) fun _ => ne0 (fun l e => pNum_err) fun n => ne0 (pMany_ne0 pHd_ne0 n) fun _ => pR_ne0 _) fun c l e h => by
  split at h
  · cases h
  · cases h; decide
theorem pB_len {α β : Type} {p : Prs α} {f : α → Prs β} (hp : ∀ l x r, p l = .ok (x, r) → r.length ≤ l.length) (hf : ∀ y l x r, f y l = .ok (x, r) → r.length ≤ l.length) : ∀ l x r, pB p f l = .ok (x, r) → r.length ≤ l.length := fun l x r h => by
  obtain ⟨y, m, h1, h2⟩ := pB_inv h
  have := hp _ _ _ h1
  have := hf _ _ _ _ h2
  omega
theorem pR_len {α : Type} (y : α) : ∀ l x r, pR y l = .ok (x, r) → r.length ≤ l.length := fun l x r h => by cases h; exact Nat.le_refl _
theorem pNum_le (k : Nat) : ∀ l x r, pNum k l = .ok (x, r) → r.length ≤ l.length := fun l x r h => by have := (pNum_len h).1; omega
theorem pRg_len : ∀ l x r, pRg l = .ok (x, r) → r.length ≤ l.length := pB_len (pNum_le 8) fun _ => pB_len (pNum_le 8) fun _ => pR_len _
theorem pHd_len : ∀ l x r, pHd l = .ok (x, r) → r.length ≤ l.length := pB_len (pNum_le 8) fun _ => pB_len (pNum_le 2) fun n => pB_len (fun l x r h => (pMany_len pRg_len n l x r h).1) fun _ => pR_len _
theorem pCu0_len : ∀ l x r, pCu0 l = .ok (x, r) → r.length ≤ l.length := pB_len (pNum_le 8) fun _ => pB_len (pNum_le 8) fun _ => pB_len (pNum_le 2) fun n => pB_len (fun l x r h => (pMany_len pHd_len n l x r h).1) fun _ => pR_len _
theorem pCu_len : ∀ l x r, pCu l = .ok (x, r) → r.length ≤ l.length := pB_len pCu0_len fun c l x r h => by
  split at h
  · cases h; exact Nat.le_refl _
  · cases h
theorem Out.rgn {lo : Nat} {σ' : St} {v : AVal} {l : List S25} (h : Out lo σ' v l) {lo' hi : Nat} {m : Mem} (h1 : lo' ≤ lo) (h2 : σ'.next ≤ hi) (hm : ∀ a, lo ≤ a → a < σ'.next → m.get a = σ'.mem.get a) : RgN lo' hi m v l := by
  rcases h with h | ⟨o, rfl, h0, h3, h4, h5⟩
  · exact .inl (.inl h)
  · exact .inr ⟨o, l.length, false, rfl, by omega, by omega, (hm o h3 h4).trans h5⟩
theorem Out.frame {lo : Nat} {σ σ' : St} {v : AVal} {l : List S25} (h : Out lo σ v l) (hn : σ.next ≤ σ'.next) (hm : ∀ a, lo ≤ a → a < σ.next → σ'.mem.get a = σ.mem.get a) : Out lo σ' v l := by
  rcases h with h | ⟨o, h1, h2, h3, h4, h5⟩
  · exact .inl h
  · exact .inr ⟨o, h1, h2, h3, by omega, (hm o h3 h4).trans h5⟩
theorem Out.one {lo : Nat} {σ : St} {v : AVal} {l : List S25} (h : Out lo σ v l) : v.one = true ∧ cellsOf v = [v] := by
  rcases h with ⟨rfl, _⟩ | ⟨o, rfl, _⟩ <;> simp
theorem HOut.mono {lo lo' : Nat} {σ : St} {v : AVal} {h : List Hd} (hh : HOut lo σ v h) (hl : lo' ≤ lo) : HOut lo' σ v h := by
  rcases hh with hh | ⟨o, cs, h1, h2, h3, h4, h5, h6⟩
  · exact .inl hh
  · exact .inr ⟨o, cs, h1, h2, by omega, h4, h5, h6.mono hl (Nat.le_refl _) fun _ _ _ => rfl⟩
def TkJ (res : Except Nat (Cu × List UInt8)) (r A B : Nat) (c : Option Nat) (ml me : Int) (N : Nat) (σ0 : St) (mm : Nat) (rg : Regs) (σ' : St) : Prop := ∃ (i : Nat) (l : List UInt8) (acc : List Hd) (ov : AVal), mm = N - i ∧ i ≤ N ∧ acc.length = i ∧ RR σ' r l c ∧ l.length ≤ 1000000 ∧ (∀ x ∈ acc, x.f1.length < 65536) ∧
  (B + 1 ≤ σ'.next ∧ ∀ a, a < A → a ≠ r → σ'.mem.get a = σ0.mem.get a) ∧ σ'.mem.get A = some (.cells 3 [u64 0, u64 0, .nilsl]) ∧ σ'.mem.get B = some (.cells 3 [u64 ml, u64 me, ov]) ∧ HOut (B + 1) σ' ov acc ∧ res = pB (pMany pHd (N - i)) (fun hs => pR ⟨ml, me, acc ++ hs⟩) l ∧ rg = [(0, .ptr r 0), (2, .ptr A 0), (3, .ptr B 0), (12, .int .u16 N), (13, .int .u16 i)]
def TlJ (res : Except Nat (Cu × List UInt8)) (F : List S25 → Prs Cu) (r A B H : Nat) (c : Option Nat) (L : Int) (N i M : Nat) (S : St) (mm : Nat) (rg : Regs) (σ' : St) : Prop := ∃ (j : Nat) (l : List UInt8) (rs : List S25) (rv : AVal), mm = M - j ∧ j ≤ M ∧ rs.length = j ∧ RR σ' r l c ∧ l.length ≤ 1000000 ∧
  (S.next ≤ σ'.next ∧ ∀ a, a < S.next → a ≠ r → a ≠ H → σ'.mem.get a = S.mem.get a) ∧ σ'.mem.get H = some (.cells 2 [u64 L, rv]) ∧ Out S.next σ' rv rs ∧ res = pB (pMany pRg (M - j)) (fun hs => F (rs ++ hs)) l ∧ rg = [(0, .ptr r 0), (2, .ptr A 0), (3, .ptr B 0), (4, .ptr H 0), (12, .int .u16 N), (13, .int .u16 i), (19, .int .u16 M), (20, .int .u16 j)]
set_option maxHeartbeats 4000000 in
theorem ctake_c {T : AVal → St → Prop} {σ : St} {r : Nat} {l : List UInt8} {c : Option Nat} {K : AVal → St → Prop} (h : RR σ r l c) (hl : l.length ≤ 1000000)
    (hT : ∀ e σ', pCu l = .error e → RStp r σ σ' → T (thrownV (e : Int)) σ')
    (hK : ∀ x l' v σ', pCu l = .ok (x, l') → RR σ' r l' c → HOut σ.next σ' v x.h → HFew x.h → RStp r σ σ' → K (cv x.ml x.me v) σ') : ACall (Env.th Tryd.prog T) 64 [.ptr r 0] σ K := by
  refine ACall.of_compF hmx (fun a w => Tryd.call64 a w) Tryd.func64 cf64 (n := 1) (by decide) rfl ?_
  have hrl : r < σ.next := by obtain ⟨_, _, _, _, h⟩ := h; exact h
  have hcl : ∀ x, c = some x → x < σ.next := fun x hx => by obtain ⟨_, _, h, _, _⟩ := h; exact h.lt hx
  simp [ac64, rs64, lk_cons]
  obtain ⟨S, hS⟩ : ∃ S : St, S = ⟨σ.mem.set σ.next (.cells 3 [u64 0, u64 0, .nilsl]), σ.next + 1⟩ := ⟨_, rfl⟩
  have gS : Grow σ S := ⟨by rw [hS]; exact Nat.le_succ _, fun a ha => by rw [hS]; simp [show ¬ a = σ.next by omega]⟩
  have nS : S.next = σ.next + 1 := by rw [hS]
  have mS : S.mem.get σ.next = some (.cells 3 [u64 0, u64 0, .nilsl]) := by rw [hS]; simp
  have er : ¬ σ.next = r := by omega
  rw [← hS]
  have bad0 : ∀ e, pCu0 l = .error e → pCu l = .error e := fun e he => by rw [pCu, pB_err he]
  refine ru64_c (h.grow gS) (by omega) (fun e he => hT e S (bad0 e (by rw [pCu0]; exact pB_err he)) (gS.rstp r)) fun nl l1 σ1 h1 h2 h3 => ?_
  have q1 := (pNum_len h1).1
  simp [lk_cons]
  refine ru64_c h2 (by omega) (fun e he => hT e σ1 (bad0 e (by rw [pCu0, pB_ok h1]; exact pB_err he)) ((gS.rstp r).trans h3)) fun ne l2 σ2 k1 k2 k3 => ?_
  have q2 := (pNum_len k1).1
  have s2 := ((gS.rstp r).trans h3).trans k3
  have n2 := (h3.trans k3).next
  have m2 := ((h3.trans k3).keep σ.next (by omega) er).trans mS
  have hr2 : pCu0 l = pB (pNum 2) (fun n => pB (pMany pHd n) fun h => pR ⟨(nl : Int), (ne : Int), h⟩) l2 := by rw [pCu0, pB_ok h1, pB_ok k1]
  simp [lk_cons, fillL, storeL]
  obtain ⟨S2, hS2⟩ : ∃ S2 : St, S2 = ⟨(σ2.mem.set σ2.next (.cells 3 [.int .u64 0, .int .u64 0, .nilsl])).set σ2.next (.cells 3 [.int .u64 (nl : Int), .int .u64 (ne : Int), .nilsl]), σ2.next + 1⟩ := ⟨_, rfl⟩
  have gS2 : Grow σ2 S2 := ⟨by rw [hS2]; exact Nat.le_succ _, fun a ha => by rw [hS2]; simp [show ¬ a = σ2.next by omega]⟩
  have nS2 : S2.next = σ2.next + 1 := by rw [hS2]
  have mS2 : S2.mem.get σ2.next = some (.cells 3 [u64 (nl : Int), u64 (ne : Int), .nilsl]) := by rw [hS2]; simp
  have sS2 := s2.trans (gS2.rstp r)
  obtain ⟨B, hB⟩ : ∃ B, σ2.next = B := ⟨_, rfl⟩
  rw [← hS2]
  refine ru16_c (k2.grow gS2) (by omega) (fun e he => hT e S2 (bad0 e (by rw [hr2]; exact pB_err he)) sS2) fun N l3 σ3 u1 u2 u3 => ?_
  have q3 := (pNum_len u1).1
  have hN := (pNum_len u1).2
  have s3 := sS2.trans u3
  have n3 := u3.next
  have hr3 : pCu0 l = pB (pMany pHd N) (fun h => pR ⟨(nl : Int), (ne : Int), h⟩) l3 := by rw [hr2, pB_ok u1]
  have mA3 := (u3.keep σ.next (by omega) er).trans ((gS2.2 _ (by omega)).trans m2)
  have mB3 := (u3.keep σ2.next (by omega) (by omega)).trans mS2
  simp [lk_cons]
  rw [hB] at mB3
  rw [hB]
  refine wp_loop (TkJ (pCu0 l) r σ.next B c (nl : Int) (ne : Int) N σ) N ?_ ?_
  · exact ⟨0, l3, [], .nilsl, rfl, Nat.zero_le _, rfl, u2, by omega, by simp, ⟨by omega, fun a ha hr => s3.keep a ha hr⟩, mA3, mB3, .inl ⟨rfl, rfl⟩, hr3, by simp [lk_cons]⟩
  rintro mm rg σ4 ⟨i, l4, acc, ov, rfl, hi, hacc, h4, hl4, hxs, ⟨n4, k4⟩, mA4, mB4, ho4, hr4, rfl⟩
  have s4 : RStp r σ σ4 := ⟨by omega, k4⟩
  by_cases hlt : i < N
  · have hlt' : (i : Int) < N := by omega
    have w1 : IntKind.u16.wrap ((i : Int) + 1) = ((i + 1 : Nat) : Int) := by rw [IntWalk.u16_in] <;> omega
    obtain ⟨j0, hj0⟩ : ∃ j, N - i = j + 1 := ⟨N - i - 1, by omega⟩
    rw [hj0, pMany_step, pHd, pB_assoc] at hr4
    simp [lk_cons, hlt, hlt']
    refine ru64_c h4 (by omega) (fun e he => hT e σ4 (bad0 e (by rw [hr4]; exact pB_err he)) s4) fun L l5 σ5 v1 v2 v3 => ?_
    have q5 := (pNum_len v1).1
    have n5 := v3.next
    rw [pB_ok v1, pB_assoc] at hr4
    simp [lk_cons, fillL, storeL]
    obtain ⟨S5, hS5⟩ : ∃ S5 : St, S5 = ⟨(σ5.mem.set σ5.next (.cells 2 [.int .u64 0, .nilsl])).set σ5.next (.cells 2 [.int .u64 (L : Int), .nilsl]), σ5.next + 1⟩ := ⟨_, rfl⟩
    have gS5 : Grow σ5 S5 := ⟨by rw [hS5]; exact Nat.le_succ _, fun a ha => by rw [hS5]; simp [show ¬ a = σ5.next by omega]⟩
    have nS5 : S5.next = σ5.next + 1 := by rw [hS5]
    have mS5 : S5.mem.get σ5.next = some (.cells 2 [u64 (L : Int), .nilsl]) := by rw [hS5]; simp
    have s5 := (s4.trans v3).trans (gS5.rstp r)
    rw [← hS5]
    refine ru16_c (v2.grow gS5) (by omega) (fun e he => hT e S5 (bad0 e (by rw [hr4]; exact pB_err he)) s5) fun M l6 σ6 x1 x2 x3 => ?_
    have q6 := (pNum_len x1).1
    have hM := (pNum_len x1).2
    have n6 := x3.next
    have s6 := s5.trans x3
    rw [pB_ok x1, pB_assoc] at hr4
    have m6 := (x3.keep σ5.next (by omega) (by omega)).trans mS5
    have k46 : ∀ a, a < σ4.next → a ≠ r → σ6.mem.get a = σ4.mem.get a := fun a ha hr => (x3.keep a (by omega) hr).trans ((gS5.2 a (by omega)).trans (v3.keep a ha hr))
    obtain ⟨H, hH⟩ : ∃ H, σ5.next = H := ⟨_, rfl⟩
    rw [hH] at m6
    simp [lk_cons]
    rw [hH]
    refine wp_loop (TlJ (pCu0 l) (fun rs => pB (pMany pHd j0) fun hs => pR ⟨(nl : Int), (ne : Int), acc ++ (⟨(L : Int), rs⟩ : Hd) :: hs⟩) r σ.next B H c (L : Int) N i M σ6) M ?_ ?_
    · exact ⟨0, l6, [], .nilsl, rfl, Nat.zero_le _, rfl, x2, by omega, ⟨Nat.le_refl _, fun _ _ _ _ => rfl⟩, m6, .inl ⟨rfl, rfl⟩, hr4, by simp [lk_cons]⟩
    rintro mm rg σ7 ⟨j, l7, rs, rv, rfl, hj, hrs, h7, hl7, ⟨n7, k7⟩, mH7, ho7, hr7, rfl⟩
    have s7 : RStp r σ σ7 := ⟨by omega, fun a ha hr => (k7 a (by omega) hr (by omega)).trans (s6.keep a ha hr)⟩
    by_cases hjl : j < M
    · have hjl' : (j : Int) < M := by omega
      have w2 : IntKind.u16.wrap ((j : Int) + 1) = ((j + 1 : Nat) : Int) := by rw [IntWalk.u16_in] <;> omega
      obtain ⟨j1, hj1⟩ : ∃ k, M - j = k + 1 := ⟨M - j - 1, by omega⟩
      rw [hj1, pMany_step, pRg, pB_assoc] at hr7
      have hHr : ¬ H = r := by omega
      simp [lk_cons, hjl, hjl', mH7]
      refine ru64_c h7 (by omega) (fun e he => hT e σ7 (bad0 e (by rw [hr7]; exact pB_err he)) s7) fun za l8 σ8 y1 y2 y3 => ?_
      have q8 := (pNum_len y1).1
      rw [pB_ok y1, pB_assoc] at hr7
      have m8 := (y3.keep H (by omega) hHr).trans mH7
      simp [lk_cons, m8]
      refine ru64_c y2 (by omega) (fun e he => hT e σ8 (bad0 e (by rw [hr7]; exact pB_err he)) (s7.trans y3)) fun zb l9 σ9 z1 z2 z3 => ?_
      have q9 := (pNum_len z1).1
      rw [pB_ok z1] at hr7
      have t9 := y3.trans z3
      have n9 := t9.next
      have m9 := (z3.keep H (by have := y3.next; omega) hHr).trans m8
      have ho9 : Out σ6.next σ9 rv rs := ho7.frame n9 fun a ha hb => t9.keep a hb (by omega)
      obtain ⟨SA, hSA⟩ : ∃ SA : St, SA = ⟨σ9.mem.set σ9.next (.cells 2 [u64 (za : Int), u64 (zb : Int)]), σ9.next + 1⟩ := ⟨_, rfl⟩
      have nSA : SA.next = σ9.next + 1 := by rw [hSA]
      have kSA : ∀ a, a < σ9.next → SA.mem.get a = σ9.mem.get a := fun a ha => by rw [hSA]; simp [show ¬ a = σ9.next by omega]
      obtain ⟨w, σb, e1, e2, e3, e4⟩ := out_app (ho9.frame (σ' := SA) (by omega) fun a _ ha => kSA a ha) (by omega) (b := σ9.next) (x := (za : Int)) (y := (zb : Int)) (by rw [hSA]; simp) (by omega)
      rw [hSA] at e1
      have mb : σb.mem.get H = some (.cells 2 [u64 (L : Int), rv]) := (e4 H (by omega)).trans ((kSA H (by omega)).trans m9)
      have ow := e2.one
      simp [lk_cons, m9, fillL, repL, storeL, ↓e1, mb, ow, w2]
      have kB : ∀ a, a < σ6.next → a ≠ H → (σb.mem.set H (.cells 2 [u64 (L : Int), w])).get a = σ9.mem.get a := fun a ha hne => by
        simp [hne]
        exact (e4 a ha).trans (kSA a (by omega))
      refine ⟨M - (j + 1), by omega, j + 1, l9, rs ++ [⟨(za : Int), (zb : Int)⟩], w, rfl, by omega, by simp [hrs], ?_, by omega, ⟨by show σ6.next ≤ σb.next; omega, fun a ha h1 h2 => ?_⟩, by simp, ?_, ?_, rfl⟩
      · refine z2.keep (by show σ9.next ≤ σb.next; omega) fun a ha hac => kB a ?_ ?_
        · rcases hac with rfl | hac
          · omega
          · have := hcl a hac; omega
        · rcases hac with rfl | hac
          · omega
          · have := hcl a hac; omega
      · rw [kB a ha h2, t9.keep a (by omega) h1]
        exact k7 a ha h1 h2
      · refine e2.frame (Nat.le_refl _) fun a ha hb => ?_
        simp [show ¬ a = H by omega]
      · rw [hr7, show M - (j + 1) = j1 by omega]
        simp [pB_pR]
        rfl
    have : j = M := by omega
    subst this
    rw [Nat.sub_self] at hr7
    have hr7 : pCu0 l = pB (pMany pHd j0) (fun hs => pR ⟨(nl : Int), (ne : Int), acc ++ (⟨(L : Int), rs⟩ : Hd) :: hs⟩) l7 := by rw [hr7]; simp [pMany, pB_pR]
    have mB7 : σ7.mem.get B = some (.cells 3 [u64 (nl : Int), u64 (ne : Int), ov]) := (k7 B (by omega) (by omega) (by omega)).trans ((k46 B (by omega) (by omega)).trans mB4)
    have k47 : ∀ a, a < σ4.next → a ≠ r → σ7.mem.get a = σ4.mem.get a := fun a ha hr => (k7 a (by omega) hr (by omega)).trans (k46 a ha hr)
    have orv := ho7.one
    obtain ⟨SA, hSA⟩ : ∃ SA : St, SA = ⟨σ7.mem.set σ7.next (.cells 2 [u64 (L : Int), rv]), σ7.next + 1⟩ := ⟨_, rfl⟩
    have nSA : SA.next = σ7.next + 1 := by rw [hSA]
    have kSA : ∀ a, a < σ7.next → SA.mem.get a = σ7.mem.get a := fun a ha => by rw [hSA]; simp [show ¬ a = σ7.next by omega]
    obtain ⟨w, σb, e1, e2, e3, e4⟩ := hout_app ho4 (ρ := SA) (by omega) (fun a ha hb => (kSA a (by omega)).trans (k47 a hb (by omega))) (by omega) (b := σ7.next) (L := (L : Int)) (rv := rv) (r := rs) (by rw [hSA]; simp) (ho7.rgn (by omega) (by omega) fun a _ ha => kSA a ha) (by omega)
    rw [hSA] at e1
    have mb : σb.mem.get B = some (.cells 3 [u64 (nl : Int), u64 (ne : Int), ov]) := (e4 B (by omega) (.inl (by omega))).trans ((kSA B (by omega)).trans mB7)
    have ow := e2.one
    have eH : ¬ H = σ7.next := by omega
    have eB : ¬ B = σ7.next := by omega
    simp [lk_cons, mB7, mH7, fillL, repL, storeL, ↓e1, mb, ow, orv, w1]
    have kB : ∀ a, a < B → (σb.mem.set B (.cells 3 [u64 (nl : Int), u64 (ne : Int), w])).get a = σ7.mem.get a := fun a ha => by
      simp [show ¬ a = B by omega]
      exact (e4 a (by omega) (.inl (by omega))).trans (kSA a (by omega))
    refine ⟨N - (i + 1), by omega, i + 1, l7, acc ++ [⟨(L : Int), rs⟩], w, rfl, by omega, by simp [hacc], ?_, by omega, ?_, ⟨by show B + 1 ≤ σb.next; omega, fun a ha hr => ?_⟩, ?_, by simp, ?_, ?_, rfl⟩
    · refine h7.keep (by show σ7.next ≤ σb.next; omega) fun a ha hac => kB a ?_
      rcases hac with rfl | hac
      · omega
      · have := hcl a hac; omega
    · intro x hx
      rcases List.mem_append.1 hx with hx | hx
      · exact hxs x hx
      · simp at hx; subst hx; simp only; omega
    · rw [kB a (by omega), k47 a (by omega) hr]
      exact k4 a ha hr
    · rw [kB σ.next (by omega), k47 σ.next (by omega) er]
      exact mA4
    · refine e2.frame (Nat.le_refl _) fun a ha hb => ?_
      simp [show ¬ a = B by omega]
    · rw [hr7, show N - (i + 1) = j0 by omega]
      simp
  have : i = N := by omega
  subst this
  rw [Nat.sub_self] at hr4
  have hr4 : pCu0 l = .ok (⟨(nl : Int), (ne : Int), acc⟩, l4) := by rw [hr4]; simp [pMany, pB_pR, pR]
  have hfew : HFew acc := ⟨by omega, fun x hx => by have := hxs x hx; omega⟩
  have ow := ho4.one
  simp [lk_cons, mB4]
  refine ACall.into (ccheck_g (.inr ⟨B + 1, ho4⟩) hfew _ _ _ fun b hb => ?_)
  cases b with
  | false =>
    have hc : cuOkB nl ne acc = false := by
      cases hq : cuOkB nl ne acc with
      | false => rfl
      | true => exact absurd (hb.2 ((cuOkB_iff _ _ _).1 hq)) (by simp)
    simp [lk_cons]
    refine fail_c (fun _ => hT 23 σ4 (by rw [pCu, pB_ok hr4]; simp [hc]) s4) fun e => by cases e
  | true =>
    have hc : cuOkB nl ne acc = true := (cuOkB_iff _ _ _).2 (hb.1 rfl)
    simp [lk_cons, mB4, mA4, storeL, ow]
    have hAB : σ.next ≤ B := by omega
    refine hK ⟨(nl : Int), (ne : Int), acc⟩ l4 ov _ (by rw [pCu, pB_ok hr4]; simp [hc]) (h4.keep (Nat.le_refl _) fun a ha hac => ?_) (HOut.mono (lo := B + 1) (lo' := σ.next) (ho4.frame (Nat.le_refl _) fun a ha hb => ?_) (by omega)) hfew ⟨by show σ.next ≤ σ4.next; omega, fun a ha hr => ?_⟩
    · have : a ≠ σ.next := by
        rcases hac with rfl | hac
        · omega
        · have := hcl a hac; omega
      simp [this]
    · simp [show ¬ a = σ.next by omega]
    · simp [show ¬ a = σ.next by omega]
      exact k4 a ha hr
end Go.Proofs.YticefdfhcahlfaaDoor.AM

namespace Go.Proofs.YticefdfhcahlfaaDoor.AM
open Go.RowKit
set_option maxRecDepth 100000
set_option linter.unusedVariables false
set_option linter.unusedSimpArgs false
def Rd (k : Nat) (σ : St) (v : AVal) (n : Nat) (cs : List AVal) : Prop := cs.length = n * k ∧ (v = .nilsl ∧ n = 0 ∨ (∃ t, v = .isl cs n t) ∨ ∃ o c t, v = .sl o 0 n c t ∧ o < σ.next ∧ σ.mem.get o = some (.cells k cs))
theorem Rd.len {k : Nat} {σ : St} {v : AVal} {n : Nat} {cs : List AVal} (h : Rd k σ v n cs) (ρ : St) : evalV ρ (.len 1 v) = some (i64 n, ρ) := by
  rcases h with ⟨_, ⟨rfl, rfl⟩ | ⟨t, rfl⟩ | ⟨o, c, t, rfl, _⟩⟩ <;> simp
theorem Rd.one {k : Nat} {σ : St} {v : AVal} {n : Nat} {cs : List AVal} (h : Rd k σ v n cs) : v.one = true ∧ cellsOf v = [v] := by
  rcases h with ⟨_, ⟨rfl, rfl⟩ | ⟨t, rfl⟩ | ⟨o, c, t, rfl, _⟩⟩ <;> simp
theorem Rd.frame {k : Nat} {σ σ' : St} {v : AVal} {n : Nat} {cs : List AVal} (h : Rd k σ v n cs) (hn : σ.next ≤ σ'.next) (hm : ∀ a, a < σ.next → σ'.mem.get a = σ.mem.get a) : Rd k σ' v n cs := by
  rcases h with ⟨h0, h | h | ⟨o, c, t, h1, h2, h3⟩⟩
  · exact ⟨h0, .inl h⟩
  · exact ⟨h0, .inr (.inl h)⟩
  · exact ⟨h0, .inr (.inr ⟨o, c, t, h1, by omega, (hm o h2).trans h3⟩)⟩
theorem Rd.at {k : Nat} {σ : St} {v : AVal} {n : Nat} {cs : List AVal} (h : Rd k σ v n cs) {i : Nat} (hi : i < n) {ρ : St} (hm : ∀ a, a < σ.next → ρ.mem.get a = σ.mem.get a) :
    ∃ p, evalV ρ (.idxAddr k v (i64 i)) = some (p, ρ) ∧ evalV ρ (.ldn k p) = some (.agg ((cs.drop (i * k)).take k), ρ) ∧ ∀ f m, f + m ≤ k → ∃ q, evalV ρ (.fieldAddr f p) = some (q, ρ) ∧ evalV ρ (.ldn m q) = some (.agg ((cs.drop (i * k + f)).take m), ρ) ∧ ∀ x, 0 < m → cs[i * k + f]? = some x → evalV ρ (.ld1 q) = some (x, ρ) := by
  rcases h with ⟨h0, ⟨rfl, rfl⟩ | ⟨t, rfl⟩ | ⟨o, c, t, rfl, h2, h3⟩⟩
  · omega
  · have hik : i * k + k ≤ cs.length := by
      have : (i + 1) * k ≤ n * k := Nat.mul_le_mul_right k (by omega)
      rw [Nat.succ_mul] at this; omega
    have hln : ((cs.drop (i * k)).take k).length = k := by rw [List.length_take, List.length_drop]; omega
    refine ⟨.iptr ((cs.drop (i * k)).take k), by simp [hi], ?_, fun f m hf => ⟨.iptr (((cs.drop (i * k)).take k).drop f), by simp, ?_, fun x h1 hx => ?_⟩⟩
    · simp only [evalV, loadL, hln, Nat.le_refl, if_true, Option.map_some]
      rw [List.take_of_length_le (by omega)]
    · have hl2 : m ≤ (((cs.drop (i * k)).take k).drop f).length := by rw [List.length_drop, hln]; omega
      have e : (((cs.drop (i * k)).take k).drop f).take m = (cs.drop (i * k + f)).take m := by
        rw [List.drop_take, List.drop_drop, List.take_take, Nat.min_eq_left (by omega)]
      simp only [evalV, loadL, hl2, if_true, Option.map_some, e]
    · have e : (((cs.drop (i * k)).take k).drop f)[0]? = some x := by
        rw [List.drop_take, List.drop_drop, List.getElem?_take, if_pos (by omega), List.getElem?_drop, Nat.add_zero]; exact hx
      simp only [evalV, load1, e, Option.map_some]
  · have hik : i * k + k ≤ cs.length := by
      have : (i + 1) * k ≤ n * k := Nat.mul_le_mul_right k (by omega)
      rw [Nat.succ_mul] at this; omega
    have ga := (hm o h2).trans h3
    refine ⟨.ptr o (i * k), by simp [hi], ?_, fun f m hf => ⟨.ptr o (i * k + f), by simp, ?_, fun x h1 hx => ?_⟩⟩
    · simp only [evalV, loadL, ga, hik, if_true, Option.map_some]
    · have hl2 : i * k + f + m ≤ cs.length := by omega
      simp only [evalV, loadL, ga, hl2, if_true, Option.map_some]
    · simp only [evalV, load1, ga, hx, Option.map_some]
theorem ldc_take : ∀ {t : List Ld} {i : Nat} {x : Ld}, t[i]? = some x → ((ldc t).drop (i * 3)).take 3 = [u64 x.f0, .bool x.f1, u64 x.f2] ∧ (ldc t)[i * 3]? = some (u64 x.f0) ∧ (ldc t)[i * 3 + 1]? = some (.bool x.f1) ∧ (ldc t)[i * 3 + 2]? = some (u64 x.f2)
  | y :: t, 0, x, h => by simp at h; subst h; simp [ldc]
  | y :: t, i + 1, x, h => by
    have ih := ldc_take (t := t) (i := i) (x := x) (by simpa using h)
    rw [show (i + 1) * 3 = i * 3 + 1 + 1 + 1 by omega]
    simpa [ldc] using ih
  | [], _, _, h => by simp at h
def ldCond (t : List Ld) (i : Nat) : Prop := ∀ x, t[i]? = some x → x.f0 ≠ 0 ∧ x.f2 ≤ 1048576 ∧ (∀ y, 0 < i → t[i - 1]? = some y → y.f0 < x.f0) ∧ (x.f1 = false → x.f2 = 0 ∧ i + 1 = t.length)
def ldOk (t : List Ld) : Prop := t.length ≤ 64 ∧ ∀ i, i < t.length → ldCond t i
theorem ldOk_step {t : List Ld} {i : Nat} (hh : ∀ j, j < i → ldCond t j) (hi : ldCond t i) : ∀ j, j < i + 1 → ldCond t j := fun j hj => by
  by_cases e : j = i
  · rw [e]; exact hi
  · exact hh j (by omega)
theorem no_of {P : Prop} (hp : ¬ P) : false = true ↔ P := ⟨fun e => by simp at e, fun e => absurd e hp⟩
def LcJ (v : AVal) (t : List Ld) (σ0 : St) (mm : Nat) (rg : Regs) (σ' : St) : Prop := ∃ i : Nat, mm = t.length - i ∧ i ≤ t.length ∧ Grow σ0 σ' ∧ (∀ j, j < i → ldCond t j) ∧ rg = [(0, v), (8, v), (9, i64 t.length), (10, i64 i)]
set_option maxHeartbeats 2000000 in
theorem ldcheck_g {σ : St} {v : AVal} {t : List Ld} (hv : Rd 3 σ v t.length (ldc t)) (hl : t.length ≤ 1000000) (hp : ∀ x ∈ t, 0 ≤ x.f2) (Q : AVal → St → Prop) (h : ∀ b, (b = true ↔ ldOk t) → Q (.bool b) σ) : ACall Tryd.prog 75 [v] σ Q := by
  refine ACall.scrub ?_
  refine ACall.of_compF hmx (fun a w => Tryd.call75 a w) Tryd.func75 cf75 (n := 1) (by decide) rfl ?_
  have l1 := hv.len
  by_cases h64 : 64 < t.length
  · have h64' : (64 : Int) < t.length := by omega
    simp [ac75, rs75, lk_cons, ↓l1, h64, h64']
    exact ⟨fun a ha => rfl, h false (no_of fun e => by have := e.1; omega)⟩
  have h64' : ¬ (64 : Int) < t.length := by omega
  simp [ac75, rs75, lk_cons, ↓l1, h64, h64']
  refine wp_loop (LcJ v t σ) t.length ?_ ?_
  · exact ⟨0, rfl, Nat.zero_le _, Grow.refl _, by omega, rfl⟩
  · rintro mm rg σ' ⟨i, rfl, hi, hg, hall, rfl⟩
    by_cases hlt : i < t.length
    · obtain ⟨x, hx⟩ : ∃ x, t[i]? = some x := ⟨_, List.getElem?_eq_getElem hlt⟩
      obtain ⟨k, hk⟩ : ∃ k, i + 1 = k := ⟨_, rfl⟩
      have w1 : IntKind.i64.wrap ((i : Int) + 1) = (k : Int) := by rw [IntWalk.i64_in] <;> omega
      obtain ⟨p, p1, p2, _⟩ := hv.at hlt (ρ := σ') hg.2
      rw [(ldc_take hx).1] at p2
      have hg1 := hg.1
      have hx2 := hp x (List.mem_of_getElem? hx)
      have gr : ∀ b0 b1 : Blk, Grow σ ⟨(σ'.mem.set σ'.next b0).set σ'.next b1, σ'.next + 1⟩ := fun b0 b1 => ⟨by simp; omega, fun a ha => by simp [show ¬ a = σ'.next by omega]; exact hg.2 a ha⟩
      have bad : ∀ (b0 b1 : Blk), ¬ ldCond t i → (∀ a, a < σ.next → ((σ'.mem.set σ'.next b0).set σ'.next b1).get a = σ.mem.get a) ∧ Q (.bool false) σ := fun b0 b1 hc => ⟨fun a ha => (gr b0 b1).2 a ha, h false (no_of fun e => hc (e.2 i hlt))⟩
      by_cases c1 : x.f0 = 0
      · simp [lk_cons, hlt, ↓p1, ↓p2, storeL, c1]
        exact ⟨fun a ha => (gr _ _).2 a ha, h false (no_of fun e => (e.2 i hlt x hx).1 c1)⟩
      by_cases c2 : 1048576 < x.f2
      · simp [lk_cons, hlt, ↓p1, ↓p2, storeL, c1, c2]
        exact ⟨fun a ha => (gr _ _).2 a ha, h false (no_of fun e => by have := (e.2 i hlt x hx).2.1; omega)⟩
      have ws : IntKind.i64.wrap ((t.length : Int) - 1) = (t.length : Int) - 1 := by rw [IntWalk.i64_in] <;> omega
      have last : ∀ (hc : ∀ y, 0 < i → t[i - 1]? = some y → y.f0 < x.f0), (x.f1 = false ∧ 0 < x.f2) ∨ (x.f1 = false ∧ ¬ 0 < x.f2 ∧ (i : Int) < (t.length : Int) - 1) ∨ (x.f1 = false ∧ ¬ 0 < x.f2 ∧ ¬ (i : Int) < (t.length : Int) - 1 ∧ ldCond t i) ∨ (x.f1 = true ∧ ldCond t i) := fun hc => by
        have mk : (x.f1 = false → x.f2 = 0 ∧ i + 1 = t.length) → ldCond t i := fun hd x' hx' => by
          rw [hx] at hx'; cases hx'
          exact ⟨c1, by omega, hc, hd⟩
        cases hx1 : x.f1 with
        | true => exact .inr (.inr (.inr ⟨rfl, mk fun e => by rw [hx1] at e; cases e⟩))
        | false =>
          by_cases hz : 0 < x.f2
          · exact .inl ⟨rfl, hz⟩
          by_cases hz2 : (i : Int) < (t.length : Int) - 1
          · exact .inr (.inl ⟨rfl, hz, hz2⟩)
          · exact .inr (.inr (.inl ⟨rfl, hz, hz2, mk fun _ => ⟨by omega, by omega⟩⟩))
      have fin : ldCond t i → ∀ b0 b1 : Blk, ∃ m', m' < t.length - i ∧ LcJ v t σ m' [(0, v), (8, v), (9, i64 t.length), (10, i64 k)] ⟨(σ'.mem.set σ'.next b0).set σ'.next b1, σ'.next + 1⟩ := fun hc b0 b1 =>
        ⟨t.length - k, by omega, k, rfl, by omega, gr b0 b1, by rw [← hk]; exact ldOk_step hall hc, rfl⟩
      by_cases hi0 : i = 0
      · have hi1 : ¬ 0 < i := by omega
        rcases last fun y h0 => absurd h0 hi1 with ⟨e1, e2⟩ | ⟨e1, e2, e3⟩ | ⟨e1, e2, e3, hc⟩ | ⟨e1, hc⟩
        · simp [lk_cons, hlt, ↓p1, ↓p2, storeL, c1, c2, hi1, e1, e2]
          exact ⟨fun a ha => (gr _ _).2 a ha, h false (no_of fun e => by have := ((e.2 i hlt x hx).2.2.2 e1).1; omega)⟩
        · simp [lk_cons, hlt, ↓p1, ↓p2, storeL, c1, c2, hi1, e1, e2, e3, ↓l1, ws]
          exact ⟨fun a ha => (gr _ _).2 a ha, h false (no_of fun e => by have := ((e.2 i hlt x hx).2.2.2 e1).2; omega)⟩
        · simp [lk_cons, hlt, ↓p1, ↓p2, storeL, c1, c2, hi1, e1, e2, e3, ↓l1, ws, w1]
          exact fin hc _ _
        · simp [lk_cons, hlt, ↓p1, ↓p2, storeL, c1, c2, hi1, e1, w1]
          exact fin hc _ _
      · obtain ⟨j, hj⟩ : ∃ j, j + 1 = i := ⟨i - 1, by omega⟩
        obtain ⟨y, hy⟩ : ∃ y, t[j]? = some y := ⟨_, List.getElem?_eq_getElem (by omega)⟩
        have w2 : IntKind.i64.wrap ((i : Int) - 1) = (j : Int) := by rw [IntWalk.i64_in] <;> omega
        have hi1 : 0 < i := by omega
        have hji : i - 1 = j := by omega
        obtain ⟨q, q1, _, q2⟩ := hv.at (show j < t.length by omega) (ρ := ⟨(σ'.mem.set σ'.next (.cells 3 [.int .u64 0, .bool false, .int .u64 0])).set σ'.next (.cells 3 [u64 x.f0, .bool x.f1, u64 x.f2]), σ'.next + 1⟩) (gr _ _).2
        obtain ⟨r, r1, _, r2⟩ := q2 0 1 (by decide)
        have r2 := r2 _ (by decide) (ldc_take hy).2.1
        by_cases c3 : x.f0 ≤ y.f0
        · simp [lk_cons, hlt, ↓p1, ↓p2, storeL, c1, c2, hi1, w2, ↓q1, ↓r1, ↓r2, c3]
          exact ⟨fun a ha => (gr _ _).2 a ha, h false (no_of fun e => by have := (e.2 i hlt x hx).2.2.1 y hi1 (by rw [hji]; exact hy); omega)⟩
        rcases last fun z _ hz => (by rw [hji, hy] at hz; cases hz; omega) with ⟨e1, e2⟩ | ⟨e1, e2, e3⟩ | ⟨e1, e2, e3, hc⟩ | ⟨e1, hc⟩ <;> rw [e1] at p2 q1 r1 r2
        · simp [lk_cons, hlt, ↓p1, ↓p2, storeL, c1, c2, hi1, w2, ↓q1, ↓r1, ↓r2, c3, e2]
          exact ⟨fun a ha => (gr _ _).2 a ha, h false (no_of fun e => by have := ((e.2 i hlt x hx).2.2.2 e1).1; omega)⟩
        · simp [lk_cons, hlt, ↓p1, ↓p2, storeL, c1, c2, hi1, w2, ↓q1, ↓r1, ↓r2, c3, e2, e3, ↓l1, ws]
          exact ⟨fun a ha => (gr _ _).2 a ha, h false (no_of fun e => by have := ((e.2 i hlt x hx).2.2.2 e1).2; omega)⟩
        · simp [lk_cons, hlt, ↓p1, ↓p2, storeL, c1, c2, hi1, w2, ↓q1, ↓r1, ↓r2, c3, e2, e3, ↓l1, ws, w1]
          exact fin hc _ _
        · simp [lk_cons, hlt, ↓p1, ↓p2, storeL, c1, c2, hi1, w2, ↓q1, ↓r1, ↓r2, c3, w1]
          exact fin hc _ _
    · have : i = t.length := by omega
      subst this
      simp [lk_cons]
      exact ⟨fun a ha => hg.2 a ha, h true ⟨fun _ => ⟨by omega, hall⟩, fun _ => rfl⟩⟩
end Go.Proofs.YticefdfhcahlfaaDoor.AM


namespace Go.Proofs.YticefdfhcahlfaaDoor.AM
open Go.RowKit
set_option maxRecDepth 100000
set_option linter.unusedVariables false
set_option linter.unusedSimpArgs false
structure SbV where
  name : ByteArray
  kind : Nat
  ml : Int
  me : Int
  h : List Hd
def sbA (x : SbV) (hv : AVal) : List AVal := [.str x.name, .int .u8 (x.kind : Int), u64 x.ml, u64 x.me, hv]
def SbC (σ : St) : List AVal → List SbV → Prop
  | [], [] => True
  | a :: b :: c :: d :: e :: cs, x :: xs => (a = .str x.name ∧ b = .int .u8 (x.kind : Int) ∧ c = u64 x.ml ∧ d = u64 x.me ∧ HR σ e x.h) ∧ SbC σ cs xs
  | _, _ => False
theorem SbC.len {σ : St} : ∀ {cs : List AVal} {xs : List SbV}, SbC σ cs xs → cs.length = xs.length * 5
  | [], [], _ => rfl
  | a :: b :: c :: d :: e :: cs, x :: xs, h => by simp [h.2.len]; omega
  | [], _ :: _, h => h.elim
  | [_], _, h => by cases ‹List SbV› <;> exact h.elim
  | [_, _], _, h => by cases ‹List SbV› <;> exact h.elim
  | [_, _, _], _, h => by cases ‹List SbV› <;> exact h.elim
  | [_, _, _, _], _, h => by cases ‹List SbV› <;> exact h.elim
  | _ :: _ :: _ :: _ :: _ :: _, [], h => h.elim
theorem SbC.get {σ : St} : ∀ {cs : List AVal} {xs : List SbV} {i : Nat} {x : SbV}, SbC σ cs xs → xs[i]? = some x → ∃ hv, HR σ hv x.h ∧ (cs.drop (i * 5)).take 5 = sbA x hv ∧ cs[i * 5]? = some (.str x.name) ∧ cs[i * 5 + 1]? = some (.int .u8 (x.kind : Int)) ∧ (cs.drop (i * 5 + 2)).take 3 = [u64 x.ml, u64 x.me, hv] ∧ (cs.drop (i * 5 + 2)).take 2 = [u64 x.ml, u64 x.me]
  | a :: b :: c :: d :: e :: cs, y :: xs, 0, x, h, hx => by
    simp at hx; subst hx
    obtain ⟨⟨rfl, rfl, rfl, rfl, h5⟩, _⟩ := h
    exact ⟨e, h5, by simp [sbA], by simp, by simp, by simp, by simp⟩
  | a :: b :: c :: d :: e :: cs, y :: xs, i + 1, x, h, hx => by
    obtain ⟨hv, h1, h2, h3, h4, h5, h6⟩ := h.2.get (i := i) (by simpa using hx)
    have e1 : (i + 1) * 5 = i * 5 + 1 + 1 + 1 + 1 + 1 := by omega
    have e2 : (i + 1) * 5 + 2 = (i * 5 + 2) + 1 + 1 + 1 + 1 + 1 := by omega
    have e3 : (i + 1) * 5 + 1 = (i * 5 + 1) + 1 + 1 + 1 + 1 + 1 := by omega
    exact ⟨hv, h1, by rw [e1]; simpa using h2, by rw [e1]; simpa using h3, by rw [e3]; simpa using h4, by rw [e2]; simpa using h5, by rw [e2]; simpa using h6⟩
  | [], [], _, _, _, hx => by simp at hx
  | [], _ :: _, _, _, h, _ => h.elim
  | [_], _, _, _, h, _ => by cases ‹List SbV› <;> exact h.elim
  | [_, _], _, _, _, h, _ => by cases ‹List SbV› <;> exact h.elim
  | [_, _, _], _, _, _, h, _ => by cases ‹List SbV› <;> exact h.elim
  | [_, _, _, _], _, _, _, h, _ => by cases ‹List SbV› <;> exact h.elim
  | _ :: _ :: _ :: _ :: _ :: _, [], _, _, h, _ => h.elim
theorem SbC.frame {σ σ' : St} (hn : σ.next ≤ σ'.next) (hm : ∀ a, a < σ.next → σ'.mem.get a = σ.mem.get a) : ∀ {cs : List AVal} {xs : List SbV}, SbC σ cs xs → SbC σ' cs xs
  | [], [], _ => trivial
  | a :: b :: c :: d :: e :: cs, x :: xs, h => ⟨⟨h.1.1, h.1.2.1, h.1.2.2.1, h.1.2.2.2.1, h.1.2.2.2.2.frame hn hm⟩, SbC.frame hn hm h.2⟩
  | [], _ :: _, h => h.elim
  | [_], _, h => by cases ‹List SbV› <;> exact h.elim
  | [_, _], _, h => by cases ‹List SbV› <;> exact h.elim
  | [_, _, _], _, h => by cases ‹List SbV› <;> exact h.elim
  | [_, _, _, _], _, h => by cases ‹List SbV› <;> exact h.elim
  | _ :: _ :: _ :: _ :: _ :: _, [], h => h.elim
def sbCond (s : List SbV) (i : Nat) : Prop := ∀ x, s[i]? = some x → (1 ≤ x.name.size ∧ x.name.size ≤ 64) ∧ (∀ y, 0 < i → s[i - 1]? = some y → lessB y.name x.name = true) ∧ (1 ≤ x.kind ∧ x.kind ≤ 4) ∧ cuOk x.ml x.me x.h
def tpOk (last : Int) (t : List Ld) (s : List SbV) : Prop := ldOk t ∧ (∀ x, t[t.length - 1]? = some x → x.f0 ≤ last) ∧ s.length ≤ 2 ∧ ∀ i, i < s.length → sbCond s i
theorem sbOk_step {s : List SbV} {i : Nat} (hh : ∀ j, j < i → sbCond s j) (hi : sbCond s i) : ∀ j, j < i + 1 → sbCond s j := fun j hj => by
  by_cases e : j = i
  · rw [e]; exact hi
  · exact hh j (by omega)
structure TpR (σ : St) (lv sv : AVal) (t : List Ld) (s : List SbV) (cs : List AVal) : Prop where
  rl : Rd 3 σ lv t.length (ldc t)
  rs : Rd 5 σ sv s.length cs
  rc : SbC σ cs s
structure TFew (t : List Ld) (s : List SbV) : Prop where
  fl : t.length ≤ 1000000
  fp : ∀ x ∈ t, 0 ≤ x.f2
  fs : s.length ≤ 1000000
  fh : ∀ x ∈ s, HFew x.h
theorem strGeq (a b : ByteArray) : abinS .geq a b = some (.bool (!lessB a b)) := by simp only [abinS, bLess]
theorem size0 (a : ByteArray) : a = ⟨#[]⟩ ↔ a.size = 0 := by
  constructor
  · rintro rfl; rfl
  · intro h
    cases a with
    | mk d => congr 1; exact Array.eq_empty_of_size_eq_zero h
def KcJ (ev Lv lv sv nv : AVal) (s : List SbV) (σ0 : St) (mm : Nat) (rg : Regs) (σ' : St) : Prop := ∃ i : Nat, mm = s.length - i ∧ i ≤ s.length ∧ σ0.next + 1 ≤ σ'.next ∧ (∀ a, a < σ0.next → σ'.mem.get a = σ0.mem.get a) ∧ σ'.mem.get σ0.next = some (.cells 5 [ev, Lv, lv, sv, nv]) ∧ (∀ j, j < i → sbCond s j) ∧
  rg = [(1, .ptr σ0.next 0), (36, sv), (37, i64 s.length), (38, i64 i)]
set_option maxHeartbeats 4000000 in
theorem tpcheck_g {σ : St} {lv sv nv : AVal} {t : List Ld} {s : List SbV} {cs : List AVal} (hr : TpR σ lv sv t s cs) (hf : TFew t s) (ep last : Int) (hnv : nv.one = true) (Q : AVal → St → Prop) (h : ∀ b, (b = true ↔ tpOk last t s) → Q (.bool b) σ) : ACall Tryd.prog 32 [.agg [u64 ep, u64 last, lv, sv, nv]] σ Q := by
  refine ACall.scrub ?_
  refine ACall.of_compF hmx (fun a w => Tryd.call32 a w) Tryd.func32 cf32 (n := 1) (by decide) rfl ?_
  obtain ⟨o1, o2⟩ := hr.rl.one
  obtain ⟨o3, o4⟩ := hr.rs.one
  have l1 := hr.rl.len
  have l2 := hr.rs.len
  have hfl := hf.fl
  have hfs := hf.fs
  simp [ac32, rs32, lk_cons, o1, o2, o3, o4, hnv]
  obtain ⟨S, hS⟩ : ∃ S : St, S = ⟨σ.mem.set σ.next (.cells 5 [u64 ep, u64 last, lv, sv, nv]), σ.next + 1⟩ := ⟨_, rfl⟩
  have gS : Grow σ S := ⟨by rw [hS]; exact Nat.le_succ _, fun a ha => by rw [hS]; simp [show ¬ a = σ.next by omega]⟩
  have nS : S.next = σ.next + 1 := by rw [hS]
  have mS : S.mem.get σ.next = some (.cells 5 [u64 ep, u64 last, lv, sv, nv]) := by rw [hS]; simp
  rw [← hS]
  have hlS := hr.rl.frame gS.1 gS.2
  refine ldcheck_g hlS hfl hf.fp _ fun b hb => ?_
  have stop : ∀ {P : Prop}, (tpOk last t s → P) → ¬ P → (∀ a, a < σ.next → S.mem.get a = σ.mem.get a) ∧ Q (.bool false) σ := fun hp hn => ⟨gS.2, h false (no_of fun e => hn (hp e))⟩
  cases b with
  | false =>
    simp [lk_cons]
    exact stop (fun e => hb.2 e.1) (by simp)
  | true =>
    have hld := hb.1 rfl
    have ws : IntKind.i64.wrap ((t.length : Int) - 1) = (t.length : Int) - 1 := by rw [IntWalk.i64_in] <;> omega
    have hmid : ((0 < t.length ∧ ∃ x, t[t.length - 1]? = some x ∧ last < x.f0) ∨ t.length = 0 ∨ 0 < t.length ∧ ∃ x, t[t.length - 1]? = some x ∧ ¬ last < x.f0) := by
      by_cases h0 : t.length = 0
      · exact .inr (.inl h0)
      · obtain ⟨x, hx⟩ : ∃ x, t[t.length - 1]? = some x := ⟨_, List.getElem?_eq_getElem (by omega)⟩
        by_cases hc : last < x.f0
        · exact .inl ⟨by omega, x, hx, hc⟩
        · exact .inr (.inr ⟨by omega, x, hx, hc⟩)
    have hlast : ∀ {x : Ld}, t[t.length - 1]? = some x → 0 < t.length → ∃ p q, evalV S (.idxAddr 3 lv (.int .i64 ((t.length : Int) - 1))) = some (p, S) ∧ evalV S (.fieldAddr 0 p) = some (q, S) ∧ evalV S (.ld1 q) = some (u64 x.f0, S) := fun {x} hx h0 => by
      obtain ⟨p, p1, _, pf⟩ := hlS.at (show t.length - 1 < t.length by omega) (ρ := S) fun _ _ => rfl
      obtain ⟨q, q1, _, q2⟩ := pf 0 1 (by decide)
      refine ⟨p, q, ?_, q1, q2 _ (by decide) (ldc_take hx).2.1⟩
      rw [← p1]; congr 2; simp only [i64]; congr 1; omega
    rcases hmid with ⟨h0, x, hx, hc⟩ | hmid
    · have h0' : (0 : Int) < t.length := by omega
      obtain ⟨p, q, p1, p2, p3⟩ := hlast hx h0
      simp [lk_cons, mS, ↓l1, h0, h0', ws, ↓p1, ↓p2, ↓p3, hc]
      exact stop (fun e => e.2.1 x hx) (by omega)
    have hlastok : ∀ x, t[t.length - 1]? = some x → x.f0 ≤ last := fun y hy => by
      rcases hmid with h0 | ⟨_, x, hx, hc⟩
      · have := (List.getElem?_eq_some_iff.1 hy).1; omega
      · rw [hx] at hy; cases hy; omega
    by_cases h2 : 2 < s.length
    · have h2' : (2 : Int) < s.length := by omega
      rcases hmid with h0 | ⟨h0, x, hx, hc⟩
      · have h0' : ¬ 0 < t.length := by omega
        simp [lk_cons, mS, ↓l1, ↓l2, h0, h0', h2, h2']
        exact stop (fun e => e.2.2.1) (by omega)
      · have h0' : (0 : Int) < t.length := by omega
        obtain ⟨p, q, p1, p2, p3⟩ := hlast hx h0
        simp [lk_cons, mS, ↓l1, ↓l2, h0, h0', ws, ↓p1, ↓p2, ↓p3, hc, h2, h2']
        exact stop (fun e => e.2.2.1) (by omega)
    have h2' : ¬ (2 : Int) < s.length := by omega
    rcases hmid with h0 | hmid
    case' inl =>
      simp [lk_cons, mS, ↓l1, ↓l2, h0, h2, h2']
    case' inr =>
      obtain ⟨h0, x, hx, hc⟩ := hmid
      have h0' : (0 : Int) < t.length := by omega
      obtain ⟨p, q, p1, p2, p3⟩ := hlast hx h0
      simp [lk_cons, mS, ↓l1, ↓l2, h0, h0', ws, ↓p1, ↓p2, ↓p3, hc, h2, h2']
    all_goals
      refine wp_loop (KcJ (u64 ep) (u64 last) lv sv nv s σ) s.length ?_ ?_
      · exact ⟨0, rfl, Nat.zero_le _, by omega, gS.2, mS, by omega, by simp [lk_cons]⟩
      rintro mm rg σ1 ⟨i, rfl, hi, hn1, gold, m1, hall, rfl⟩
      have z1 : ¬ σ.next = σ1.next := by omega
      by_cases hlt : i < s.length
      · obtain ⟨x, hx⟩ : ∃ x, s[i]? = some x := ⟨_, List.getElem?_eq_getElem hlt⟩
        obtain ⟨k, hk⟩ : ∃ k, i + 1 = k := ⟨_, rfl⟩
        have w1 : IntKind.i64.wrap ((i : Int) + 1) = (k : Int) := by rw [IntWalk.i64_in] <;> omega
        obtain ⟨p, p1, p2, _⟩ := hr.rs.at hlt (ρ := σ1) gold
        obtain ⟨hv, c1, c2, _, _, _⟩ := hr.rc.get hx
        have c2' := c2
        rw [c2] at p2
        have hv1 := c1.one
        have hxf := hf.fh x (List.mem_of_getElem? hx)
        simp only [sbA] at p2
        have gold2 : ∀ (b0 b1 : Blk) (a : Nat), a < σ.next → (⟨(σ1.mem.set σ1.next b0).set σ1.next b1, σ1.next + 1⟩ : St).mem.get a = σ.mem.get a := fun b0 b1 a ha => by simp [show ¬ a = σ1.next by omega]; exact gold a ha
        have fin : sbCond s i → ∀ b0 b1 : Blk, ∃ mm, mm < s.length - i ∧ KcJ (u64 ep) (u64 last) lv sv nv s σ mm [(1, .ptr σ.next 0), (36, sv), (37, i64 s.length), (38, i64 k)] ⟨(σ1.mem.set σ1.next b0).set σ1.next b1, σ1.next + 1⟩ := fun hc b0 b1 =>
          ⟨s.length - k, by omega, k, rfl, by omega, by show σ.next + 1 ≤ σ1.next + 1; omega, gold2 b0 b1, by simp [z1]; exact m1, by rw [← hk]; exact sbOk_step hall hc, rfl⟩
        have stop2 : ∀ {P : Prop} (b0 b1 : Blk), (sbCond s i → P) → ¬ P → (∀ a, a < σ.next → ((σ1.mem.set σ1.next b0).set σ1.next b1).get a = σ.mem.get a) ∧ Q (.bool false) σ := fun b0 b1 hp hn => ⟨gold2 b0 b1, h false (no_of fun e => hn (hp (e.2.2.2 i hlt)))⟩
        have strE : ∀ a b : ByteArray, abinS .eql a b = some (.bool (decide (a = b))) := strEq
        by_cases e0 : x.name = ⟨#[]⟩
        · simp [lk_cons, hlt, ↓p1, ↓p2, storeL, hv1, strE, e0]
          exact stop2 _ _ (fun e => (e x hx).1.1) (by rw [e0]; decide)
        by_cases e1 : 64 < x.name.size
        · have e1' : (64 : Int) < x.name.size := by omega
          simp [lk_cons, hlt, ↓p1, ↓p2, storeL, hv1, strE, e0, e1, e1']
          exact stop2 _ _ (fun e => (e x hx).1.2) (by omega)
        have e1' : ¬ (64 : Int) < x.name.size := by omega
        have hnm : 1 ≤ x.name.size ∧ x.name.size ≤ 64 := ⟨by have := mt (size0 x.name).2 e0; omega, by omega⟩
        have rest : (∀ y, 0 < i → s[i - 1]? = some y → lessB y.name x.name = true) → (x.kind < 1) ∨ (¬ x.kind < 1 ∧ 4 < x.kind) ∨ (¬ x.kind < 1 ∧ ¬ 4 < x.kind ∧ (cuOk x.ml x.me x.h → sbCond s i)) := fun hc => by
          by_cases f1 : x.kind < 1
          · exact .inl f1
          by_cases f2 : 4 < x.kind
          · exact .inr (.inl ⟨f1, f2⟩)
          · refine .inr (.inr ⟨f1, f2, fun hcu x' hx' => ?_⟩)
            rw [hx] at hx'; cases hx'
            exact ⟨hnm, hc, ⟨by omega, by omega⟩, hcu⟩
        have gg : ∀ b0 b1 : Blk, σ.next ≤ (⟨(σ1.mem.set σ1.next b0).set σ1.next b1, σ1.next + 1⟩ : St).next := fun _ _ => by show σ.next ≤ σ1.next + 1; omega
        by_cases hi0 : i = 0
        · have hi1 : ¬ 0 < i := by omega
          rcases rest fun y h0 => absurd h0 hi1 with f1 | ⟨f1, f2⟩ | ⟨f1, f2, hc⟩
          · have f1' : (x.kind : Int) < 1 := by omega
            simp [lk_cons, hlt, ↓p1, ↓p2, storeL, hv1, strE, e0, e1, e1', hi1, f1, f1']
            exact stop2 _ _ (fun e => (e x hx).2.2.1.1) (by omega)
          · have f1' : ¬ (x.kind : Int) < 1 := by omega
            have f2' : (4 : Int) < x.kind := by omega
            simp [lk_cons, hlt, ↓p1, ↓p2, storeL, hv1, strE, e0, e1, e1', hi1, f1, f1', f2, f2']
            exact stop2 _ _ (fun e => (e x hx).2.2.1.2) (by omega)
          · have f1' : ¬ (x.kind : Int) < 1 := by omega
            have f2' : ¬ (4 : Int) < x.kind := by omega
            simp [lk_cons, hlt, ↓p1, ↓p2, storeL, hv1, strE, e0, e1, e1', hi1, f1, f1', f2, f2']
            refine ccheck_g (c1.frame (gg _ _) (gold2 _ _)) hxf _ _ _ fun b hb => ?_
            cases b with
            | false =>
              simp [lk_cons]
              exact stop2 _ _ (fun e => hb.2 (e x hx).2.2.2) (by simp)
            | true =>
              simp [lk_cons, w1]
              exact fin (hc (hb.1 rfl)) _ _
        · obtain ⟨j, hj⟩ : ∃ j, j + 1 = i := ⟨i - 1, by omega⟩
          obtain ⟨y, hy⟩ : ∃ y, s[j]? = some y := ⟨_, List.getElem?_eq_getElem (by omega)⟩
          have w2 : IntKind.i64.wrap ((i : Int) - 1) = (j : Int) := by rw [IntWalk.i64_in] <;> omega
          have hi1 : 0 < i := by omega
          have hji : i - 1 = j := by omega
          obtain ⟨q, q1, _, qf⟩ := hr.rs.at (show j < s.length by omega) (ρ := ⟨(σ1.mem.set σ1.next (.cells 5 [.str ⟨#[]⟩, .int .u8 0, .int .u64 0, .int .u64 0, .nilsl])).set σ1.next (.cells 5 [.str x.name, .int .u8 (x.kind : Int), u64 x.ml, u64 x.me, hv]), σ1.next + 1⟩) (gold2 _ _)
          obtain ⟨r, r1, _, r2⟩ := qf 0 1 (by decide)
          obtain ⟨hvy, _, _, cy, _, _⟩ := hr.rc.get hy
          have r2 := r2 _ (by decide) cy
          cases hle : lessB y.name x.name with
          | false =>
            simp [lk_cons, hlt, ↓p1, ↓p2, storeL, hv1, strE, e0, e1, e1', hi1, m1, z1, w2, ↓q1, ↓r1, ↓r2, strGeq, hle]
            exact stop2 _ _ (fun e => (e x hx).2.1 y hi1 (by rw [hji]; exact hy)) (by simp [hle])
          | true =>
            rcases rest fun z _ hz => (by rw [hji, hy] at hz; cases hz; exact hle) with f1 | ⟨f1, f2⟩ | ⟨f1, f2, hc⟩
            · have f1' : (x.kind : Int) < 1 := by omega
              simp [lk_cons, hlt, ↓p1, ↓p2, storeL, hv1, strE, e0, e1, e1', hi1, m1, z1, w2, ↓q1, ↓r1, ↓r2, strGeq, hle, f1, f1']
              exact stop2 _ _ (fun e => (e x hx).2.2.1.1) (by omega)
            · have f1' : ¬ (x.kind : Int) < 1 := by omega
              have f2' : (4 : Int) < x.kind := by omega
              simp [lk_cons, hlt, ↓p1, ↓p2, storeL, hv1, strE, e0, e1, e1', hi1, m1, z1, w2, ↓q1, ↓r1, ↓r2, strGeq, hle, f1, f1', f2, f2']
              exact stop2 _ _ (fun e => (e x hx).2.2.1.2) (by omega)
            · have f1' : ¬ (x.kind : Int) < 1 := by omega
              have f2' : ¬ (4 : Int) < x.kind := by omega
              simp [lk_cons, hlt, ↓p1, ↓p2, storeL, hv1, strE, e0, e1, e1', hi1, m1, z1, w2, ↓q1, ↓r1, ↓r2, strGeq, hle, f1, f1', f2, f2']
              refine ccheck_g (c1.frame (gg _ _) (gold2 _ _)) hxf _ _ _ fun b hb => ?_
              cases b with
              | false =>
                simp [lk_cons]
                exact stop2 _ _ (fun e => hb.2 (e x hx).2.2.2) (by simp)
              | true =>
                simp [lk_cons, w1]
                exact fin (hc (hb.1 rfl)) _ _
      · have : i = s.length := by omega
        subst this
        simp [lk_cons]
        exact ⟨fun a ha => gold a ha, h true ⟨fun _ => ⟨hld, hlastok, by omega, hall⟩, fun _ => rfl⟩⟩
end Go.Proofs.YticefdfhcahlfaaDoor.AM


namespace Go.Proofs.YticefdfhcahlfaaDoor.AM
set_option maxRecDepth 100000
set_option linter.unusedVariables false
set_option linter.unusedSimpArgs false
def W1J (w : Nat) (v1 : AVal) (ys : Tbl) (σ0 : St) (mm : Nat) (rg : Regs) (σ' : St) : Prop := ∃ (i : Nat) (v2 : AVal) (b2 : Option Nat), mm = ys.length - i ∧ i ≤ ys.length ∧ GS rwL σ' v2 (dn (ys.take i)) b2 ∧ (∀ x, b2 = some x → σ0.next ≤ x) ∧ Grow σ0 σ' ∧ rg = [(1, .ptr w 0), (4, v2), (10, v1), (11, i64 (ys.length : Nat)), (12, i64 i)]
end Go.Proofs.YticefdfhcahlfaaDoor.AM


namespace Go.Proofs.YticefdfhcahlfaaDoor.AM
open Go.RowKit
set_option maxRecDepth 100000
set_option linter.unusedVariables false
set_option linter.unusedSimpArgs false
def pLine (l : List UInt8) : Except Nat ((ByteArray × Ln) × List UInt8) := match pText l with
  | .error c => .error c
  | .ok (n, l1) => match pNum 8 l1 with
    | .error c => .error c
    | .ok (d, l2) => match pNum 8 l2 with
      | .error c => .error c
      | .ok (g, l3) => match pNum 8 l3 with
        | .error c => .error c
        | .ok (e, l4) => .ok ((⟨n.toArray⟩, (d, d, g, e)), l4)
def lnBad (T : Tbl) (last : ByteArray) (x : ByteArray × Ln) : Bool := !lessB last x.1 || decide (64 < x.1.size) || decide (x.2.2.1 = 0) || decide (16 ≤ T.length)
def pLines : Nat → Tbl → ByteArray → List UInt8 → Except Nat (Tbl × List UInt8)
  | 0, T, _, l => .ok (T, l)
  | n + 1, T, last, l => match pLine l with
    | .error c => .error c
    | .ok (x, l') => if lnBad T last x then .error 23 else pLines n (setB T x.1 x.2) x.1 l'
def pTab (l : List UInt8) : Except Nat (Tbl × List UInt8) := match pNum 1 l with
  | .error c => .error c
  | .ok (n, l') => pLines n [] ⟨#[]⟩ l'
theorem trep_set {σ : St} {t mp : Nat} {T : Tbl} (h : TRep σ t mp T) (n : ByteArray) (x : Ln) : ∃ σ', evalV σ (.mapSet false [2] (.map mp) (.str n) (lnV n x)) = some (.nilp, σ') ∧ TRep σ' t mp (setB T n x) ∧ σ'.next = σ.next ∧ ∀ a, a ≠ mp → σ'.mem.get a = σ.mem.get a := by
  have hh := h.head
  have hne := h.ne
  obtain ⟨clock, ents, hm, ha, hs, hd⟩ := h.map
  rcases findS (n := n) ha with ⟨f1, f2⟩ | ⟨i, y, f1, f2, f3⟩
  · refine ⟨⟨σ.mem.set mp (.map (clock + 1) (ents ++ [(clock, .str n, lnV n x)])), σ.next⟩, by simp [keyIs, shapeOk, kShape, hm, f1], ⟨by simp [hne, hh], ⟨clock + 1, ents ++ [(clock, .str n, lnV n x)], by simp, ?_, ?_, ?_⟩, setB_nodup h.keys, hne, h.lt⟩, rfl, fun a ha => by simp [ha]⟩
    · rw [setB_new f2]; exact All2.snoc ⟨rfl, rfl⟩ ha
    · intro e he
      rcases List.mem_append.1 he with he | he
      · have := hs e he; omega
      · simp at he; subst he; simp
    · rw [List.map_append, List.nodup_append]
      refine ⟨hd, by simp, ?_⟩
      rintro a ha b hb rfl
      simp at hb; subst hb
      have := stamps_lt.1 hs _ ha
      omega
  · refine ⟨⟨σ.mem.set mp (.map clock (ents.modify i fun e => (e.1, .str n, lnV n x))), σ.next⟩, by simp [keyIs, shapeOk, kShape, hm, f1], ⟨by simp [hne, hh], ⟨clock, ents.modify i fun e => (e.1, .str n, lnV n x), by simp, f3 _, ?_, ?_⟩, setB_nodup h.keys, hne, h.lt⟩, rfl, fun a ha => by simp [ha]⟩
    · rw [stamps_lt, stamps_modify (fun e => (e.1, AVal.str n, lnV n x)) (fun e => rfl), ← stamps_lt]; exact hs
    · rw [stamps_modify (fun e => (e.1, AVal.str n, lnV n x)) (fun e => rfl)]; exact hd
theorem strLeqd (a b : ByteArray) : abinS .leq a b = some (.bool (!lessB b a)) := by
  have h1 : (lessB a b || decide (a = b)) = !lessB b a := by
    cases h : lessB a b with
    | true => rw [lessB_asymm h]; rfl
    | false =>
      cases k : lessB b a with
      | true =>
        have : ¬ a = b := fun e => by rw [e, lessB_irrefl] at k; cases k
        simp [this]
      | false => simp [lessB_tri h k]
  simp only [abinS, bLess, baEq, h1]
def TkJd (t mp r n : Nat) (lo : List UInt8) (len0 : Nat) (res : Except Nat (Tbl × List UInt8)) (c : Option Nat) (σ0 σt : St) (mm : Nat) (rg : Regs) (σ' : St) : Prop := ∃ (i : Nat) (S : Tbl) (last : ByteArray) (l : List UInt8), mm = n - i ∧ i ≤ n ∧ n < 256 ∧ pLines (n - i) S last l = res ∧ l.length ≤ len0 ∧ TRep σ' t mp S ∧ RR σ' r l c ∧ RStp r σ0 σ' ∧ rg = [(0, .ptr r 0), (3, .ptr t 0), (4, .str last), (8, .int .u8 (n : Int)), (9, .int .u8 (i : Int))]
set_option maxHeartbeats 2000000 in
theorem dtake_c {T : AVal → St → Prop} {σ : St} {r : Nat} {l : List UInt8} {c : Option Nat} {Q : AVal → St → Prop} (h : RR σ r l c) (hl : l.length ≤ 1000000000) (hT : ∀ e σ', pTab l = .error e → RStp r σ σ' → T (thrownV (e : Int)) σ')
    (hQ : ∀ S l' t mp σ', pTab l = .ok (S, l') → TRep σ' t mp S → RR σ' r l' c → RStp r σ σ' → σ.next ≤ t ∧ σ.next ≤ mp → Q (.ptr t 0) σ') : ACall (Env.th Tryd.prog T) 65 [.ptr r 0] σ Q := by
  refine ACall.of_compF hmx (fun a w => Tryd.call65 a w) Tryd.func65 cf65 (n := 1) (by decide) rfl ?_
  simp [ac65, rs65, lk_cons]
  refine ACall.into (tnew_c σ _ fun t mp σ1 hr hn1 hk1 hge => ?_)
  have hg1 : Grow σ σ1 := ⟨hn1, hk1⟩
  simp [lk_cons]
  refine ru8_c (h.grow hg1) (by omega) (fun e he => hT e σ1 (by rw [pTab, he]) (hg1.rstp r)) fun n l1 σ2 h1 h2 h3 => ?_
  have hnl := pNum_len h1
  have hrlt : r < σ.next := by obtain ⟨_, _, _, _, h⟩ := h; exact h
  have hcl : ∀ a, c = some a → a < σ.next := fun a ha => by obtain ⟨_, _, h, _⟩ := h; exact h.lt ha
  have hpt : pTab l = pLines n [] ⟨#[]⟩ l1 := by rw [pTab, h1]
  simp [lk_cons]
  refine wp_loop (TkJd t mp r n l1 l1.length (pTab l) c σ σ1) n ?_ ?_
  · exact ⟨0, [], ⟨#[]⟩, l1, rfl, Nat.zero_le _, by have := hnl.2; omega, by rw [hpt]; rfl, Nat.le_refl _, hr.frame (fun a ha => h3.keep a (by have := hr.lt; omega) (by omega)) h3.next, h2, (hg1.rstp r).trans h3, by simp [lk_cons]⟩
  · rintro mm rg σ3 ⟨i, S, last, l3, rfl, hi, hn256, hpl, hll, hr3, hrr, hst, rfl⟩
    by_cases hc : i < n
    · have hc' : (i : Int) < n := by omega
      have w1 : IntKind.u8.wrap ((i : Int) + 1) = ((i + 1 : Nat) : Int) := by rw [IntWalk.u8_in] <;> omega
      obtain ⟨m, hm⟩ : ∃ m, n - i = m + 1 := ⟨n - i - 1, by omega⟩
      have hm' : n - (i + 1) = m := by omega
      rw [hm, pLines] at hpl
      have err : ∀ e σ', pLine l3 = .error e → RStp r σ3 σ' → T (thrownV (e : Int)) σ' := fun e σ' he hs => hT e σ' (by rw [← hpl, he]) (hst.trans hs)
      simp [lk_cons, hc, hc']
      refine rtext_c hrr (by omega) (fun e σ' he hs => err e σ' (by rw [pLine, he]) hs) fun nb l4 σ4 k1 k2 k3 => ?_
      have kl := pText_len k1
      simp [lk_cons]
      refine ru64_c k2 (by omega) (fun e he => err e σ4 (by rw [pLine, k1]; simp only [he]) k3) fun d l5 σ5 m1 m2 m3 => ?_
      have ml := pNum_len m1
      simp [lk_cons]
      refine ru64_c m2 (by omega) (fun e he => err e σ5 (by rw [pLine, k1]; simp only [m1, he]) (k3.trans m3)) fun g l6 σ6 o1 o2 o3 => ?_
      have ol := pNum_len o1
      simp [lk_cons]
      refine ru64_c o2 (by omega) (fun e he => err e σ6 (by rw [pLine, k1]; simp only [m1, o1, he]) (k3.trans (m3.trans o3))) fun e l7 σ7 q1 q2 q3 => ?_
      have ql := pNum_len q1
      have st7 : RStp r σ3 σ7 := k3.trans (m3.trans (o3.trans q3))
      have hlt3 := hr3.lt
      have ht3 : t ≠ r ∧ mp ≠ r := by omega
      have hr7 : TRep σ7 t mp S := hr3.frame (fun a ha => st7.keep a (by omega) (by rcases ha with rfl | rfl; exact ht3.1; exact ht3.2)) st7.next
      have hline : pLine l3 = .ok ((⟨nb.toArray⟩, (d, d, g, e)), l7) := by rw [pLine, k1]; simp only [m1, o1, q1]
      rw [hline] at hpl
      simp only at hpl
      have hn7 := st7.next
      have z1 : ¬ t = σ7.next := by omega
      have z2 : ¬ mp = σ7.next := by omega
      obtain ⟨nm, hnm⟩ : ∃ nm : ByteArray, (⟨nb.toArray⟩ : ByteArray) = nm := ⟨_, rfl⟩
      rw [hnm] at hpl
      have hle := strLeqd nm last
      have g8 : Grow σ7 ⟨((σ7.mem.set σ7.next (.cells 5 [.str ⟨#[]⟩, .int .u64 0, .int .u64 0, .int .u64 0, .int .u64 0])).set σ7.next (.cells 5 [.str nm, .int .u64 0, .int .u64 (d : Int), .int .u64 (g : Int), .int .u64 (e : Int)])).set σ7.next (.cells 5 [.str nm, .int .u64 (d : Int), .int .u64 (d : Int), .int .u64 (g : Int), .int .u64 (e : Int)]), σ7.next + 1⟩ := ⟨by simp, fun a ha => by simp [show ¬ a = σ7.next by omega]⟩
      obtain ⟨S8, hS8⟩ : ∃ S8 : St, S8 = ⟨((σ7.mem.set σ7.next (.cells 5 [.str ⟨#[]⟩, .int .u64 0, .int .u64 0, .int .u64 0, .int .u64 0])).set σ7.next (.cells 5 [.str nm, .int .u64 0, .int .u64 (d : Int), .int .u64 (g : Int), .int .u64 (e : Int)])).set σ7.next (.cells 5 [.str nm, .int .u64 (d : Int), .int .u64 (d : Int), .int .u64 (g : Int), .int .u64 (e : Int)]), σ7.next + 1⟩ := ⟨_, rfl⟩
      have m5 : S8.mem.get σ7.next = some (.cells 5 [.str nm, .int .u64 (d : Int), .int .u64 (d : Int), .int .u64 (g : Int), .int .u64 (e : Int)]) := by rw [hS8]; simp
      rw [← hS8] at g8
      have hr8 : TRep S8 t mp S := hr7.frame (fun a ha => g8.2 a (by omega)) g8.1
      have hh8 := hr8.head
      obtain ⟨clock, ents, hm8, ha8, _, _⟩ := hr8.map
      have hel := ha8.len
      have bad : lnBad S last (nm, (d, d, g, e)) = true → T (thrownV 23) S8 := fun hb => by
        rw [hb] at hpl
        exact hT 23 S8 hpl.symm (hst.trans (st7.trans (g8.rstp r)))
      simp [lk_cons, hnm, fillL, storeL]
      rw [← hS8]
      cases hls : lessB last nm with
      | false =>
        have hb := bad (by simp [lnBad, hls])
        rw [hls] at hle
        simp [lk_cons, hle, m5]
        refine fail_c (fun _ => hb) fun h => (by cases h)
      | true =>
      rw [hls] at hle
      by_cases h64 : 64 < nm.size
      · have hb := bad (by simp [lnBad, h64])
        have h64' : (64 : Int) < nm.size := by omega
        simp [lk_cons, hle, m5, h64, h64']
        refine fail_c (fun _ => hb) fun h => (by cases h)
      have h64' : ¬ (64 : Int) < nm.size := by omega
      by_cases hd0 : d = 0
      · have hb := bad (by simp [lnBad, hd0])
        have hd0' : (d : Int) = 0 := by omega
        simp [lk_cons, hle, m5, h64, h64', hd0, hd0']
        refine fail_c (fun _ => hb) fun h => (by cases h)
      have hd0' : ¬ (d : Int) = 0 := by omega
      by_cases h16 : 16 ≤ S.length
      · have hb := bad (by simp [lnBad, h16])
        have h16' : 16 ≤ ents.length := by omega
        have h16'' : (16 : Int) ≤ ents.length := by omega
        simp [lk_cons, hle, m5, h64, h64', hd0, hd0', hh8, hm8, h16', h16'']
        refine fail_c (fun _ => hb) fun h => (by cases h)
      have h16' : ¬ 16 ≤ ents.length := by omega
      have h16'' : ¬ (16 : Int) ≤ ents.length := by omega
      have good : lnBad S last (nm, (d, d, g, e)) = false := by
        have a1 : ¬ 64 < nm.size := h64
        simp [lnBad, hls, hd0]; omega
      rw [good] at hpl
      simp at hpl
      obtain ⟨S9, e9, t9, n9, k9⟩ := trep_set hr8 nm (d, d, g, e)
      simp only [lnV] at e9
      simp [lk_cons, hle, m5, h64, h64', hd0, hd0', hh8, hm8, h16', h16'', -Mem.get_set, ↓e9, w1]
      have st8 := hst.trans (st7.trans (g8.rstp r))
      have st9 : RStp r σ S9 := ⟨by rw [n9]; exact st8.next, fun a ha har => by rw [k9 a (by omega)]; exact st8.keep a ha har⟩
      refine ⟨n - (i + 1), by omega, i + 1, _, nm, l7, rfl, by omega, hn256, by rw [hm']; exact hpl, by omega, t9, (q2.grow g8).keep (by omega) fun a ha hac => ?_, st9, by simp⟩
      rcases hac with rfl | hac
      · exact k9 _ (by omega)
      · have := hcl a hac
        exact k9 a (by omega)
    · have : i = n := by omega
      subst this
      rw [Nat.sub_self, pLines] at hpl
      simp [lk_cons]
      exact hQ S l3 t mp σ3 hpl.symm hr3 hrr hst hge
end Go.Proofs.YticefdfhcahlfaaDoor.AM

namespace Go.Proofs.YticefdfhcahlfaaDoor.AM
open Go.RowKit
set_option maxRecDepth 100000
set_option linter.unusedVariables false
set_option linter.unusedSimpArgs false
theorem pNum_beN {k n : Nat} (h : n < 256 ^ k) (l : List UInt8) : pNum k (beN k n ++ l) = .ok (n, l) := by
  have hl : (beN k n ++ l).length = k + l.length := by simp [beN_len]
  have h1 : (beN k n ++ l).take k = beN k n := by rw [List.take_append_of_le_length (by rw [beN_len]; exact Nat.le_refl _), List.take_of_length_le (by rw [beN_len]; exact Nat.le_refl _)]
  have h2 : (beN k n ++ l).drop k = l := by rw [List.drop_append_of_le_length (by rw [beN_len]; exact Nat.le_refl _), List.drop_of_length_le (by rw [beN_len]; exact Nat.le_refl _)]; rfl
  rw [pNum, if_neg (by omega), h1, h2, be_beN, Nat.mod_eq_of_lt h]
theorem pBytes_of {b : List UInt8} (h : b.length < 4294967296) (l : List UInt8) : pBytes (beN 4 b.length ++ (b ++ l)) = .ok (b, l) := by
  rw [pBytes, pNum_beN (by simpa using h)]
  simp
theorem pText_of {b : List UInt8} (h : b.length < 4294967296) (hv : vld b = true) (l : List UInt8) : pText (beN 4 b.length ++ (b ++ l)) = .ok (b, l) := by
  rw [pText, pBytes_of h]
  simp [hv]
def NmOk (p : ByteArray × Ln) : Prop := 1 ≤ p.1.size ∧ p.1.size ≤ 64 ∧ vld p.1.data.toList = true
def topd (p : ByteArray × Ln) : ByteArray × Ln := (p.1, (p.2.2.1, p.2.2))
theorem pLine_of {x : ByteArray × Ln} (h : NmOk x) (hk : LnOk x) (l : List UInt8) : pLine (lnB x ++ l) = .ok (topd x, l) := by
  obtain ⟨n, a, d, g, e⟩ := x
  obtain ⟨h1, h2, h3⟩ := h
  obtain ⟨_, _, k2, k3, k4⟩ := hk
  simp only at h1 h2 h3 k2 k3 k4
  have hl : n.data.toList.length = n.size := by simp
  have e64 : (18446744073709551616 : Nat) = 256 ^ 8 := by decide
  rw [e64] at k2 k3 k4
  have e1 : lnB (n, a, d, g, e) ++ l = beN 4 n.data.toList.length ++ (n.data.toList ++ (beN 8 d ++ (beN 8 g ++ (beN 8 e ++ l)))) := by
    simp [lnB, hl, List.append_assoc]
  rw [e1, pLine, pText_of (by omega) h3]
  simp only [pNum_beN k2, pNum_beN k3, pNum_beN k4, topd]
theorem pLines_of : ∀ (xs : Tbl) (T : Tbl) (last : ByteArray) (l : List UInt8), (∀ x ∈ xs, NmOk x ∧ LnOk x ∧ x.2.2.1 ≠ 0) → (xs.Pairwise fun a b => lessB a.1 b.1 = true) → (∀ x ∈ xs, lessB last x.1 = true) → (∀ p ∈ T, ∀ x ∈ xs, lessB p.1 x.1 = true) → T.length + xs.length ≤ 16 →
    pLines xs.length T last (lnsB xs ++ l) = .ok (T ++ xs.map topd, l)
  | [], T, last, l, _, _, _, _, _ => by simp [pLines, lnsB]
  | x :: xs, T, last, l, hk, hp, hl, hT, hn => by
    simp only [List.length_cons] at hn
    obtain ⟨k1, k2, k3⟩ := hk x (by simp)
    have e1 : lnsB (x :: xs) ++ l = lnB x ++ (lnsB xs ++ l) := by simp [lnsB]
    rw [List.length_cons, pLines, e1, pLine_of k1 k2]
    have hb : lnBad T last (topd x) = false := by
      have h1 : decide (64 < (topd x).1.size) = false := decide_eq_false (by have := k1.2.1; show ¬ 64 < x.1.size; omega)
      have h2 : decide ((topd x).2.2.1 = 0) = false := decide_eq_false k3
      have h3 : decide (16 ≤ T.length) = false := decide_eq_false (by omega)
      have h4 : lessB last (topd x).1 = true := hl x (by simp)
      rw [lnBad, h1, h2, h3, h4]; rfl
    simp only [hb, Bool.false_eq_true, if_false]
    have hnew : lkB T (topd x).1 = none := by
      rw [lkB_none]
      intro hm
      obtain ⟨p, hp, he⟩ := List.mem_map.1 hm
      have := hT p hp x (by simp)
      rw [he] at this
      simp only [topd] at this
      rw [lessB_irrefl] at this; cases this
    rw [setB_new hnew]
    have hp' := List.pairwise_cons.1 hp
    have ih := pLines_of xs (T ++ [topd x]) (topd x).1 l (fun y hy => hk y (by simp [hy])) hp'.2 (fun y hy => hp'.1 y hy) (fun p hpm y hy => by
      rcases List.mem_append.1 hpm with hpm | hpm
      · exact hT p hpm y (by simp [hy])
      · simp at hpm; subst hpm; exact hp'.1 y hy) (by simp; omega)
    rw [List.append_assoc] at ih
    exact ih
theorem fgt_dn (T : Tbl) : fgt T = (dn T).map topd := rfl
theorem empty_less {n : ByteArray} (h : 1 ≤ n.size) : lessB ⟨#[]⟩ n = true := by
  have hl : n.data.toList.length = n.size := by simp
  unfold lessB
  cases hn : n.data.toList with
  | nil => rw [hn] at hl; simp at hl; omega
  | cons a t => simp
theorem ris_pair : ∀ {T : Tbl}, RisL T → (T.map (·.1)).Nodup → T.Pairwise fun a b => lessB a.1 b.1 = true
  | [], _, _ => List.Pairwise.nil
  | x :: T, h, hn => by
    simp only [List.map_cons, List.nodup_cons] at hn
    refine List.pairwise_cons.2 ⟨fun y hy => ?_, ris_pair h.tail hn.2⟩
    obtain ⟨j, hj⟩ := List.getElem?_of_mem hy
    have h1 := h 0 (j + 1) x y (by omega) rfl (by simpa using hj)
    cases h2 : lessB x.1 y.1 with
    | true => rfl
    | false => exact absurd (List.mem_map.2 ⟨y, hy, (lessB_tri h2 h1).symm⟩) hn.1
theorem ris_sub {S T : Tbl} (h : S.Sublist T) (hp : T.Pairwise fun a b => lessB a.1 b.1 = true) : S.Pairwise fun a b => lessB a.1 b.1 = true := hp.sublist h
theorem pTab_enc {ys : Tbl} (hr : RisL ys) (hn : (ys.map (·.1)).Nodup) (hk : ∀ x ∈ ys, NmOk x ∧ LnOk x) (hl : ys.length ≤ 16) : pTab (encT ys) = .ok (fgt ys, []) := by
  have hdl := dn_len ys
  have hd : ∀ x ∈ dn ys, NmOk x ∧ LnOk x ∧ x.2.2.1 ≠ 0 := fun x hx => by
    obtain ⟨h1, h2⟩ := List.mem_filter.1 hx
    exact ⟨(hk x h1).1, (hk x h1).2, by simpa using h2⟩
  rw [pTab, encT, pNum_beN (by simp; omega)]
  have := pLines_of (dn ys) [] ⟨#[]⟩ [] hd (ris_sub List.filter_sublist (ris_pair hr hn)) (fun x hx => empty_less (hd x hx).1.1) (fun p hp => by cases hp) (by simp; omega)
  simp only [List.append_nil, List.nil_append] at this
  rw [fgt_dn]
  exact this
end Go.Proofs.YticefdfhcahlfaaDoor.AM

namespace Go.Proofs.YticefdfhcahlfaaDoor.AM
set_option maxRecDepth 100000
set_option linter.unusedVariables false
set_option linter.unusedSimpArgs false
def W3J (w : Nat) (v2 : AVal) (l : Tbl) (pre : List UInt8) (b0 : Option Nat) (σ0 : St) (mm : Nat) (rg : Regs) (σ' : St) : Prop := ∃ (i : Nat) (b : Option Nat), mm = l.length - i ∧ i ≤ l.length ∧ WB σ' w (pre ++ lnsB (l.take i)) b ∧ WStp w b0 b σ0 σ' ∧ rg = [(1, .ptr w 0), (29, v2), (30, i64 (l.length : Nat)), (31, i64 i)]
set_option maxHeartbeats 2000000 in
theorem wwrite_g {σ : St} {t mp w : Nat} {T : Tbl} (h : TRep σ t mp T) {l0 : List UInt8} {b0 : Option Nat} (hw : WB σ w l0 b0) (hl0 : l0.length ≤ 500000) (hl : T.length ≤ 200) (hok : ∀ x ∈ T, LnOk x) (Q : AVal → St → Prop)
    (hQ : ∀ ys σ' b', ys.Perm T → RisL ys → WB σ' w (l0 ++ encT ys) b' → WStp w b0 b' σ σ' → Q (.tup []) σ') : ACall Tryd.prog 62 [.ptr t 0, .ptr w 0] σ Q := by
  refine ACall.of_compF hmx (fun a w => Tryd.call62 a w) Tryd.func62 cf62 (n := 2) (by decide) rfl ?_
  simp [ac62, rs62, lk_cons]
  refine all_c h (by omega) _ fun v1 ys σ1 b1 p1 p2 p3 p4 p5 => ?_
  have hyl := p1.length_eq
  have hlen1 := p3.len
  have hyok : ∀ x ∈ ys, LnOk x := fun x hx => hok x (p1.subset hx)
  simp [lk_cons, ↓hlen1]
  refine wp_loop (W1J w v1 ys σ1) ys.length ?_ ?_
  · exact ⟨0, .nilsl, none, rfl, Nat.zero_le _, by simpa [dn] using GS.nil (R := rwL) σ1, by simp, Grow.refl _, by simp [lk_cons]⟩
  · rintro mm rg σ2 ⟨i, v2, b2, rfl, hi, g1, g2, g3, rfl⟩
    have gn := g3.1
    by_cases hc : i < ys.length
    · obtain ⟨x, hx⟩ : ∃ x, ys[i]? = some x := ⟨_, List.getElem?_eq_getElem hc⟩
      have w1 : IntKind.i64.wrap ((i : Int) + 1) = ((i + 1 : Nat) : Int) := by rw [IntWalk.i64_in] <;> omega
      have htk : ys.take (i + 1) = ys.take i ++ [x] := by rw [List.take_add_one, hx]; rfl
      have row : ((rws rwL ys).drop (i * 5)).take 5 = [.str x.1, u64 (x.2.1 : Int), u64 (x.2.2.1 : Int), u64 (x.2.2.2.1 : Int), u64 (x.2.2.2.2 : Int)] := rws_at rwL hx
      have k5 : i * 5 + 5 ≤ (rws rwL ys).length := by rw [rws_len]; omega
      obtain ⟨o, ho1, ho2, m1, i1⟩ := p3.idx hc
      have m2 := (g3.2 o ho2).trans m1
      have hdl := dn_len (ys.take i)
      rw [List.length_take] at hdl
      by_cases hd : x.2.2.1 = 0
      · have hd' : ¬ (0 : Int) < (x.2.2.1 : Int) := by omega
        have hd2 : ¬ 0 < x.2.2.1 := by omega
        simp [lk_cons, hc, ↓i1, m2, row, k5, storeL, hd, hd', hd2, w1]
        refine ⟨ys.length - (i + 1), by omega, i + 1, v2, b2, rfl, by omega, ?_, g2, ⟨by simp; omega, fun a ha => by simp [show ¬ a = σ2.next by omega]; exact g3.2 a ha⟩, rfl⟩
        rw [htk, dn_snoc, if_pos hd, List.append_nil]
        exact g1.keep (by simp) fun a ha _ => by simp [show ¬ a = σ2.next by omega]
      · have hd' : (0 : Int) < (x.2.2.1 : Int) := by omega
        have hd2 : 0 < x.2.2.1 := by omega
        have hs2 : GS rwL ⟨((σ2.mem.set σ2.next (.cells 5 [.str ⟨#[]⟩, .int .u64 0, .int .u64 0, .int .u64 0, .int .u64 0])).set σ2.next (.cells 5 [.str x.1, u64 (x.2.1 : Int), u64 (x.2.2.1 : Int), u64 (x.2.2.2.1 : Int), u64 (x.2.2.2.2 : Int)])).set (σ2.next + 1) (.cells 5 [.str x.1, u64 (x.2.1 : Int), u64 (x.2.2.1 : Int), u64 (x.2.2.2.1 : Int), u64 (x.2.2.2.2 : Int)]), σ2.next + 1 + 1⟩ v2 (dn (ys.take i)) b2 := g1.keep (by simp; omega) fun a ha _ => by simp [show ¬ a = σ2.next by omega, show ¬ a = σ2.next + 1 by omega]
        obtain ⟨σ', f1, f2, f3, f4⟩ := gs_app1 hs2 (nb := σ2.next + 1) (by_ := 48) (t := true) (x := x) (by decide) (by simp [rwL]) (fun e => by have := g1.lt e; omega) (by omega) (by omega)
        simp [lk_cons, hc, ↓i1, m2, row, k5, hd2, w1, fillL, repL, storeL, ↓f1]
        refine ⟨ys.length - (i + 1), by omega, i + 1, _, some (σ2.next + 1 + 1), rfl, by omega, ?_, fun y hy => ?_, ⟨by rw [f3]; simp; omega, fun a ha => ?_⟩, rfl⟩
        · rw [htk, dn_snoc, if_neg hd]; exact f2
        · cases hy; omega
        · rw [f4 a (by simp; omega) (fun e => by have := g2 a e; omega)]
          simp [show ¬ a = σ2.next by omega, show ¬ a = σ2.next + 1 by omega]
          exact g3.2 a ha
    · have : i = ys.length := by omega
      subst this
      rw [List.take_length] at g1
      have hdl := dn_len ys
      have hdok : ∀ x ∈ dn ys, LnOk x := fun x hx => hyok x (List.mem_filter.1 hx).1
      have hlen2 := g1.len
      have w1 : IntKind.u8.wrap ((dn ys).length : Int) = (dn ys).length := by rw [IntWalk.u8_in] <;> omega
      have hw2 : WB σ2 w l0 b0 := by
        obtain ⟨_, _, _, _, hwl⟩ := id hw
        exact hw.keep (by have := p5.1; omega) fun a ha _ => by rw [g3.2 a (by have := p5.1; omega), p5.2 a ha]
      have fin : ∀ σ' b', WB σ' w (l0 ++ encT ys) b' → WStp w b0 b' σ2 σ' → Q (.tup []) σ' := fun σ' b' q1 q2 => hQ ys σ' b' p1 p2 q1 ⟨by have := q2.next; have := p5.1; omega, fun x hx => by
        rcases q2.own x hx with e | e
        · exact .inl e
        · have := p5.1; exact .inr (by omega), fun a ha hne hb => by rw [q2.keep a (by have := p5.1; omega) hne hb, g3.2 a (by have := p5.1; omega), p5.2 a ha]⟩
      have henc : encT ys = beN 1 (dn ys).length ++ lnsB (dn ys) := rfl
      simp [lk_cons, ↓hlen2, w1]
      rw [henc] at fin
      have how2 : ∀ o, b2 = some o → b0 ≠ some o := fun o ho e => by
        have := hw.lt.1 o e
        have := g2 o ho; have := p5.1; omega
      have how : ∀ o, b2 = some o → o ≠ w := fun o ho => by
        obtain ⟨_, _, _, _, hwl⟩ := id hw
        have := g2 o ho; have := p5.1; omega
      revert g1 hdl hdok hlen2 fin
      clear henc w1
      generalize dn ys = l
      intro g1 hdl hdok hlen2 fin
      refine wu8_c hw2 (by omega) (by omega) _ fun σ3 b3 q1 q2 => ?_
      simp [lk_cons, ↓hlen2]
      refine wp_loop (W3J w v2 l (l0 ++ beN 1 l.length) b0 σ2) l.length ?_ ?_
      · exact ⟨0, b3, rfl, Nat.zero_le _, by simpa [lnsB] using q1, q2, by simp [lk_cons]⟩
      · rintro mm rg σ4 ⟨i, b4, rfl, hi, q4, s4, rfl⟩
        have gn4 := s4.next
        by_cases hc : i < l.length
        · obtain ⟨x, hx⟩ : ∃ x, l[i]? = some x := ⟨_, List.getElem?_eq_getElem hc⟩
          have w1 : IntKind.i64.wrap ((i : Int) + 1) = ((i + 1 : Nat) : Int) := by rw [IntWalk.i64_in] <;> omega
          have htk : l.take (i + 1) = l.take i ++ [x] := by rw [List.take_add_one, hx]; rfl
          have hxok := hdok x (List.mem_of_getElem? hx)
          obtain ⟨ok1, ok2, ok3, ok4, ok5⟩ := id hxok
          have row : ((rws rwL l).drop (i * 5)).take 5 = [.str x.1, u64 (x.2.1 : Int), u64 (x.2.2.1 : Int), u64 (x.2.2.2.1 : Int), u64 (x.2.2.2.2 : Int)] := rws_at rwL hx
          have k5 : i * 5 + 5 ≤ (rws rwL l).length := by rw [rws_len]; omega
          obtain ⟨o, ho1, ho2, m1, i1⟩ := g1.idx hc
          have m4 := (s4.keep o ho2 (how o ho1) (how2 o ho1)).trans m1
          have hbl : (l0 ++ beN 1 l.length ++ lnsB (l.take i)).length ≤ 1000000 := by
            have := lnsB_len (T := l.take i) fun y hy => hdok y (List.mem_of_mem_take hy)
            rw [List.length_append, List.length_append, beN_len]
            rw [List.length_take] at this
            omega
          obtain ⟨_, _, hg4, _, hwl⟩ := id q4
          simp [lk_cons, hc, ↓i1, m4, row, k5, storeL]
          have q5 : WB ⟨(σ4.mem.set σ4.next (.cells 5 [.str ⟨#[]⟩, .int .u64 0, .int .u64 0, .int .u64 0, .int .u64 0])).set σ4.next (.cells 5 [.str x.1, u64 (x.2.1 : Int), u64 (x.2.2.1 : Int), u64 (x.2.2.2.1 : Int), u64 (x.2.2.2.2 : Int)]), σ4.next + 1⟩ w (l0 ++ beN 1 l.length ++ lnsB (l.take i)) b4 := q4.keep (by simp) fun a ha _ => by simp [show ¬ a = σ4.next by omega]
          have hb4 : b4 ≠ some σ4.next := fun e => by have := hg4.lt e; omega
          have hwn : ¬ σ4.next = w := by omega
          have s5 : WStp w b4 b4 σ4 ⟨(σ4.mem.set σ4.next (.cells 5 [.str ⟨#[]⟩, .int .u64 0, .int .u64 0, .int .u64 0, .int .u64 0])).set σ4.next (.cells 5 [.str x.1, u64 (x.2.1 : Int), u64 (x.2.2.1 : Int), u64 (x.2.2.2.1 : Int), u64 (x.2.2.2.2 : Int)]), σ4.next + 1⟩ := ⟨by simp, fun _ h => .inl h, fun a ha _ _ => by simp [show ¬ a = σ4.next by omega]⟩
          refine wtext_c q5 (by omega) (by omega) _ fun σ6 b6 q6 s6 => ?_
          have m6 : σ6.mem.get σ4.next = some (.cells 5 [.str x.1, u64 (x.2.1 : Int), u64 (x.2.2.1 : Int), u64 (x.2.2.2.1 : Int), u64 (x.2.2.2.2 : Int)]) := by rw [s6.keep _ (by simp) hwn hb4]; simp
          have n6 : b6 ≠ some σ4.next := fun e => by
            rcases s6.own _ e with e | e
            · exact hb4 e
            · simp at e; omega
          have gn6 := s6.next
          simp at gn6
          simp [lk_cons, m6]
          refine wu64_c q6 (n := x.2.2.1) (by simp [beN_len] at hbl ⊢; omega) _ fun σ7 b7 q7 s7 => ?_
          have m7 := (s7.keep σ4.next (by omega) hwn n6).trans m6
          have n7 : b7 ≠ some σ4.next := fun e => by
            rcases s7.own _ e with e | e
            · exact n6 e
            · omega
          have gn7 := s7.next
          simp [lk_cons, m7]
          refine wu64_c q7 (n := x.2.2.2.1) (by simp [beN_len] at hbl ⊢; omega) _ fun σ8 b8 q8 s8 => ?_
          have m8 := (s8.keep σ4.next (by omega) hwn n7).trans m7
          have gn8 := s8.next
          simp [lk_cons, m8]
          refine wu64_c q8 (n := x.2.2.2.2) (by simp [beN_len] at hbl ⊢; omega) _ fun σ9 b9 q9 s9 => ?_
          simp [lk_cons, w1]
          refine ⟨l.length - (i + 1), by omega, i + 1, b9, rfl, by omega, ?_, s4.trans (s5.trans (s6.trans (s7.trans (s8.trans s9)))), rfl⟩
          rw [htk, lnsB_snoc]
          simpa [lnB, List.append_assoc] using q9
        · have : i = l.length := by omega
          subst this
          rw [List.take_length] at q4
          simp [lk_cons]
          exact fin σ4 b4 (by rw [← List.append_assoc]; exact q4) s4
end Go.Proofs.YticefdfhcahlfaaDoor.AM



