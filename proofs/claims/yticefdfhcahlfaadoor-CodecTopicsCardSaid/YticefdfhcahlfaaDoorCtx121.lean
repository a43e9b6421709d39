/- What the functions of this chapter give: their contracts over the machine. -/
import Derived.Test.YticefdfhcahlfaaDoorCt121
/- Ledgers: Has, Between, All. -/
namespace Go.Proofs.YticefdfhcahlfaaDoor.AM
set_option maxRecDepth 100000
set_option linter.unusedVariables false
set_option linter.unusedSimpArgs false

end Go.Proofs.YticefdfhcahlfaaDoor.AM

/- Ledgers: All, the document's Next. -/
namespace Go.Proofs.YticefdfhcahlfaaDoor.AM
set_option maxRecDepth 100000
set_option linter.unusedVariables false
set_option linter.unusedSimpArgs false

theorem Out.set {lo : Nat} {σ' : St} {v : AVal} {l : List S25} (h : Out lo σ' v l) (b : Blk) : Out lo ⟨σ'.mem.set σ'.next b, σ'.next + 1⟩ v l := by
  rcases h with h | ⟨o, h1, h2, h3, h4, h5⟩
  · exact .inl h
  · exact .inr ⟨o, h1, h2, h3, by show o < σ'.next + 1; omega, by show (σ'.mem.set σ'.next b).get o = _; rw [Mem.get_set_ne _ _ (by omega)]; exact h5⟩
theorem out_app {lo : Nat} {ρ : St} {ov : AVal} {acc : List S25} (ho : Out lo ρ ov acc) (hacc : acc.length ≤ 100000) {b : Nat} {x y : Int} (hb : ρ.mem.get b = some (.cells 2 [u64 x, u64 y])) (hlo : lo ≤ ρ.next) :
    ∃ w ρ', evalV ρ (.append 2 16 ov (.sl b 0 1 1 true)) = some (w, ρ') ∧ Out lo ρ' w (acc ++ [⟨x, y⟩]) ∧ ρ'.next = ρ.next + 1 ∧ ∀ a, a < lo → ρ'.mem.get a = ρ.mem.get a := by
  rcases ho with ⟨rfl, rfl⟩ | ⟨o, rfl, h2, h3, h4, h5⟩
  · refine ⟨.sl ρ.next 0 1 1 false, ⟨ρ.mem.set ρ.next (.cells 2 [u64 x, u64 y]), ρ.next + 1⟩, by simp [srcL, hb], .inr ⟨ρ.next, rfl, by simp, hlo, Nat.lt_succ_self _, by simp [rc]⟩, rfl, fun a ha => ?_⟩
    simp [show ¬ a = ρ.next by omega]
  · have k1 : ¬ acc.length + 1 ≤ acc.length := by omega
    have k2 : acc.length * 2 ≤ (rc acc).length := by rw [rc_len]; omega
    have k3 : (acc.length + 1) * 16 ≤ 140737488355328 ∧ acc.length ≤ 9223372036854775806 := by omega
    have k4 : (rc acc).take (acc.length * 2) = rc acc := List.take_of_length_le (by rw [rc_len]; omega)
    refine ⟨.sl ρ.next 0 (acc.length + 1) (acc.length + 1) false, ⟨(ρ.mem.del o).set ρ.next (.cells 2 (rc acc ++ [u64 x, u64 y])), ρ.next + 1⟩, by simp [srcL, hb, h5, k1, k2, k3, k4], .inr ⟨ρ.next, by simp, by simp, hlo, Nat.lt_succ_self _, by simp [rc_app, rc]⟩, rfl, fun a ha => ?_⟩
    simp [show ¬ a = ρ.next by omega, show ¬ a = o by omega]

end Go.Proofs.YticefdfhcahlfaaDoor.AM

/- The document's Next and Has. -/
namespace Go.Proofs.YticefdfhcahlfaaDoor.AM
set_option maxRecDepth 100000
set_option linter.unusedVariables false
set_option linter.unusedSimpArgs false

end Go.Proofs.YticefdfhcahlfaaDoor.AM

/- Gaps; what is held. -/
namespace Go.Proofs.YticefdfhcahlfaaDoor.AM
set_option maxRecDepth 100000
set_option linter.unusedVariables false
set_option linter.unusedSimpArgs false

end Go.Proofs.YticefdfhcahlfaaDoor.AM

/- What is held; Acked. -/
namespace Go.Proofs.YticefdfhcahlfaaDoor.AM
set_option maxRecDepth 100000
set_option linter.unusedVariables false
set_option linter.unusedSimpArgs false

theorem RgI.upto {v : AVal} {l : List S25} (h : RgI v l) (lo : Nat) : v.upto lo = true := by
  rcases h with ⟨rfl, rfl⟩ | ⟨t, rfl⟩
  · rfl
  · simp [rc_upto]
theorem RgI.one {v : AVal} {l : List S25} (h : RgI v l) : v.one = true ∧ cellsOf v = [v] := by
  rcases h with ⟨rfl, rfl⟩ | ⟨t, rfl⟩ <;> simp
def HC : List AVal → List Hd → Prop
  | [], [] => True
  | a :: b :: cs, x :: xs => a = u64 x.f0 ∧ RgI b x.f1 ∧ HC cs xs
  | _, _ => False
theorem HC.get : ∀ {cs : List AVal} {xs : List Hd} {i : Nat} {x : Hd}, HC cs xs → xs[i]? = some x → ∃ r, RgI r x.f1 ∧ (cs.drop (i * 2)).take 2 = [u64 x.f0, r]
  | a :: b :: cs, y :: xs, 0, x, h, hx => by
    simp at hx; subst hx
    exact ⟨b, h.2.1, by simp [h.1]⟩
  | a :: b :: cs, y :: xs, i + 1, x, h, hx => by
    obtain ⟨r, h1, h2⟩ := h.2.2.get (i := i) (by simpa using hx)
    exact ⟨r, h1, by rw [show (i + 1) * 2 = i * 2 + 1 + 1 by omega]; simpa using h2⟩
  | [], [], _, _, _, hx => by simp at hx
  | [], _ :: _, _, _, h, _ => h.elim
  | [_], _, _, _, h, _ => by cases ‹List Hd› <;> exact h.elim
  | _ :: _ :: _, [], _, _, h, _ => h.elim
/-- What is held, not changing. -/
def HI (v : AVal) (h : List Hd) : Prop := v = .nilsl ∧ h = [] ∨ ∃ cs t, v = .isl cs h.length t ∧ HC cs h
theorem HI.len {v : AVal} {h : List Hd} (hh : HI v h) (ρ : St) : evalV ρ (.len 1 v) = some (i64 h.length, ρ) := by
  rcases hh with ⟨rfl, rfl⟩ | ⟨cs, t, rfl, _⟩ <;> simp
theorem HI.one {v : AVal} {h : List Hd} (hh : HI v h) : v.one = true ∧ cellsOf v = [v] := by
  rcases hh with ⟨rfl, rfl⟩ | ⟨cs, t, rfl, _⟩ <;> simp
theorem HI.at {v : AVal} {h : List Hd} (hh : HI v h) {i : Nat} {x : Hd} (hx : h[i]? = some x) (ρ : St) :
    ∃ p r, RgI r x.f1 ∧ evalV ρ (.idxAddr 2 v (i64 i)) = some (p, ρ) ∧ evalV ρ (.ldn 2 p) = some (.agg [u64 x.f0, r], ρ) ∧ (∃ q, evalV ρ (.fieldAddr 0 p) = some (q, ρ) ∧ evalV ρ (.ld1 q) = some (u64 x.f0, ρ)) ∧ ∃ q, evalV ρ (.fieldAddr 1 p) = some (q, ρ) ∧ evalV ρ (.ld1 q) = some (r, ρ) := by
  have hi := (List.getElem?_eq_some_iff.1 hx).1
  rcases hh with ⟨rfl, rfl⟩ | ⟨cs, t, rfl, hc⟩
  · simp at hx
  · obtain ⟨r, hr, e⟩ := hc.get hx
    have h1 := hr.one.1
    exact ⟨.iptr [u64 x.f0, r], r, hr, by simp [hi, e], by simp [h1], ⟨.iptr [u64 x.f0, r], by simp, by simp⟩, ⟨.iptr [r], by simp, by simp⟩⟩

/-- A cursor. -/
abbrev cv (ml me : Int) (v : AVal) : AVal := .agg [u64 ml, u64 me, v]
end Go.Proofs.YticefdfhcahlfaaDoor.AM

/- What is held, grown in memory; put. -/
namespace Go.Proofs.YticefdfhcahlfaaDoor.AM
set_option maxRecDepth 100000
set_option linter.unusedVariables false
set_option linter.unusedSimpArgs false

/-- Ranges that do not change, or lie in a new block. -/
def RgN (lo hi : Nat) (m : Mem) (v : AVal) (l : List S25) : Prop := RgI v l ∨ ∃ b c t, v = .sl b 0 l.length c t ∧ lo ≤ b ∧ b < hi ∧ m.get b = some (.cells 2 (rc l))
theorem RgN.mono {lo lo' hi hi' : Nat} {m m' : Mem} {v : AVal} {l : List S25} (h : RgN lo hi m v l) (h1 : lo' ≤ lo) (h2 : hi ≤ hi') (hm : ∀ a, lo ≤ a → a < hi → m'.get a = m.get a) : RgN lo' hi' m' v l := by
  rcases h with h | ⟨b, c, t, e, k1, k2, k3⟩
  · exact .inl h
  · exact .inr ⟨b, c, t, e, Nat.le_trans h1 k1, Nat.lt_of_lt_of_le k2 h2, (hm b k1 k2).trans k3⟩
theorem rc_frz0 (lo : Nat) (m : Mem) (l : List S25) : listM (frzD lo m 0) (rc l) = some (rc l) := by
  refine listM_id ?_
  induction l with
  | nil => intro x hx; simp [rc] at hx
  | cons y t ih =>
    intro x hx
    simp only [rc, List.mem_cons] at hx
    rcases hx with rfl | rfl | hx
    · simp [frzD]
    · simp [frzD]
    · exact ih x hx
theorem RgN.frz {lo lo' hi : Nat} {m : Mem} {v : AVal} {l : List S25} (h : RgN lo hi m v l) (hl : lo' ≤ lo) : ∃ v', frzD lo' m 1 v = some v' ∧ RgI v' l := by
  rcases h with h | ⟨b, c, t, rfl, k1, k2, k3⟩
  · refine ⟨v, ?_, h⟩
    have := h.upto lo'
    rcases h with ⟨rfl, rfl⟩ | ⟨t, rfl⟩
    · simp [frzD]
    · simp only [frzD, this, if_true]
  · refine ⟨.isl (rc l) l.length (t && decide (c = l.length)), ?_, .inr ⟨_, rfl⟩⟩
    rw [frzD_sl (Nat.le_trans hl k1) k3 (by rw [rc_len]; omega), List.drop_zero, List.take_of_length_le (by rw [rc_len]; omega), rc_frz0]
    rfl
def HCM (lo hi : Nat) (m : Mem) : List AVal → List Hd → Prop
  | [], [] => True
  | a :: b :: cs, x :: xs => a = u64 x.f0 ∧ RgN lo hi m b x.f1 ∧ HCM lo hi m cs xs
  | _, _ => False
theorem HCM.len {lo hi : Nat} {m : Mem} : ∀ {cs : List AVal} {xs : List Hd}, HCM lo hi m cs xs → cs.length = xs.length * 2
  | [], [], _ => rfl
  | a :: b :: cs, x :: xs, h => by simp [h.2.2.len]; omega
  | [], _ :: _, h => h.elim
  | [_], _, h => by cases ‹List Hd› <;> exact h.elim
  | _ :: _ :: _, [], h => h.elim
theorem HCM.app {lo hi : Nat} {m : Mem} : ∀ {cs ds : List AVal} {xs ys : List Hd}, HCM lo hi m cs xs → HCM lo hi m ds ys → HCM lo hi m (cs ++ ds) (xs ++ ys)
  | [], ds, [], ys, _, h => h
  | a :: b :: cs, ds, x :: xs, ys, h, k => ⟨h.1, h.2.1, h.2.2.app k⟩
  | [], _, _ :: _, _, h, _ => h.elim
  | [_], _, _, _, h, _ => by cases ‹List Hd› <;> exact h.elim
  | _ :: _ :: _, _, [], _, h, _ => h.elim
theorem HCM.mono {lo lo' hi hi' : Nat} {m m' : Mem} (h1 : lo' ≤ lo) (h2 : hi ≤ hi') (hm : ∀ a, lo ≤ a → a < hi → m'.get a = m.get a) : ∀ {cs : List AVal} {xs : List Hd}, HCM lo hi m cs xs → HCM lo' hi' m' cs xs
  | [], [], _ => trivial
  | a :: b :: cs, x :: xs, h => ⟨h.1, h.2.1.mono h1 h2 hm, HCM.mono h1 h2 hm h.2.2⟩
  | [], _ :: _, h => h.elim
  | [_], _, h => by cases ‹List Hd› <;> exact h.elim
  | _ :: _ :: _, [], h => h.elim
theorem HCM.frz {lo lo' hi : Nat} {m : Mem} (hl : lo' ≤ lo) : ∀ {cs : List AVal} {xs : List Hd}, HCM lo hi m cs xs → ∃ cs', listM (frzD lo' m 1) cs = some cs' ∧ HC cs' xs
  | [], [], _ => ⟨[], rfl, trivial⟩
  | a :: b :: cs, x :: xs, h => by
    obtain ⟨cs', h1, h2⟩ := HCM.frz hl h.2.2
    obtain ⟨b', h3, h4⟩ := h.2.1.frz hl
    refine ⟨u64 x.f0 :: b' :: cs', ?_, rfl, h4, h2⟩
    have e : frzD lo' m 1 (u64 x.f0) = some (u64 x.f0) := by simp [frzD]
    rw [listM_cons, h.1, e, listM_cons, h3, h1]
    rfl
  | [], _ :: _, h => h.elim
  | [_], _, h => by cases ‹List Hd› <;> exact h.elim
  | _ :: _ :: _, [], h => h.elim
/-- What is held, grown by appends. -/
def HOut (lo : Nat) (σ' : St) (v : AVal) (h : List Hd) : Prop := v = .nilsl ∧ h = [] ∨ ∃ o cs, v = .sl o 0 h.length h.length false ∧ 0 < h.length ∧ lo ≤ o ∧ o < σ'.next ∧ σ'.mem.get o = some (.cells 2 cs) ∧ HCM lo o σ'.mem cs h
theorem HOut.one {lo : Nat} {σ' : St} {v : AVal} {h : List Hd} (hh : HOut lo σ' v h) : v.one = true ∧ cellsOf v = [v] := by
  rcases hh with ⟨rfl, _⟩ | ⟨o, cs, rfl, _⟩ <;> exact ⟨rfl, rfl⟩
theorem HOut.frame {lo : Nat} {σ1 σ2 : St} {v : AVal} {h : List Hd} (hh : HOut lo σ1 v h) (hn : σ1.next ≤ σ2.next) (hm : ∀ a, lo ≤ a → a < σ1.next → σ2.mem.get a = σ1.mem.get a) : HOut lo σ2 v h := by
  rcases hh with hh | ⟨o, cs, h1, h2, h3, h4, h5, h6⟩
  · exact .inl hh
  · exact .inr ⟨o, cs, h1, h2, h3, by omega, (hm o h3 h4).trans h5, h6.mono (Nat.le_refl _) (Nat.le_refl _) fun a ha hb => hm a ha (by omega)⟩
theorem HOut.frz {lo lo' : Nat} {σ' : St} {v : AVal} {h : List Hd} (hh : HOut lo σ' v h) (hl : lo' ≤ lo) (ml me : Int) : ∃ hv, frzD lo' σ'.mem 3 (cv ml me v) = some (cv ml me hv) ∧ HI hv h := by
  have e : ∀ n : Int, frzD lo' σ'.mem 2 (u64 n) = some (u64 n) := fun n => by simp [frzD]
  have ag : ∀ vs : List AVal, frzD lo' σ'.mem 3 (.agg vs) = (listM (frzD lo' σ'.mem 2) vs).map .agg := fun vs => by simp only [frzD]
  rcases hh with ⟨rfl, rfl⟩ | ⟨o, cs, rfl, h2, h3, h4, h5, h6⟩
  · refine ⟨.nilsl, ?_, .inl ⟨rfl, rfl⟩⟩
    rw [ag, listM_cons, e, listM_cons, e, listM_cons]
    simp [frzD, AM.listM]
  · obtain ⟨cs', k1, k2⟩ := h6.frz hl
    have hlen := h6.len
    have es : frzD lo' σ'.mem 2 (.sl o 0 h.length h.length false) = some (.isl cs' h.length false) := by
      rw [frzD_sl (Nat.le_trans hl h3) h5 (by rw [hlen]; omega), List.drop_zero, List.take_of_length_le (by rw [hlen]; omega), k1]
      rfl
    refine ⟨.isl cs' h.length false, ?_, .inr ⟨cs', false, rfl, k2⟩⟩
    rw [ag, listM_cons, e, listM_cons, e, listM_cons, es]
    rfl
theorem hout_app {lo : Nat} {ρ0 ρ : St} {ov : AVal} {h : List Hd} (ho : HOut lo ρ0 ov h) (hn : ρ0.next ≤ ρ.next) (hm : ∀ a, lo ≤ a → a < ρ0.next → ρ.mem.get a = ρ0.mem.get a) (hlen : h.length ≤ 100000) {b : Nat} {L : Int} {rv : AVal} {r : List S25}
    (hb : ρ.mem.get b = some (.cells 2 [u64 L, rv])) (hr : RgN ρ0.next ρ.next ρ.mem rv r) (hlo : lo ≤ ρ0.next) :
    ∃ w ρ', evalV ρ (.append 2 32 ov (.sl b 0 1 1 true)) = some (w, ρ') ∧ HOut lo ρ' w (h ++ [⟨L, r⟩]) ∧ ρ'.next = ρ.next + 1 ∧ ∀ a, a < ρ.next → (a < lo ∨ ρ0.next ≤ a) → ρ'.mem.get a = ρ.mem.get a := by
  rcases ho with ⟨rfl, rfl⟩ | ⟨o, cs, rfl, h2, h3, h4, h5, h6⟩
  · refine ⟨.sl ρ.next 0 1 1 false, ⟨ρ.mem.set ρ.next (.cells 2 [u64 L, rv]), ρ.next + 1⟩, by simp [srcL, hb], .inr ⟨ρ.next, [u64 L, rv], rfl, by simp, by omega, Nat.lt_succ_self _, by simp, rfl, ?_, trivial⟩, rfl, fun a ha _ => ?_⟩
    · exact hr.mono hlo (Nat.le_refl _) fun a ha hb => by simp [show ¬ a = ρ.next by omega]
    · simp [show ¬ a = ρ.next by omega]
  · have hl := h6.len
    have k1 : ¬ h.length + 1 ≤ h.length := by omega
    have k2 : h.length * 2 ≤ cs.length := by omega
    have k3 : (h.length + 1) * 32 ≤ 140737488355328 ∧ h.length ≤ 9223372036854775806 := by omega
    have k4 : cs.take (h.length * 2) = cs := List.take_of_length_le (by omega)
    have hmo := (hm o h3 h4).trans h5
    refine ⟨.sl ρ.next 0 (h.length + 1) (h.length + 1) false, ⟨(ρ.mem.del o).set ρ.next (.cells 2 (cs ++ [u64 L, rv])), ρ.next + 1⟩, by simp [srcL, hb, hmo, k1, k2, k3, k4], .inr ⟨ρ.next, cs ++ [u64 L, rv], by simp, by simp, by omega, Nat.lt_succ_self _, by simp, HCM.app ?_ ⟨rfl, ?_, trivial⟩⟩, rfl, fun a ha hb => ?_⟩
    · exact h6.mono (Nat.le_refl _) (by omega) fun a ha hb => by simp [show ¬ a = ρ.next by omega, show ¬ a = o by omega]; exact hm a ha (by omega)
    · exact hr.mono hlo (Nat.le_refl _) fun a ha hb => by simp [show ¬ a = ρ.next by omega, show ¬ a = o by omega]
    · simp [show ¬ a = ρ.next by omega, show ¬ a = o by omega]

end Go.Proofs.YticefdfhcahlfaaDoor.AM

/- put. -/
namespace Go.Proofs.YticefdfhcahlfaaDoor.AM
set_option maxRecDepth 100000
set_option linter.unusedVariables false
set_option linter.unusedSimpArgs false

end Go.Proofs.YticefdfhcahlfaaDoor.AM

/- hold, of the document. -/
namespace Go.Proofs.YticefdfhcahlfaaDoor.AM
set_option maxRecDepth 100000
set_option linter.unusedVariables false
set_option linter.unusedSimpArgs false

end Go.Proofs.YticefdfhcahlfaaDoor.AM

/- tight. -/
namespace Go.Proofs.YticefdfhcahlfaaDoor.AM
set_option maxRecDepth 100000
set_option linter.unusedVariables false
set_option linter.unusedSimpArgs false

theorem wp_cut {P : Program} {a b : ACode} {Q : Post} {r : Regs} {σ : St} (M : Regs → St → Prop) (h : a.wp P (fun e r σ => e = .normal ∧ M r σ) r σ) (hq : ∀ r σ, M r σ → b.wp P Q r σ) : ACode.wp P (.seq a b) Q r σ := by
  simp only [ACode.wp]
  refine wp_mono' h ?_
  rintro e r σ ⟨rfl, hm⟩
  exact hq r σ hm

end Go.Proofs.YticefdfhcahlfaaDoor.AM

/- tight, of the document. -/
namespace Go.Proofs.YticefdfhcahlfaaDoor.AM
set_option maxRecDepth 100000
set_option linter.unusedVariables false
set_option linter.unusedSimpArgs false

end Go.Proofs.YticefdfhcahlfaaDoor.AM

/- Acked, Ack, AckAll. -/
namespace Go.Proofs.YticefdfhcahlfaaDoor.AM
set_option maxRecDepth 100000
set_option linter.unusedVariables false
set_option linter.unusedSimpArgs false

end Go.Proofs.YticefdfhcahlfaaDoor.AM

/- Ack and AckAll of the document; AckAll. -/
namespace Go.Proofs.YticefdfhcahlfaaDoor.AM
set_option maxRecDepth 100000
set_option linter.unusedVariables false
set_option linter.unusedSimpArgs false

theorem wp_cutK {P : Program} {a : ACode} {Q : Post} {r : Regs} {σ : St} (M : Regs → St → Prop) (h : a.wp P (fun e r σ => e = .normal ∧ M r σ) r σ) (hq : ∀ r σ, M r σ → Q .normal r σ) : ACode.wp P a Q r σ := by
  refine wp_mono' h ?_
  rintro e r σ ⟨rfl, hm⟩
  exact hq r σ hm
end Go.Proofs.YticefdfhcahlfaaDoor.AM

/- Same; Made, Place. -/
namespace Go.Proofs.YticefdfhcahlfaaDoor.AM
set_option maxRecDepth 100000
set_option linter.unusedVariables false
set_option linter.unusedSimpArgs false

theorem place_c (a b : Int) (raw : Bool) (ha : 0 ≤ a ∧ a ≤ 18446744073709551615) (hb : 0 ≤ b ∧ b ≤ 18446744073709551615) (σ : St) (Q : AVal → St → Prop) (h : ∀ x y : Int, (0 ≤ x ∧ x ≤ 18446744073709551615) → (0 ≤ y ∧ y ≤ 18446744073709551615) → (raw = false → y < 8 ∧ x < 16) → Q (ps x y) σ) : ACall Tryd.prog 71 [ps a b, .bool raw] σ Q := by
  refine ACall.scrub ?_
  refine ACall.of_compF hmx (fun a w => Tryd.call71 a w) Tryd.func71 cf71 (n := 2) (by decide) rfl ?_
  cases raw with
  | true =>
    simp [ac71, rs71, lk_cons, storeL, fillL]
    exact ⟨fun a ha => by simp [show ¬ a = σ.next by omega, show ¬ a = σ.next + 1 by omega], h a b ha hb (by simp)⟩
  | false =>
    have w1 : Int.tmod a 16 = a % 16 := Int.tmod_eq_emod_of_nonneg ha.1
    have w2 : Int.tmod b 8 = b % 8 := Int.tmod_eq_emod_of_nonneg hb.1
    simp [ac71, rs71, lk_cons, storeL, fillL, w1, w2]
    exact ⟨fun a ha => by simp [show ¬ a = σ.next by omega, show ¬ a = σ.next + 1 by omega], h (a % 16) (b % 8) (by omega) (by omega) (by omega)⟩

def LOut (lo : Nat) (σ' : St) (v : AVal) (l : List Ld) : Prop := v = .nilsl ∧ l = [] ∨ ∃ o, v = .sl o 0 l.length l.length false ∧ 0 < l.length ∧ lo ≤ o ∧ o < σ'.next ∧ σ'.mem.get o = some (.cells 3 (ldc l))
theorem ldc_app : ∀ (l m : List Ld), ldc (l ++ m) = ldc l ++ ldc m
  | [], m => rfl
  | x :: t, m => by simp [ldc, ldc_app t m]
theorem LOut.len {lo : Nat} {σ' : St} {v : AVal} {l : List Ld} (h : LOut lo σ' v l) (ρ : St) : evalV ρ (.len 1 v) = some (i64 l.length, ρ) := by
  rcases h with ⟨rfl, rfl⟩ | ⟨o, rfl, _⟩ <;> simp
theorem lout_app {lo : Nat} {ρ0 ρ : St} {ov : AVal} {acc : List Ld} (ho : LOut lo ρ0 ov acc) (hm : ∀ a, lo ≤ a → a < ρ0.next → ρ.mem.get a = ρ0.mem.get a) (hn : ρ0.next ≤ ρ.next) (hacc : acc.length ≤ 100000) {b : Nat} (x : Ld) (hb : ρ.mem.get b = some (.cells 3 [u64 x.f0, .bool x.f1, u64 x.f2])) (hlo : lo ≤ ρ0.next) :
    ∃ w ρ', evalV ρ (.append 3 24 ov (.sl b 0 1 1 true)) = some (w, ρ') ∧ LOut lo ρ' w (acc ++ [x]) ∧ ρ'.next = ρ.next + 1 ∧ ∀ a, a < lo → ρ'.mem.get a = ρ.mem.get a := by
  rcases ho with ⟨rfl, rfl⟩ | ⟨o, rfl, h2, h3, h4, h5⟩
  · refine ⟨.sl ρ.next 0 1 1 false, ⟨ρ.mem.set ρ.next (.cells 3 [u64 x.f0, .bool x.f1, u64 x.f2]), ρ.next + 1⟩, by simp [srcL, hb], .inr ⟨ρ.next, rfl, by simp, by omega, Nat.lt_succ_self _, by simp [ldc]⟩, rfl, fun a ha => ?_⟩
    simp [show ¬ a = ρ.next by omega]
  · have k1 : ¬ acc.length + 1 ≤ acc.length := by omega
    have k2 : acc.length * 3 ≤ (ldc acc).length := by rw [ldc_len]; omega
    have k3 : (acc.length + 1) * 24 ≤ 140737488355328 ∧ acc.length ≤ 9223372036854775806 := by omega
    have k4 : (ldc acc).take (acc.length * 3) = ldc acc := List.take_of_length_le (by rw [ldc_len]; omega)
    have h6 := (hm o h3 h4).trans h5
    refine ⟨.sl ρ.next 0 (acc.length + 1) (acc.length + 1) false, ⟨(ρ.mem.del o).set ρ.next (.cells 3 (ldc acc ++ [u64 x.f0, .bool x.f1, u64 x.f2])), ρ.next + 1⟩, by simp [srcL, hb, h6, k1, k2, k3, k4], .inr ⟨ρ.next, by simp, by simp, by omega, Nat.lt_succ_self _, by simp [ldc_app, ldc]⟩, rfl, fun a ha => ?_⟩
    simp [show ¬ a = ρ.next by omega, show ¬ a = o by omega]
theorem BytesOf.at14 {d : AVal} {l : List UInt8} (h : BytesOf d l) {i : Nat} {x : UInt8} (hx : l[i]? = some x) (ρ : St) : ∃ p, evalV ρ (.idxAddr 1 d (i64 i)) = some (p, ρ) ∧ evalV ρ (.ld1 p) = some (.int .u8 (x.toNat : Int), ρ) := by
  have hi := (List.getElem?_eq_some_iff.1 hx).1
  rcases h with ⟨rfl, rfl⟩ | ⟨t, rfl⟩
  · simp at hx
  · have e : ((bytesV l).drop i).take 1 = [.int .u8 (x.toNat : Int)] := by
      have hl : i < (bytesV l).length := by rw [bytesV_len]; exact hi
      rw [List.drop_eq_getElem_cons hl]
      have : (bytesV l)[i] = .int .u8 (x.toNat : Int) := by
        have := (List.getElem?_eq_some_iff.1 hx).2
        simp [bytesV, this]
      simp [this]
    exact ⟨.iptr [.int .u8 (x.toNat : Int)], by simp [hi, e], by simp⟩
/-- Few ledgers, that rise. -/
def Mk (t : List Ld) : Prop := t.length ≤ 13 ∧ RisingP t ∧ ∀ x ∈ t, (0 ≤ x.f0 ∧ x.f0 ≤ 52) ∧ 0 ≤ x.f2 ∧ x.f2 ≤ 5
def MdJ (d : AVal) (op : Bool) (l : List UInt8) (σ0 : St) (mm : Nat) (rg : Regs) (σ' : St) : Prop := ∃ (i : Nat) (ov : AVal) (acc : List Ld) (id : Int), mm = l.length - i ∧ i ≤ l.length ∧ i ≤ 13 ∧ acc.length = i ∧ Mk acc ∧ (∀ x ∈ acc, x.f0 ≤ id) ∧ 0 ≤ id ∧ id ≤ 4 * (i : Int) ∧ Grow σ0 σ' ∧ LOut σ0.next σ' ov acc ∧ rg = [(1, .bool op), (5, ov), (6, u64 id), (10, d), (11, i64 l.length), (12, i64 i)]
end Go.Proofs.YticefdfhcahlfaaDoor.AM

/- Right. -/
namespace Go.Proofs.YticefdfhcahlfaaDoor.AM
set_option maxRecDepth 100000
set_option linter.unusedVariables false
set_option linter.unusedSimpArgs false

def Bnd (l : List S25) : Prop := ∀ z ∈ l, 0 ≤ z.f0 ∧ 0 ≤ z.f1 ∧ z.f1 ≤ 18446744073709551615
/-- A cursor as it is given. -/
def HArg (h : List Hd) : Prop := h.length ≤ 9223372036854775806 ∧ ∀ x ∈ h, (0 ≤ x.f0 ∧ x.f0 ≤ 18446744073709551615) ∧ Bnd x.f1 ∧ x.f1.length ≤ 9223372036854775806
/-- What Right has made so far. -/
def RInv (ml me last : Int) (i : Nat) (out : List Hd) : Prop := COk ml me out ∧ out.length ≤ i ∧ out.length ≤ 7 ∧ (∀ x ∈ out, x.f1.length ≤ 14) ∧ (∀ x ∈ out, x.f0 ≤ last) ∧ 0 ≤ last
def RiJr (hv : AVal) (raw : Bool) (ml me : Int) (h : List Hd) (σ0 : St) (mm : Nat) (rg : Regs) (σ' : St) : Prop := ∃ (i : Nat) (last : Int) (ov : AVal) (acc : List Hd), mm = h.length - i ∧ i ≤ h.length ∧ i ≤ 7 ∧ RInv ml me last i acc ∧ (∀ a, a < σ0.next → σ'.mem.get a = σ0.mem.get a) ∧ σ0.next + 1 + 1 + 1 ≤ σ'.next ∧ HOut (σ0.next + 1 + 1 + 1) σ' ov acc ∧
  σ'.mem.get (σ0.next + 1) = some (.cells 3 [u64 0, u64 0, .nilsl]) ∧ σ'.mem.get (σ0.next + 1 + 1) = some (.cells 3 [u64 ml, u64 me, ov]) ∧
  rg = [(1, .bool raw), (4, .ptr (σ0.next + 1) 0), (5, .ptr (σ0.next + 1 + 1) 0), (6, u64 last), (19, hv), (20, i64 h.length), (21, i64 i)]
def RiJr2 (hv rv : AVal) (raw : Bool) (last : Int) (rs : List S25) (h : List Hd) (i : Nat) (n0 n8 : Nat) (σ1 : St) (mm : Nat) (rg : Regs) (σ' : St) : Prop := ∃ (j : Nat) (av : AVal) (acc : List S25), mm = rs.length - j ∧ j ≤ rs.length ∧ acc.length ≤ 6 ∧ acc.length ≤ j ∧ Bnd acc ∧ σ1.next ≤ σ'.next ∧ (∀ a, a < σ1.next → σ'.mem.get a = σ1.mem.get a) ∧ Out σ1.next σ' av acc ∧
  rg = [(1, .bool raw), (4, .ptr (n0 + 1) 0), (5, .ptr (n0 + 1 + 1) 0), (6, u64 last), (8, .ptr n8 0), (9, av), (19, hv), (20, i64 h.length), (21, i64 i), (57, rv), (58, i64 rs.length), (59, i64 j)]
theorem Out.rgm {lo : Nat} {σ' : St} {v : AVal} {l : List S25} (h : Out lo σ' v l) : RgM σ' v l := by
  rcases h with h | ⟨o, rfl, h1, h2, h3, h4⟩
  · exact .inl (.inl h)
  · exact .inr ⟨o, 0, l.length, false, rc l, rfl, Nat.le_refl _, h3, h4, by rw [rc_len]; omega, by rw [List.drop_zero, List.take_of_length_le (by rw [rc_len]; omega)]⟩
set_option maxHeartbeats 2000000 in
theorem right14_c {hv : AVal} {h : List Hd} (hh : HI hv h) (ha : HArg h) (a b : Int) (raw : Bool) (hab : (0 ≤ a ∧ a ≤ 18446744073709551615) ∧ 0 ≤ b ∧ b ≤ 18446744073709551615) (σ : St) (Q : AVal → St → Prop)
    (hq : ∀ ml me hv' h', (0 ≤ ml ∧ ml ≤ 18446744073709551615) → (0 ≤ me ∧ me ≤ 18446744073709551615) → HI hv' h' → COk ml me h' → h'.length ≤ 7 → (∀ x ∈ h', x.f1.length ≤ 14) → Q (cv ml me hv') σ) : ACall Tryd.prog 30 [cv a b hv, .bool raw] σ Q := by
  refine ACall.freezeD 3 ?_
  refine ACall.of_compF hmx (fun a w => Tryd.call30 a w) Tryd.func30 cf30 (n := 2) (by decide) rfl ?_
  have l1 := hh.len
  have h1 := hh.one.1
  have h2 := hh.one.2
  have u1 : ¬ σ.next = σ.next + 1 + 1 := by omega
  simp only [ac30, rs30]
  simp [lk_cons, h1, h2, fillL, storeL]
  refine place_c a b raw hab.1 hab.2 _ _ fun ml me hml hme _ => ?_
  simp [lk_cons, h1, h2, fillL, storeL, u1, ↓l1]
  refine wp_loop (RiJr hv raw ml me h σ) h.length ?_ ?_
  · exact ⟨0, 0, .nilsl, [], rfl, Nat.zero_le _, by omega, ⟨⟨trivial, by simp, fun L n hn => absurd hn (in_nil n)⟩, by simp, by simp, by simp, by simp, by omega⟩, fun k hk => by simp [show ¬ k = σ.next by omega, show ¬ k = σ.next + 1 by omega, show ¬ k = σ.next + 1 + 1 by omega], by simp, .inl ⟨rfl, rfl⟩, by simp, by simp, rfl⟩
  · rintro mm rg σ' ⟨i, last, ov, acc, rfl, hi, hi7, ⟨hC, hoi, ho7, hrl, hlast, hl0⟩, gold, hn, ho, m1, m2, rfl⟩
    have z1 : ¬ σ.next = σ'.next := by omega
    have z2 : ¬ σ.next + 1 = σ'.next := by omega
    have z3 : ¬ σ.next + 1 + 1 = σ'.next := by omega
    have o1 := ho.one.1
    have o2 := ho.one.2
    have olen : ∀ ρ : St, evalV ρ (.len 1 ov) = some (i64 acc.length, ρ) := fun ρ => by
      rcases ho with ⟨rfl, rfl⟩ | ⟨o, cs, rfl, _⟩ <;> simp
    have done : ∀ ρ : St, σ'.next ≤ ρ.next → (∀ k, k < σ'.next → ρ.mem.get k = σ'.mem.get k) → Old σ ⟨ρ.mem.set (σ.next + 1) (.cells 3 [u64 ml, u64 me, ov]), ρ.next⟩ ∧ ∃ v', frzD σ.next (ρ.mem.set (σ.next + 1) (.cells 3 [u64 ml, u64 me, ov])) 3 (.agg [u64 ml, u64 me, ov]) = some v' ∧ Q v' σ := by
      intro ρ hρ hm
      have e5 : HOut (σ.next + 1 + 1 + 1) ⟨ρ.mem.set (σ.next + 1) (.cells 3 [u64 ml, u64 me, ov]), ρ.next⟩ ov acc := ho.frame hρ fun k hk hb => by simp [show ¬ k = σ.next + 1 by omega]; exact hm k hb
      obtain ⟨hv', f1, f2⟩ := e5.frz (lo' := σ.next) (by omega) ml me
      refine ⟨fun k hk => ?_, cv ml me hv', f1, hq _ _ _ _ hml hme f2 hC ho7 hrl⟩
      simp [show ¬ k = σ.next + 1 by omega]
      rw [hm k (by omega)]
      exact gold k hk
    by_cases hlt : i < h.length
    · obtain ⟨x, hx⟩ : ∃ x, h[i]? = some x := ⟨_, List.getElem?_eq_getElem hlt⟩
      obtain ⟨k, hk⟩ : ∃ k, i + 1 = k := ⟨_, rfl⟩
      have w1 : IntKind.i64.wrap ((i : Int) + 1) = (k : Int) := by have := ha.1; rw [IntWalk.i64_in] <;> omega
      obtain ⟨p, xr, hri, p1, p2, _, _⟩ := hh.at hx σ'
      have r1 := hri.one.1
      have r2 := hri.one.2
      obtain ⟨hx0, hxb, hxl⟩ := ha.2 x (List.mem_of_getElem? hx)
      by_cases c6 : (6 : Int) < (i : Int)
      · simp [lk_cons, hlt, ↓p1, ↓p2, storeL, r1, r2, m1, m2, z1, z2, z3, c6, o1, o2]
        exact done ⟨(σ'.mem.set σ'.next (.cells 2 [.int .u64 0, .nilsl])).set σ'.next (.cells 2 [u64 x.f0, xr]), σ'.next + 1⟩ (by simp) fun k hk => by simp [show ¬ k = σ'.next by omega]
      · simp [lk_cons, hlt, ↓p1, ↓p2, storeL, r1, r2, m1, m2, z1, z2, z3, c6]
        have fin : ∀ (last' : Int) (w : AVal) (acc' : List Hd) (ρ' : St), RInv ml me last' k acc' → HOut (σ.next + 1 + 1 + 1) ρ' w acc' → σ'.next ≤ ρ'.next → (∀ a, a < σ.next + 1 + 1 → ρ'.mem.get a = σ'.mem.get a) → ρ'.mem.get (σ.next + 1 + 1) = some (.cells 3 [u64 ml, u64 me, w]) →
            ∃ mm, mm < h.length - i ∧ RiJr hv raw ml me h σ mm [(1, .bool raw), (4, .ptr (σ.next + 1) 0), (5, .ptr (σ.next + 1 + 1) 0), (6, u64 last'), (19, hv), (20, i64 h.length), (21, i64 k)] ρ' := by
          intro last' w acc' ρ' e0 e1 e2 e3 e6
          exact ⟨h.length - k, by omega, k, last', w, acc', rfl, by omega, by omega, e0, fun a ha => (e3 a (by omega)).trans (gold a ha), by omega, e1, (e3 _ (by omega)).trans m1, e6, rfl⟩
        have skip : ∀ s : St, s.next = σ'.next + 1 → (∀ k, k < σ'.next → s.mem.get k = σ'.mem.get k) → ∃ mm, mm < h.length - i ∧ RiJr hv raw ml me h σ mm [(1, .bool raw), (4, .ptr (σ.next + 1) 0), (5, .ptr (σ.next + 1 + 1) 0), (6, u64 last), (19, hv), (20, i64 h.length), (21, i64 k)] s := fun s hs hg =>
          fin last ov acc s ⟨hC, by omega, ho7, hrl, hlast, hl0⟩ (ho.frame (by omega) fun a _ hb => hg a hb) (by omega) (fun a ha => hg a (by omega)) ((hg _ (by omega)).trans m2)
        refine condK_mid (fun rg s => ∃ L : Int, (0 ≤ L ∧ L ≤ 18446744073709551615) ∧ s.next = σ'.next + 1 ∧ (∀ k, k < σ'.next → s.mem.get k = σ'.mem.get k) ∧ s.mem.get σ'.next = some (.cells 2 [u64 L, xr]) ∧ rg.lookup 1 = some (.bool raw) ∧ rg.lookup 4 = some (.ptr (σ.next + 1) 0) ∧ rg.lookup 5 = some (.ptr (σ.next + 1 + 1) 0) ∧ rg.lookup 6 = some (u64 last) ∧ rg.lookup 7 = some (i64 i) ∧ rg.lookup 8 = some (.ptr σ'.next 0) ∧ rg.lookup 19 = some hv ∧ rg.lookup 20 = some (i64 h.length) ∧ rg.lookup 21 = some (i64 i)) ?_ ?_
        · cases raw with
          | true =>
            simp [lk_cons]
            exact ⟨hx0, fun k hk => by simp [show ¬ k = σ'.next by omega]⟩
          | false =>
            simp [lk_cons, storeL]
            have e1 : Int.tmod x.f0 16 = x.f0 % 16 := Int.tmod_eq_emod_of_nonneg hx0.1
            exact ⟨by omega, fun k hk => by simp [show ¬ k = σ'.next by omega]⟩
        · rintro rg s ⟨L, hL, hsn, hsg, hs8, g1, g4, g5, g6, g7, g8, g19, g20, g21⟩
          have s2 := (hsg _ (show σ.next + 1 + 1 < σ'.next by omega)).trans m2
          have s1 := (hsg _ (show σ.next + 1 < σ'.next by omega)).trans m1
          simp only [seqK_normal, wp_seq]
          refine wp_cutK (fun rg' s' => s' = s ∧ rg' = [(1, .bool raw), (4, .ptr (σ.next + 1) 0), (5, .ptr (σ.next + 1 + 1) 0), (6, u64 last), (8, .ptr σ'.next 0), (19, hv), (20, i64 h.length), (21, i64 i), (55, .bool (decide (L < ml) || (decide (L ≤ last) && decide (0 < i) && decide (0 < acc.length))))]) ?_ ?_
          · by_cases c1 : L < ml
            · simp [lk_cons, g1, g4, g5, g6, g7, g8, g19, g20, g21, hs8, s2, c1]
            · by_cases c2 : L ≤ last
              · by_cases c3 : 0 < i
                · have c3' : (0 : Int) < (i : Int) := by omega
                  simp [lk_cons, g1, g4, g5, g6, g7, g8, g19, g20, g21, hs8, s2, c1, c2, c3, c3', o1, o2, ↓olen]
                · have c3' : ¬ (0 : Int) < (i : Int) := by omega
                  simp [lk_cons, g1, g4, g5, g6, g7, g8, g19, g20, g21, hs8, s2, c1, c2, c3, c3', o1, o2, ↓olen]
              · simp [lk_cons, g1, g4, g5, g6, g7, g8, g19, g20, g21, hs8, s2, c1, c2]
          · rintro _ _ ⟨rfl, rfl⟩
            cases hsk : (decide (L < ml) || (decide (L ≤ last) && decide (0 < i) && decide (0 < acc.length))) with
            | true =>
              simp [lk_cons, w1]
              exact skip _ hsn hsg
            | false =>
              rename_i s
              have hnot : ¬ L < ml ∧ (L ≤ last → 0 < i → acc = []) := by
                simp at hsk
                refine ⟨by omega, fun h1 h2 => hsk.2 h1 h2⟩
              simp [-wp_seq, lk_cons]
              refine wp_cut (fun rg s' => s' = s ∧ rg = [(1, .bool raw), (4, .ptr (σ.next + 1) 0), (5, .ptr (σ.next + 1 + 1) 0), (6, u64 last), (8, .ptr σ'.next 0), (9, .nilsl), (19, hv), (20, i64 h.length), (21, i64 i)]) (by simp [lk_cons]) ?_
              rintro _ s' ⟨hs', rfl⟩
              rw [hs']
              clear hs' s'
              refine wp_cut (fun rg s' => ∃ av ac, Out s.next s' av ac ∧ ac.length ≤ 6 ∧ Bnd ac ∧ s.next ≤ s'.next ∧ (∀ k, k < s.next → s'.mem.get k = s.mem.get k) ∧ rg.lookup 1 = some (.bool raw) ∧ rg.lookup 4 = some (.ptr (σ.next + 1) 0) ∧ rg.lookup 5 = some (.ptr (σ.next + 1 + 1) 0) ∧ rg.lookup 6 = some (u64 last) ∧ rg.lookup 8 = some (.ptr σ'.next 0) ∧ rg.lookup 9 = some av ∧ rg.lookup 19 = some hv ∧ rg.lookup 20 = some (i64 h.length) ∧ rg.lookup 21 = some (i64 i)) ?_ ?_
              · have xl := (hri.m σ).len
                simp [lk_cons, hs8, r1, r2, ↓xl]
                refine wp_loop (RiJr2 hv xr raw last x.f1 h i σ.next σ'.next s) x.f1.length ?_ ?_
                · exact ⟨0, .nilsl, [], rfl, Nat.zero_le _, by simp, by simp, fun z hz => absurd hz List.not_mem_nil, Nat.le_refl _, fun _ _ => rfl, .inl ⟨rfl, rfl⟩, rfl⟩
                · rintro m3 rg3 σ2 ⟨j, av, ac, rfl, hj, ha6, haj, hab2, hn2, hg2, hav, rfl⟩
                  by_cases hlt2 : j < x.f1.length
                  · obtain ⟨z, hz⟩ : ∃ z, x.f1[j]? = some z := ⟨_, List.getElem?_eq_getElem hlt2⟩
                    obtain ⟨j', hj'⟩ : ∃ k, j + 1 = k := ⟨_, rfl⟩
                    have w3 : IntKind.i64.wrap ((j : Int) + 1) = (j' : Int) := by rw [IntWalk.i64_in] <;> omega
                    obtain ⟨q, q1, q2, _, _⟩ := (hri.m σ2).at hz (ρ := σ2) fun _ _ => rfl
                    have hzb := hxb z (List.mem_of_getElem? hz)
                    have e8 : Int.tmod z.f0 8 = z.f0 % 8 := Int.tmod_eq_emod_of_nonneg hzb.1
                    have e9 : Int.tmod z.f1 9 = z.f1 % 9 := Int.tmod_eq_emod_of_nonneg hzb.2.1
                    have fin2 : ∀ (w : AVal) (ac' : List S25) (ρ' : St), Out s.next ρ' w ac' → σ2.next ≤ ρ'.next → (∀ k, k < s.next → ρ'.mem.get k = σ2.mem.get k) → ac'.length ≤ 6 → ac'.length ≤ j' → Bnd ac' →
                        ∃ mm, mm < x.f1.length - j ∧ RiJr2 hv xr raw last x.f1 h i σ.next σ'.next s mm [(1, .bool raw), (4, .ptr (σ.next + 1) 0), (5, .ptr (σ.next + 1 + 1) 0), (6, u64 last), (8, .ptr σ'.next 0), (9, w), (19, hv), (20, i64 h.length), (21, i64 i), (57, xr), (58, i64 x.f1.length), (59, i64 j')] ρ' := by
                      intro w ac' ρ' e1 e2 e3 e4 e5 e6
                      exact ⟨x.f1.length - j', by omega, j', w, ac', rfl, by omega, e4, e5, e6, by omega, fun k hk => (e3 k hk).trans (hg2 k hk), e1, rfl⟩
                    by_cases c7 : (j : Int) < 6
                    · have app : ∀ (y : S25) (M : Mem), (0 ≤ y.f0 ∧ 0 ≤ y.f1 ∧ y.f1 ≤ 18446744073709551615) → (∀ k, k < σ2.next → M.get k = σ2.mem.get k) → ∃ w ρ', evalV ⟨M.set (σ2.next + 1) (.cells 2 [u64 y.f0, u64 y.f1]), σ2.next + 1 + 1⟩ (.append 2 16 av (.sl (σ2.next + 1) 0 1 1 true)) = some (w, ρ') ∧ ∃ mm, mm < x.f1.length - j ∧ RiJr2 hv xr raw last x.f1 h i σ.next σ'.next s mm [(1, .bool raw), (4, .ptr (σ.next + 1) 0), (5, .ptr (σ.next + 1 + 1) 0), (6, u64 last), (8, .ptr σ'.next 0), (9, w), (19, hv), (20, i64 h.length), (21, i64 i), (57, xr), (58, i64 x.f1.length), (59, i64 j')] ρ' := by
                        intro y M hy hM
                        have hav' : Out s.next ⟨M.set (σ2.next + 1) (.cells 2 [u64 y.f0, u64 y.f1]), σ2.next + 1 + 1⟩ av ac := by
                          rcases hav with hav | ⟨o, k1, k2, k3, k4, k5⟩
                          · exact .inl hav
                          · exact .inr ⟨o, k1, k2, k3, by show o < σ2.next + 1 + 1; omega, by show (M.set _ _).get o = _; rw [Mem.get_set_ne _ _ (by omega), hM o k4]; exact k5⟩
                        obtain ⟨w, ρ', f1, f2, f3, f4⟩ := out_app (b := σ2.next + 1) (x := y.f0) (y := y.f1) hav' (by omega) (by simp) (by show s.next ≤ σ2.next + 1 + 1; omega)
                        refine ⟨w, ρ', f1, fin2 w _ ρ' f2 (by rw [f3]; simp; omega) (fun k hk => ?_) (by simp; omega) (by simp; omega) fun t ht => ?_⟩
                        · rw [f4 k hk]
                          simp [show ¬ k = σ2.next + 1 by omega]
                          exact hM k (by omega)
                        · rcases List.mem_append.1 ht with ht | ht
                          · exact hab2 t ht
                          · rw [List.mem_singleton.1 ht]; exact hy
                      cases raw with
                      | true =>
                        obtain ⟨w, ρ', f1, f2⟩ := app z ((σ2.mem.set σ2.next (.cells 2 [.int .u64 0, .int .u64 0])).set σ2.next (.cells 2 [u64 z.f0, u64 z.f1])) hzb fun k hk => by simp [show ¬ k = σ2.next by omega]
                        simp [lk_cons, hlt2, ↓q1, ↓q2, storeL, c7, fillL, repL, ↓f1, w3]
                        exact f2
                      | false =>
                        obtain ⟨w, ρ', f1, f2⟩ := app ⟨z.f0 % 8, z.f1 % 9⟩ (((σ2.mem.set σ2.next (.cells 2 [.int .u64 0, .int .u64 0])).set σ2.next (.cells 2 [u64 z.f0, u64 z.f1])).set σ2.next (.cells 2 [u64 (z.f0 % 8), u64 (z.f1 % 9)])) (by simp only; omega) fun k hk => by simp [show ¬ k = σ2.next by omega]
                        simp [lk_cons, hlt2, ↓q1, ↓q2, storeL, c7, fillL, repL, e8, e9, ↓f1, w3]
                        exact f2
                    · have keep : ∀ M : Mem, (∀ k, k < σ2.next → M.get k = σ2.mem.get k) → ∃ mm, mm < x.f1.length - j ∧ RiJr2 hv xr raw last x.f1 h i σ.next σ'.next s mm [(1, .bool raw), (4, .ptr (σ.next + 1) 0), (5, .ptr (σ.next + 1 + 1) 0), (6, u64 last), (8, .ptr σ'.next 0), (9, av), (19, hv), (20, i64 h.length), (21, i64 i), (57, xr), (58, i64 x.f1.length), (59, i64 j')] ⟨M, σ2.next + 1⟩ := fun M hM =>
                        fin2 av ac ⟨M, σ2.next + 1⟩ (by
                          rcases hav with hav | ⟨o, k1, k2, k3, k4, k5⟩
                          · exact .inl hav
                          · exact .inr ⟨o, k1, k2, k3, by show o < σ2.next + 1; omega, (hM o k4).trans k5⟩) (by simp) (fun k hk => hM k (by omega)) ha6 (by omega) hab2
                      cases raw with
                      | true =>
                        simp [lk_cons, hlt2, ↓q1, ↓q2, storeL, c7, fillL, repL, w3]
                        exact keep _ fun k hk => by simp [show ¬ k = σ2.next by omega]
                      | false =>
                        simp [lk_cons, hlt2, ↓q1, ↓q2, storeL, c7, fillL, repL, w3]
                        exact keep _ fun k hk => by simp [show ¬ k = σ2.next by omega]
                  · have : j = x.f1.length := by omega
                    subst this
                    simp [lk_cons]
                    exact ⟨av, ac, hav, ha6, hab2, hn2, hg2, rfl⟩
              · rintro rg2 s3 ⟨av, ac, hav, ha6, hab2, hn3, hg3, t1, t4, t5, t6, t8, t9, t19, t20, t21⟩
                have n8 := (hg3 _ (show σ'.next < s.next by omega)).trans hs8
                have n2 := (hg3 _ (show σ.next + 1 + 1 < s.next by omega)).trans s2
                have pos : ∀ x ∈ acc, x.f0 < L := fun y hy => by
                  have := hlast y hy
                  by_cases c2 : L ≤ last
                  · have h0 := hnot.2 c2 (by
                      have := List.length_pos_of_mem hy
                      omega)
                    rw [h0] at hy; cases hy
                  · omega
                have y2 : ∀ k : Nat, k < σ'.next → s3.mem.get k = σ'.mem.get k := fun k hk => (hg3 k (by omega)).trans (hsg k hk)
                -- behind the document's Set
                have after : ∀ (y : List S25) (bn : Nat) (r : List S25), r = rset ac y → y.length ≤ 1 → (∀ z ∈ y, 0 ≤ z.f0 ∧ 0 ≤ z.f1) → (∀ n, InP r n → L = ml → me ≤ n) → r ≠ [] → COk ml me (acc ++ [⟨L, r⟩]) ∧ r.length ≤ 14 := by
                  intro y bn r hr hy1 hy2 hin hne
                  obtain ⟨e1, e2, e3, _⟩ := rset_spec hab2 hy2
                  rw [← hr] at e1 e2 e3
                  refine ⟨⟨hok_snoc hC.1 pos (by show -1 < L; omega) e1 hne, fun t ht => ?_, fun K n hK => ?_⟩, by omega⟩
                  · rcases List.mem_append.1 ht with ht | ht
                    · exact hC.2.1 t ht
                    · rw [List.mem_singleton.1 ht]; exact hL.2
                  · rw [of_snoc K ⟨L, r⟩ acc pos] at hK
                    by_cases hKL : L = K
                    · rw [if_pos hKL] at hK
                      by_cases hm2 : L = ml
                      · exact .inr ⟨by omega, hin n hK hm2⟩
                      · exact .inl (by omega)
                    · rw [if_neg hKL] at hK
                      exact hC.2.2 K n hK
                have last3 : ∀ (y : List S25) (r : List S25) (vv : AVal) (ρ0 : St), r = rset ac y → y.length ≤ 1 → (∀ z ∈ y, 0 ≤ z.f0 ∧ 0 ≤ z.f1) → (∀ n, InP r n → L = ml → me ≤ n) → r ≠ [] → RgI vv r → σ'.next ≤ ρ0.next → (∀ k, k < σ'.next → ρ0.mem.get k = σ'.mem.get k) →
                    ∃ w ρ', evalV ⟨ρ0.mem.set ρ0.next (.cells 2 [u64 L, vv]), ρ0.next + 1⟩ (.append 2 32 ov (.sl ρ0.next 0 1 1 true)) = some (w, ρ') ∧ w.one = true ∧ cellsOf w = [w] ∧ ρ'.mem.get (σ.next + 1 + 1) = some (.cells 3 [u64 ml, u64 me, ov]) ∧ (∀ k, k < σ'.next → (k < σ.next + 1 + 1 + 1 ∨ σ'.next ≤ k) → ρ'.mem.get k = σ'.mem.get k) ∧ (σ'.next < ρ0.next → ρ'.mem.get σ'.next = ρ0.mem.get σ'.next) ∧
                    ∃ mm, mm < h.length - i ∧ RiJr hv raw ml me h σ mm [(1, .bool raw), (4, .ptr (σ.next + 1) 0), (5, .ptr (σ.next + 1 + 1) 0), (6, u64 L), (19, hv), (20, i64 h.length), (21, i64 k)] ⟨ρ'.mem.set (σ.next + 1 + 1) (.cells 3 [u64 ml, u64 me, w]), ρ'.next⟩ := by
                  intro y r vv ρ0 hr hy1 hy2 hin hne hvv hρ hρm
                  obtain ⟨hco, hr14⟩ := after y 0 r hr hy1 hy2 hin hne
                  obtain ⟨w, ρ', f1, f2, f3, f4⟩ := hout_app (b := ρ0.next) (L := L) (rv := vv) (r := r) (ρ0 := σ') (ρ := ⟨ρ0.mem.set ρ0.next (.cells 2 [u64 L, vv]), ρ0.next + 1⟩) ho (by show σ'.next ≤ ρ0.next + 1; omega) (fun k _ hk => by simp [show ¬ k = ρ0.next by omega]; exact hρm k hk) (by omega) (by simp) (.inl hvv) hn
                  have f5 : ∀ k, k < σ.next + 1 + 1 + 1 → ρ'.mem.get k = σ'.mem.get k := fun k hk => by
                    rw [f4 k (by show k < ρ0.next + 1; omega) (.inl hk)]
                    simp [show ¬ k = ρ0.next by omega]
                    exact hρm k (by omega)
                  refine ⟨w, ρ', f1, f2.one.1, f2.one.2, (f5 _ (by omega)).trans m2, fun k _ hk => ?_, fun hlt3 => ?_, ?_⟩
                  · rcases hk with hk | hk
                    · exact f5 k hk
                    · omega
                  · rw [f4 _ (by show σ'.next < ρ0.next + 1; omega) (.inr (Nat.le_refl _))]
                    simp [show ¬ σ'.next = ρ0.next by omega]
                  · refine fin L w (acc ++ [⟨L, r⟩]) _ ⟨hco, by simp; omega, by simp; omega, fun t ht => ?_, fun t ht => ?_, by omega⟩ (f2.frame (σ2 := ⟨ρ'.mem.set (σ.next + 1 + 1) (.cells 3 [u64 ml, u64 me, w]), ρ'.next⟩) (Nat.le_refl _) fun k hk _ => by simp [show ¬ k = σ.next + 1 + 1 by omega]) (by show σ'.next ≤ ρ'.next; rw [f3]; show _ ≤ ρ0.next + 1 + 1; omega) (fun k hk => by simp [show ¬ k = σ.next + 1 + 1 by omega]; exact f5 k (by omega)) (by simp)
                    · rcases List.mem_append.1 ht with ht | ht
                      · exact hrl t ht
                      · rw [List.mem_singleton.1 ht]; exact hr14
                    · rcases List.mem_append.1 ht with ht | ht
                      · have := pos t ht; omega
                      · rw [List.mem_singleton.1 ht]; exact Int.le_refl _
                have x1 : ¬ σ'.next = s3.next := by omega
                have x2 : ¬ σ.next + 1 + 1 = s3.next := by omega
                by_cases cL : ml < L
                · have hy2 : ∀ z ∈ ([] : List S25), 0 ≤ z.f0 ∧ 0 ≤ z.f1 := fun z hz => absurd hz List.not_mem_nil
                  simp [lk_cons, t1, t4, t5, t6, t8, t9, t19, t20, t21, n8, n2, fillL, storeL, repL, cL, x1, x2]
                  refine rgset_c (y := []) (hav.set (.cells 2 [u64 0, u64 me])).rgm (.inl (.inl ⟨rfl, rfl⟩)) (by simp; omega) hab2 hy2 _ fun sv hsv => ?_
                  have sl := (hsv.m σ).len
                  have v1 := hsv.one.1
                  have v2 := hsv.one.2
                  obtain ⟨r, hr⟩ : ∃ r, r = rset ac [] := ⟨_, rfl⟩
                  rw [← hr] at hsv sl
                  by_cases hr0 : r = []
                  · have c0 : ¬ 0 < r.length := by rw [hr0]; simp
                    simp [lk_cons, ↓sl, c0, w1]
                    exact fin last ov acc ⟨s3.mem.set s3.next (.cells 2 [u64 0, u64 me]), s3.next + 1⟩ ⟨hC, by omega, ho7, hrl, hlast, hl0⟩ (ho.frame (by show σ'.next ≤ s3.next + 1; omega) fun a _ hb => by simp [show ¬ a = s3.next by omega]; exact y2 a hb) (by show σ'.next ≤ s3.next + 1; omega) (fun a ha => by simp [show ¬ a = s3.next by omega]; exact y2 a (by omega)) (by simp [x2]; exact n2)
                  · have c0 : 0 < r.length := List.length_pos_iff.2 hr0
                    obtain ⟨w, ρ', f1, g1', g2', f2, f3, f4, f5⟩ := last3 [] r sv ⟨s3.mem.set s3.next (.cells 2 [u64 0, u64 me]), s3.next + 1⟩ hr (by simp) hy2 (fun n _ e => by omega) hr0 hsv (by show σ'.next ≤ s3.next + 1; omega) (fun k hk => by simp [show ¬ k = s3.next by omega]; exact y2 k hk)
                    have b8 : ρ'.mem.get σ'.next = some (.cells 2 [u64 L, xr]) := by
                      rw [f4 (by show σ'.next < s3.next + 1; omega)]
                      simp [x1]; exact n8
                    simp [lk_cons, ↓sl, c0, w1, x1, x2, n8, n2, v1, v2, fillL, storeL, repL, ↓f1, f2, g1', g2', b8, show ¬ σ'.next = σ.next + 1 + 1 by omega, show ¬ σ'.next = s3.next + 1 by omega]
                    exact f5
                · have hy2 : ∀ z ∈ ([⟨0, me⟩] : List S25), 0 ≤ z.f0 ∧ 0 ≤ z.f1 := fun z hz => by rw [List.mem_singleton.1 hz]; exact ⟨Int.le_refl _, hme.1⟩
                  simp [lk_cons, t1, t4, t5, t6, t8, t9, t19, t20, t21, n8, n2, fillL, storeL, repL, cL, x1, x2]
                  refine rgset_c (y := [⟨0, me⟩]) (hav.set (.cells 2 [u64 0, u64 me])).rgm (.inr ⟨s3.next, 0, 1, true, [u64 0, u64 me], rfl, by simp, by simp, by simp, by simp, by simp [rc]⟩) (by simp; omega) hab2 hy2 _ fun sv hsv => ?_
                  have sl := (hsv.m σ).len
                  have v1 := hsv.one.1
                  have v2 := hsv.one.2
                  obtain ⟨r, hr⟩ : ∃ r, r = rset ac [⟨0, me⟩] := ⟨_, rfl⟩
                  rw [← hr] at hsv sl
                  by_cases hr0 : r = []
                  · have c0 : ¬ 0 < r.length := by rw [hr0]; simp
                    simp [lk_cons, ↓sl, c0, w1]
                    exact fin last ov acc ⟨s3.mem.set s3.next (.cells 2 [u64 0, u64 me]), s3.next + 1⟩ ⟨hC, by omega, ho7, hrl, hlast, hl0⟩ (ho.frame (by show σ'.next ≤ s3.next + 1; omega) fun a _ hb => by simp [show ¬ a = s3.next by omega]; exact y2 a hb) (by show σ'.next ≤ s3.next + 1; omega) (fun a ha => by simp [show ¬ a = s3.next by omega]; exact y2 a (by omega)) (by simp [x2]; exact n2)
                  · have c0 : 0 < r.length := List.length_pos_iff.2 hr0
                    obtain ⟨w, ρ', f1, g1', g2', f2, f3, f4, f5⟩ := last3 [⟨0, me⟩] r sv ⟨s3.mem.set s3.next (.cells 2 [u64 0, u64 me]), s3.next + 1⟩ hr (by simp) hy2 (fun n hn e => by
                      obtain ⟨k1, k2, _, _⟩ := rset_spec hab2 hy2
                      rw [← hr] at k1 k2
                      have h3 := ((k2 n).1 hn).2
                      have h4 := can_in k1.1 hn
                      have h5 : ¬ (0 ≤ n ∧ n < me) := fun h' => h3 ⟨⟨0, me⟩, List.mem_singleton.2 rfl, h'⟩
                      omega) hr0 hsv (by show σ'.next ≤ s3.next + 1; omega) (fun k hk => by simp [show ¬ k = s3.next by omega]; exact y2 k hk)
                    have b8 : ρ'.mem.get σ'.next = some (.cells 2 [u64 L, xr]) := by
                      rw [f4 (by show σ'.next < s3.next + 1; omega)]
                      simp [x1]; exact n8
                    simp [lk_cons, ↓sl, c0, w1, x1, x2, n8, n2, v1, v2, fillL, storeL, repL, ↓f1, f2, g1', g2', b8, show ¬ σ'.next = σ.next + 1 + 1 by omega, show ¬ σ'.next = s3.next + 1 by omega]
                    exact f5
    · have : i = h.length := by omega
      subst this
      simp [lk_cons, m1, m2, z1, z2, z3, storeL, o1, o2]
      exact done σ' (Nat.le_refl _) fun _ _ => rfl

end Go.Proofs.YticefdfhcahlfaaDoor.AM

/- Cursors: what hold, put and tight come to. -/
namespace Go.Proofs.YticefdfhcahlfaaDoor.AM
set_option linter.unusedVariables false
set_option linter.unusedSimpArgs false

end Go.Proofs.YticefdfhcahlfaaDoor.AM

/- Ranges, and what is held, that can be read: unchanging or in memory. -/
namespace Go.Proofs.YticefdfhcahlfaaDoor.AM
open Go.RowKit
set_option maxRecDepth 100000
set_option linter.unusedVariables false
set_option linter.unusedSimpArgs false

def RgW (σ : St) (v : AVal) (l : List S25) : Prop := RgI v l ∨ ∃ a o c t vals, v = .sl a o l.length c t ∧ a < σ.next ∧ σ.mem.get a = some (.cells 2 vals) ∧ o + l.length * 2 ≤ vals.length ∧ (vals.drop o).take (l.length * 2) = rc l
theorem RgI.w {v : AVal} {l : List S25} (h : RgI v l) (σ : St) : RgW σ v l := .inl h
theorem RgN.w {lo hi : Nat} {σ : St} {v : AVal} {l : List S25} (h : RgN lo hi σ.mem v l) (hh : hi ≤ σ.next) : RgW σ v l := by
  rcases h with h | ⟨b, c, t, h1, h2, h3, h4⟩
  · exact .inl h
  · refine .inr ⟨b, 0, c, t, rc l, h1, by omega, h4, by rw [rc_len]; omega, ?_⟩
    rw [List.drop_zero, List.take_of_length_le (by rw [rc_len]; exact Nat.le_refl _)]
theorem RgW.len {σ : St} {v : AVal} {l : List S25} (h : RgW σ v l) (ρ : St) : evalV ρ (.len 1 v) = some (i64 l.length, ρ) := by
  rcases h with (⟨rfl, rfl⟩ | ⟨t, rfl⟩) | ⟨a, o, c, t, vals, rfl, _⟩ <;> simp
theorem RgW.one {σ : St} {v : AVal} {l : List S25} (h : RgW σ v l) : v.one = true ∧ cellsOf v = [v] := by
  rcases h with (⟨rfl, rfl⟩ | ⟨t, rfl⟩) | ⟨a, o, c, t, vals, rfl, _⟩ <;> simp
theorem RgW.frame {σ σ' : St} {v : AVal} {l : List S25} (h : RgW σ v l) (hn : σ.next ≤ σ'.next) (hm : ∀ a, a < σ.next → σ'.mem.get a = σ.mem.get a) : RgW σ' v l := by
  rcases h with h | ⟨a, o, c, t, vals, h1, h3, h4, h5, h6⟩
  · exact .inl h
  · exact .inr ⟨a, o, c, t, vals, h1, by omega, (hm a h3).trans h4, h5, h6⟩
theorem RgW.at {σ : St} {v : AVal} {l : List S25} (hv : RgW σ v l) {i : Nat} {x : S25} (hx : l[i]? = some x) {ρ : St} (hm : ∀ a, a < σ.next → ρ.mem.get a = σ.mem.get a) :
    ∃ p, evalV ρ (.idxAddr 2 v (i64 i)) = some (p, ρ) ∧ evalV ρ (.ldn 2 p) = some (.agg [u64 x.f0, u64 x.f1], ρ) ∧ (∃ q, evalV ρ (.fieldAddr 0 p) = some (q, ρ) ∧ evalV ρ (.ld1 q) = some (u64 x.f0, ρ)) ∧ ∃ q, evalV ρ (.fieldAddr 1 p) = some (q, ρ) ∧ evalV ρ (.ld1 q) = some (u64 x.f1, ρ) := by
  have hi := (List.getElem?_eq_some_iff.1 hx).1
  rcases hv with (⟨rfl, rfl⟩ | ⟨t, rfl⟩) | ⟨a, o, c, t, vals, rfl, c3, c4, c5, c6⟩
  · simp at hx
  · have e1 := rc_get hx
    exact ⟨.iptr [u64 x.f0, u64 x.f1], by simp [hi, e1], by simp, ⟨.iptr [u64 x.f0, u64 x.f1], by simp, by simp⟩, ⟨.iptr [u64 x.f1], by simp, by simp⟩⟩
  · obtain ⟨e1, e2, e3, e4⟩ := sl_get c5 c6 hx
    have ga := (hm a c3).trans c4
    exact ⟨.ptr a (o + i * 2), by simp [hi], by simp [ga, e3, e4], ⟨.ptr a (o + i * 2), by simp, by simp [ga, e1]⟩, ⟨.ptr a (o + i * 2 + 1), by simp, by simp [ga, e2]⟩⟩
theorem HCM.get {lo hi : Nat} {m : Mem} : ∀ {cs : List AVal} {xs : List Hd} {i : Nat} {x : Hd}, HCM lo hi m cs xs → xs[i]? = some x → ∃ r, RgN lo hi m r x.f1 ∧ (cs.drop (i * 2)).take 2 = [u64 x.f0, r] ∧ cs[i * 2]? = some (u64 x.f0) ∧ cs[i * 2 + 1]? = some r
  | a :: b :: cs, y :: xs, 0, x, h, hx => by
    simp at hx; subst hx
    exact ⟨b, h.2.1, by simp [h.1], by simp [h.1], by simp⟩
  | a :: b :: cs, y :: xs, i + 1, x, h, hx => by
    obtain ⟨r, h1, h2, h3, h4⟩ := h.2.2.get (i := i) (by simpa using hx)
    have e : (i + 1) * 2 = i * 2 + 1 + 1 := by omega
    exact ⟨r, h1, by rw [e]; simpa using h2, by rw [e]; simpa using h3, by rw [e]; simpa using h4⟩
  | [], [], _, _, _, hx => by simp at hx
  | [], _ :: _, _, _, h, _ => h.elim
  | [_], _, _, _, h, _ => by cases ‹List Hd› <;> exact h.elim
  | _ :: _ :: _, [], _, _, h, _ => h.elim
/-- What is held, to be read. -/
def HR (σ : St) (v : AVal) (h : List Hd) : Prop := HI v h ∨ ∃ lo, HOut lo σ v h
theorem HR.len {σ : St} {v : AVal} {h : List Hd} (hh : HR σ v h) (ρ : St) : evalV ρ (.len 1 v) = some (i64 h.length, ρ) := by
  rcases hh with hh | ⟨lo, ⟨rfl, rfl⟩ | ⟨o, cs, rfl, _⟩⟩
  · exact hh.len ρ
  · simp
  · simp
theorem HR.one {σ : St} {v : AVal} {h : List Hd} (hh : HR σ v h) : v.one = true ∧ cellsOf v = [v] := by
  rcases hh with hh | ⟨lo, hh⟩
  · exact hh.one
  · exact hh.one
theorem HR.frame {σ σ' : St} {v : AVal} {h : List Hd} (hh : HR σ v h) (hn : σ.next ≤ σ'.next) (hm : ∀ a, a < σ.next → σ'.mem.get a = σ.mem.get a) : HR σ' v h := by
  rcases hh with hh | ⟨lo, hh⟩
  · exact .inl hh
  · exact .inr ⟨lo, hh.frame hn fun a _ ha => hm a ha⟩
theorem HR.at {σ : St} {v : AVal} {h : List Hd} (hh : HR σ v h) {i : Nat} {x : Hd} (hx : h[i]? = some x) {ρ : St} (hm : ∀ a, a < σ.next → ρ.mem.get a = σ.mem.get a) :
    ∃ p r, RgW σ r x.f1 ∧ evalV ρ (.idxAddr 2 v (i64 i)) = some (p, ρ) ∧ evalV ρ (.ldn 2 p) = some (.agg [u64 x.f0, r], ρ) ∧ (∃ q, evalV ρ (.fieldAddr 0 p) = some (q, ρ) ∧ evalV ρ (.ld1 q) = some (u64 x.f0, ρ)) ∧ ∃ q, evalV ρ (.fieldAddr 1 p) = some (q, ρ) ∧ evalV ρ (.ld1 q) = some (r, ρ) := by
  rcases hh with hh | ⟨lo, ⟨rfl, rfl⟩ | ⟨o, cs, rfl, h2, h3, h4, h5, h6⟩⟩
  · obtain ⟨p, r, h1, h2, h3, h4, h5⟩ := hh.at hx ρ
    exact ⟨p, r, h1.w σ, h2, h3, h4, h5⟩
  · simp at hx
  · obtain ⟨r, hr, e1, e2, e3⟩ := h6.get hx
    have hi := (List.getElem?_eq_some_iff.1 hx).1
    have hlen := h6.len
    have hb : i * 2 + 2 ≤ cs.length := by omega
    have ga := (hm o h4).trans h5
    exact ⟨.ptr o (i * 2), r, hr.w (by omega), by simp [hi], by simp [ga, e1, hb], ⟨.ptr o (i * 2), by simp, by simp [ga, e2]⟩, ⟨.ptr o (i * 2 + 1), by simp, by simp [ga, e3]⟩⟩
end Go.Proofs.YticefdfhcahlfaaDoor.AM

/- Ranges of any kind: are they right? -/

namespace Go.Proofs.YticefdfhcahlfaaDoor.AM
open Go.RowKit
set_option maxRecDepth 100000
set_option linter.unusedVariables false
set_option linter.unusedSimpArgs false

def rgCond (l : List S25) (i : Nat) : Prop := ∀ x, l[i]? = some x → x.f0 < x.f1 ∧ ∀ y, 0 < i → l[i - 1]? = some y → y.f1 < x.f0
def rgOk (l : List S25) : Prop := ∀ i, i < l.length → rgCond l i
theorem rgOk_step {l : List S25} {i : Nat} (h : ∀ j, j < i → rgCond l j) (hi : rgCond l i) : ∀ j, j < i + 1 → rgCond l j := fun j hj => by
  by_cases e : j = i
  · rw [e]; exact hi
  · exact h j (by omega)
def CgJ (v : AVal) (l : List S25) (σ0 : St) (mm : Nat) (rg : Regs) (σ' : St) : Prop := ∃ i : Nat, mm = l.length - i ∧ i ≤ l.length ∧ Grow σ0 σ' ∧ (∀ j, j < i → rgCond l j) ∧ rg = [(0, v), (5, v), (6, i64 l.length), (7, i64 i)]
theorem rgcheck_g {σ : St} {v : AVal} {l : List S25} (hv : RgW σ v l) (hl : l.length < 1000000) (Q : AVal → St → Prop) (h : ∀ b, (b = true ↔ rgOk l) → Q (.bool b) σ) : ACall Tryd.prog 97 [v] σ Q := by
  refine ACall.scrub ?_
  refine ACall.of_compF hmx (fun a w => Tryd.call97 a w) Tryd.func97 cf97 (n := 1) (by decide) rfl ?_
  have l1 := hv.len
  simp [ac97, rs97, lk_cons, ↓l1]
  refine wp_loop (CgJ v l σ) l.length ?_ ?_
  · exact ⟨0, rfl, Nat.zero_le _, Grow.refl _, by omega, rfl⟩
  · rintro mm rg σ' ⟨i, rfl, hi, hg, hall, rfl⟩
    by_cases hlt : i < l.length
    · obtain ⟨x, hx⟩ : ∃ x, l[i]? = some x := ⟨_, List.getElem?_eq_getElem hlt⟩
      obtain ⟨k, hk⟩ : ∃ k, i + 1 = k := ⟨_, rfl⟩
      have w1 : IntKind.i64.wrap ((i : Int) + 1) = (k : Int) := by rw [IntWalk.i64_in] <;> omega
      obtain ⟨p, p1, p2, _, _⟩ := hv.at hx (ρ := σ') hg.2
      have hg1 := hg.1
      have gr : ∀ b0 b1 : Blk, Grow σ ⟨(σ'.mem.set σ'.next b0).set σ'.next b1, σ'.next + 1⟩ := fun b0 b1 => ⟨by simp; omega, fun a ha => by simp [show ¬ a = σ'.next by omega]; exact hg.2 a ha⟩
      by_cases c1 : x.f1 ≤ x.f0
      · simp [lk_cons, hlt, ↓p1, ↓p2, storeL, c1]
        refine ⟨fun a ha => (gr _ _).2 a ha, h false ⟨fun e => (by simp at e), fun e => ?_⟩⟩
        have := (e i hlt x hx).1
        omega
      by_cases hi0 : i = 0
      · have hi1 : ¬ 0 < i := by omega
        simp [lk_cons, hlt, ↓p1, ↓p2, storeL, c1, hi1, w1]
        refine ⟨l.length - k, by omega, k, rfl, by omega, gr _ _, ?_, rfl⟩
        rw [← hk]
        refine rgOk_step hall fun z hz => ?_
        rw [hx] at hz; cases hz
        exact ⟨by omega, fun y h0 => absurd h0 hi1⟩
      · obtain ⟨j, hj⟩ : ∃ j, j + 1 = i := ⟨i - 1, by omega⟩
        obtain ⟨y, hy⟩ : ∃ y, l[j]? = some y := ⟨_, List.getElem?_eq_getElem (by omega)⟩
        have w2 : IntKind.i64.wrap ((i : Int) - 1) = (j : Int) := by rw [IntWalk.i64_in] <;> omega
        have hi1 : 0 < i := by omega
        have hji : i - 1 = j := by omega
        have hgm : ∀ a, a < σ.next → (⟨(σ'.mem.set σ'.next (.cells 2 [u64 0, u64 0])).set σ'.next (.cells 2 [u64 x.f0, u64 x.f1]), σ'.next + 1⟩ : St).mem.get a = σ.mem.get a := (gr _ _).2
        obtain ⟨q, q1, _, _, ⟨r, r1, r2⟩⟩ := hv.at hy hgm
        by_cases hlt2 : x.f0 ≤ y.f1
        · simp [lk_cons, hlt, ↓p1, ↓p2, storeL, c1, hi1, w1, w2, ↓q1, ↓r1, ↓r2, hlt2]
          refine ⟨fun a ha => (gr _ _).2 a ha, h false ⟨fun e => (by simp at e), fun e => ?_⟩⟩
          have := (e i hlt x hx).2 y hi1 (by rw [hji]; exact hy)
          omega
        · simp [lk_cons, hlt, ↓p1, ↓p2, storeL, c1, hi1, w1, w2, ↓q1, ↓r1, ↓r2, hlt2]
          refine ⟨l.length - k, by omega, k, rfl, by omega, gr _ _, ?_, rfl⟩
          rw [← hk]
          refine rgOk_step hall fun z hz => ?_
          rw [hx] at hz; cases hz
          refine ⟨by omega, fun w _ hw => ?_⟩
          rw [hji, hy] at hw; cases hw
          omega
    · have : i = l.length := by omega
      subst this
      simp [lk_cons]
      exact ⟨fun a ha => hg.2 a ha, h true ⟨fun _ => hall, fun _ => rfl⟩⟩
def CrJ (v : AVal) (l : List S25) (σ0 : St) (mm : Nat) (rg : Regs) (σ' : St) : Prop := ∃ i : Nat, mm = l.length - i ∧ i ≤ l.length ∧ σ' = σ0 ∧ (∀ j, j < i → rgCond l j) ∧ rg = [(0, v), (3, i64 i)]
theorem rgright_g {σ : St} {v : AVal} {l : List S25} (hv : RgW σ v l) (hl : l.length < 1000000) (Q : AVal → St → Prop) (h : ∀ b, (b = true ↔ rgOk l) → Q (.bool b) σ) : ACall Tryd.prog 99 [v] σ Q := by
  refine ACall.of_compF hmx (fun a w => Tryd.call99 a w) Tryd.func99 cf99 (n := 1) (by decide) rfl ?_
  have l1 := hv.len
  simp [ac99, rs99, lk_cons]
  refine wp_loop (CrJ v l σ) l.length ?_ ?_
  · exact ⟨0, rfl, Nat.zero_le _, rfl, by omega, rfl⟩
  · rintro mm rg σ' ⟨i, rfl, hi, rfl, hall, rfl⟩
    by_cases hlt : i < l.length
    · obtain ⟨x, hx⟩ : ∃ x, l[i]? = some x := ⟨_, List.getElem?_eq_getElem hlt⟩
      obtain ⟨k, hk⟩ : ∃ k, i + 1 = k := ⟨_, rfl⟩
      have w1 : IntKind.i64.wrap ((i : Int) + 1) = (k : Int) := by rw [IntWalk.i64_in] <;> omega
      obtain ⟨p, p1, _, ⟨q0, p2, p3⟩, ⟨q1, p4, p5⟩⟩ := hv.at hx (ρ := σ') fun _ _ => rfl
      by_cases c1 : x.f1 ≤ x.f0
      · simp [lk_cons, ↓l1, hlt, ↓p1, ↓p2, ↓p3, ↓p4, ↓p5, c1]
        refine h false ⟨fun e => (by simp at e), fun e => ?_⟩
        have := (e i hlt x hx).1
        omega
      by_cases hi0 : i = 0
      · have hi1 : ¬ 0 < i := by omega
        simp [lk_cons, ↓l1, hlt, ↓p1, ↓p2, ↓p3, ↓p4, ↓p5, c1, hi1, w1]
        refine ⟨l.length - k, by omega, k, rfl, by omega, rfl, ?_, rfl⟩
        rw [← hk]
        refine rgOk_step hall fun z hz => ?_
        rw [hx] at hz; cases hz
        exact ⟨by omega, fun y h0 => absurd h0 hi1⟩
      · obtain ⟨j, hj⟩ : ∃ j, j + 1 = i := ⟨i - 1, by omega⟩
        obtain ⟨y, hy⟩ : ∃ y, l[j]? = some y := ⟨_, List.getElem?_eq_getElem (by omega)⟩
        have w2 : IntKind.i64.wrap ((i : Int) - 1) = (j : Int) := by rw [IntWalk.i64_in] <;> omega
        have hi1 : 0 < i := by omega
        have hji : i - 1 = j := by omega
        obtain ⟨q, r0, _, _, ⟨r, r1, r2⟩⟩ := hv.at hy (ρ := σ') fun _ _ => rfl
        by_cases hlt2 : x.f0 ≤ y.f1
        · simp [lk_cons, ↓l1, hlt, ↓p1, ↓p2, ↓p3, ↓p4, ↓p5, c1, hi1, w1, w2, ↓r0, ↓r1, ↓r2, hlt2]
          refine h false ⟨fun e => (by simp at e), fun e => ?_⟩
          have := (e i hlt x hx).2 y hi1 (by rw [hji]; exact hy)
          omega
        · simp [lk_cons, ↓l1, hlt, ↓p1, ↓p2, ↓p3, ↓p4, ↓p5, c1, hi1, w1, w2, ↓r0, ↓r1, ↓r2, hlt2]
          refine ⟨l.length - k, by omega, k, rfl, by omega, rfl, ?_, rfl⟩
          rw [← hk]
          refine rgOk_step hall fun z hz => ?_
          rw [hx] at hz; cases hz
          refine ⟨by omega, fun w _ hw => ?_⟩
          rw [hji, hy] at hw; cases hw
          omega
    · have : i = l.length := by omega
      subst this
      simp [lk_cons, ↓l1]
      exact h true ⟨fun _ => hall, fun _ => rfl⟩
end Go.Proofs.YticefdfhcahlfaaDoor.AM

/- Any cursor: is it right? -/
namespace Go.Proofs.YticefdfhcahlfaaDoor.AM
open Go.RowKit
set_option maxRecDepth 100000
set_option linter.unusedVariables false
set_option linter.unusedSimpArgs false

def cuCond (ml me : Int) (h : List Hd) (i : Nat) : Prop := ∀ x, h[i]? = some x → x.f1 ≠ [] ∧ rgOk x.f1 ∧ (∀ y, 0 < i → h[i - 1]? = some y → y.f0 < x.f0) ∧ ∀ z, x.f1[0]? = some z → ¬ ordM x.f0 z.f0 ml me < 0
def cuOk (ml me : Int) (h : List Hd) : Prop := ∀ i, i < h.length → cuCond ml me h i
theorem cuOk_step {ml me : Int} {h : List Hd} {i : Nat} (hh : ∀ j, j < i → cuCond ml me h j) (hi : cuCond ml me h i) : ∀ j, j < i + 1 → cuCond ml me h j := fun j hj => by
  by_cases e : j = i
  · rw [e]; exact hi
  · exact hh j (by omega)
/-- As many as are gone through. -/
def HFew (h : List Hd) : Prop := h.length < 1000000 ∧ ∀ x ∈ h, x.f1.length < 1000000
def CcJ (hv : AVal) (ml me : Int) (h : List Hd) (σ0 : St) (mm : Nat) (rg : Regs) (σ' : St) : Prop := ∃ i : Nat, mm = h.length - i ∧ i ≤ h.length ∧ σ0.next + 1 ≤ σ'.next ∧ (∀ a, a < σ0.next → σ'.mem.get a = σ0.mem.get a) ∧ σ'.mem.get σ0.next = some (.cells 3 [u64 ml, u64 me, hv]) ∧ (∀ j, j < i → cuCond ml me h j) ∧
  rg = [(1, .ptr σ0.next 0), (6, hv), (7, i64 h.length), (8, i64 i)]
set_option maxHeartbeats 2000000 in
theorem ccheck_g {hv : AVal} {h : List Hd} {σ : St} (hh : HR σ hv h) (hf : HFew h) (ml me : Int) (Q : AVal → St → Prop) (hq : ∀ b, (b = true ↔ cuOk ml me h) → Q (.bool b) σ) : ACall Tryd.prog 76 [cv ml me hv] σ Q := by
  refine ACall.scrub ?_
  refine ACall.of_compF hmx (fun a w => Tryd.call76 a w) Tryd.func76 cf76 (n := 1) (by decide) rfl ?_
  have k1 := hh.one.1
  have k2 := hh.one.2
  have hl := hf.1
  have l1 := hh.len
  simp only [ac76, rs76]
  simp [lk_cons, k1, k2, ↓l1]
  refine wp_loop (CcJ hv ml me h σ) h.length ?_ ?_
  · exact ⟨0, rfl, Nat.zero_le _, by simp, fun a ha => by simp [show ¬ a = σ.next by omega], by simp, by omega, rfl⟩
  · rintro mm rg σ1 ⟨i, rfl, hi, hn1, gold, m1, hall, rfl⟩
    have no : ∀ {P : Prop}, (¬ P) → (false = true ↔ P) := fun hp => ⟨fun e => by simp at e, fun e => absurd e hp⟩
    by_cases hlt : i < h.length
    · obtain ⟨x, hx⟩ : ∃ x, h[i]? = some x := ⟨_, List.getElem?_eq_getElem hlt⟩
      obtain ⟨k, hk⟩ : ∃ k, i + 1 = k := ⟨_, rfl⟩
      have w1 : IntKind.i64.wrap ((i : Int) + 1) = (k : Int) := by rw [IntWalk.i64_in] <;> omega
      obtain ⟨p, r, hr, p1, p2, _, _⟩ := hh.at hx (ρ := σ1) gold
      have r1 := hr.one.1
      have r2 := hr.one.2
      have l2 := hr.len
      have hxf := hf.2 x (List.mem_of_getElem? hx)
      have z1 : ¬ σ.next = σ1.next := by omega
      have gold2 : ∀ (b0 b1 : Blk) (a : Nat), a < σ.next → (⟨(σ1.mem.set σ1.next b0).set σ1.next b1, σ1.next + 1⟩ : St).mem.get a = σ.mem.get a := fun b0 b1 a ha => by simp [show ¬ a = σ1.next by omega]; exact gold a ha
      by_cases h0 : x.f1.length = 0
      · simp [lk_cons, hlt, ↓p1, ↓p2, storeL, r1, r2, ↓l2, h0]
        exact ⟨fun a ha => gold2 _ _ a ha, hq false (no fun e => (e i hlt x hx).1 (List.eq_nil_of_length_eq_zero h0))⟩
      obtain ⟨w, hw0⟩ : ∃ w, x.f1[0]? = some w := ⟨_, List.getElem?_eq_getElem (by omega)⟩
      have hpos : ¬ x.f1.length = 0 := h0
      have fin : cuCond ml me h i → ∀ b0 b1 : Blk, ∃ mm, mm < h.length - i ∧ CcJ hv ml me h σ mm [(1, .ptr σ.next 0), (6, hv), (7, i64 h.length), (8, i64 k)] ⟨(σ1.mem.set σ1.next b0).set σ1.next b1, σ1.next + 1⟩ := fun hc b0 b1 =>
        ⟨h.length - k, by omega, k, rfl, by omega, by simp; omega, gold2 b0 b1, by simp [z1]; exact m1, by rw [← hk]; exact cuOk_step hall hc, rfl⟩
      have wl : IntKind.i64.wrap (x.f1.length : Int) = x.f1.length := by rw [IntWalk.i64_in] <;> omega
      simp [lk_cons, hlt, ↓p1, ↓p2, storeL, r1, r2, ↓l2, hpos]
      refine rgcheck_g (hr.frame (by simp; omega) (gold2 _ _)) hxf _ fun b hb => ?_
      obtain ⟨q, q1, _, ⟨q0, q2, q3⟩, _⟩ := hr.at hw0 (ρ := ⟨(σ1.mem.set σ1.next (.cells 2 [.int .u64 0, .nilsl])).set σ1.next (.cells 2 [u64 x.f0, r]), σ1.next + 1⟩) (gold2 _ _)
      have q1' : evalV ⟨(σ1.mem.set σ1.next (.cells 2 [.int .u64 0, .nilsl])).set σ1.next (.cells 2 [u64 x.f0, r]), σ1.next + 1⟩ (.idxAddr 2 r (.int .i64 0)) = some (q, ⟨(σ1.mem.set σ1.next (.cells 2 [.int .u64 0, .nilsl])).set σ1.next (.cells 2 [u64 x.f0, r]), σ1.next + 1⟩) := q1
      cases b with
      | false =>
        simp [lk_cons, ↓l2, hpos, fillL, storeL, r1, r2]
        exact ⟨fun a ha => gold2 _ _ a ha, hq false (no fun e => by have := hb.2 (e i hlt x hx).2.1; simp at this)⟩
      | true =>
        have hrg := hb.1 rfl
        have ord : ∀ (hc : ∀ y, 0 < i → h[i - 1]? = some y → y.f0 < x.f0), ordM x.f0 w.f0 ml me < 0 ∨ ¬ ordM x.f0 w.f0 ml me < 0 ∧ cuCond ml me h i := fun hc => by
          by_cases ho : ordM x.f0 w.f0 ml me < 0
          · exact .inl ho
          · refine .inr ⟨ho, fun x' hx' => ?_⟩
            rw [hx] at hx'; cases hx'
            refine ⟨fun e => h0 (by rw [e]; rfl), hrg, hc, fun z hz => ?_⟩
            rw [hw0] at hz; cases hz
            exact ho
        have bad : ordM x.f0 w.f0 ml me < 0 → ¬ cuOk ml me h := fun ho e => (e i hlt x hx).2.2.2 w hw0 ho
        by_cases hi0 : i = 0
        · have c0 : ¬ (0 : Int) < (i : Int) := by omega
          have c0' : ¬ 0 < i := by omega
          simp [lk_cons, ↓l2, hpos, c0, c0', m1, z1, k1, k2, ↓q1', ↓q2, ↓q3, fillL, storeL, r1, r2]
          refine order_c x.f0 w.f0 ml me _ _ ?_
          rcases ord fun y h0 => absurd h0 c0' with ho | ⟨ho, hc⟩
          · simp [lk_cons, ↓l2, hpos, c0, c0', ho]
            exact ⟨fun a ha => gold2 _ _ a ha, hq false (no (bad ho))⟩
          · simp [lk_cons, ↓l2, hpos, c0, c0', ho, w1]
            exact fin hc _ _
        · obtain ⟨j, hj⟩ : ∃ j, j + 1 = i := ⟨i - 1, by omega⟩
          obtain ⟨y, hy⟩ : ∃ y, h[j]? = some y := ⟨_, List.getElem?_eq_getElem (by omega)⟩
          have c0 : (0 : Int) < (i : Int) := by omega
          have c0' : 0 < i := by omega
          have hji : i - 1 = j := by omega
          have w2 : IntKind.i64.wrap ((i : Int) - 1) = (j : Int) := by rw [IntWalk.i64_in] <;> omega
          obtain ⟨s, _, _, s1, _, ⟨s0, s2, s3⟩, _⟩ := hh.at hy (ρ := ⟨(σ1.mem.set σ1.next (.cells 2 [.int .u64 0, .nilsl])).set σ1.next (.cells 2 [u64 x.f0, r]), σ1.next + 1⟩) (gold2 _ _)
          by_cases hlt2 : x.f0 ≤ y.f0
          · simp [lk_cons, ↓l2, hpos, c0, c0', m1, z1, k1, k2, w2, ↓s1, ↓s2, ↓s3, ↓q1', ↓q2, ↓q3, fillL, storeL, r1, r2, hlt2]
            refine ⟨fun a ha => gold2 _ _ a ha, hq false (no fun e => ?_)⟩
            have := (e i hlt x hx).2.2.1 y c0' (by rw [hji]; exact hy)
            omega
          · simp [lk_cons, ↓l2, hpos, c0, c0', m1, z1, k1, k2, w2, ↓s1, ↓s2, ↓s3, ↓q1', ↓q2, ↓q3, fillL, storeL, r1, r2, hlt2]
            refine order_c x.f0 w.f0 ml me _ _ ?_
            rcases ord fun z _ hz => (by rw [hji, hy] at hz; cases hz; omega) with ho | ⟨ho, hc⟩
            · simp [lk_cons, ↓l2, hpos, c0, c0', ho, hlt2, m1, z1, w2, ↓s1, ↓s2, ↓s3]
              exact ⟨fun a ha => gold2 _ _ a ha, hq false (no (bad ho))⟩
            · simp [lk_cons, ↓l2, hpos, c0, c0', ho, w1, hlt2, m1, z1, w2, ↓s1, ↓s2, ↓s3]
              exact fin hc _ _
    · have : i = h.length := by omega
      subst this
      simp [lk_cons]
      exact ⟨fun a ha => gold a ha, hq true ⟨fun _ => hall, fun _ => rfl⟩⟩
end Go.Proofs.YticefdfhcahlfaaDoor.AM

/- Any cursor: is it right, by the document. -/
namespace Go.Proofs.YticefdfhcahlfaaDoor.AM
open Go.RowKit
set_option maxRecDepth 100000
set_option linter.unusedVariables false
set_option linter.unusedSimpArgs false

def RcJ (hv : AVal) (ml me : Int) (h : List Hd) (σ0 : St) (mm : Nat) (rg : Regs) (σ' : St) : Prop := ∃ i : Nat, mm = h.length - i ∧ i ≤ h.length ∧ σ0.next + 1 ≤ σ'.next ∧ (∀ a, a < σ0.next → σ'.mem.get a = σ0.mem.get a) ∧ σ'.mem.get σ0.next = some (.cells 3 [u64 ml, u64 me, hv]) ∧ (∀ j, j < i → cuCond ml me h j) ∧
  rg = [(1, .ptr σ0.next 0), (3, i64 i)]
set_option maxHeartbeats 2000000 in
theorem cright_g {hv : AVal} {h : List Hd} {σ : St} (hh : HR σ hv h) (hf : HFew h) (ml me : Int) (Q : AVal → St → Prop) (hq : ∀ b, (b = true ↔ cuOk ml me h) → Q (.bool b) σ) : ACall Tryd.prog 78 [cv ml me hv] σ Q := by
  refine ACall.scrub ?_
  refine ACall.of_compF hmx (fun a w => Tryd.call78 a w) Tryd.func78 cf78 (n := 1) (by decide) rfl ?_
  have k1 := hh.one.1
  have k2 := hh.one.2
  have hl := hf.1
  have l1 := hh.len
  simp only [ac78, rs78]
  simp [lk_cons, k1, k2]
  refine wp_loop (RcJ hv ml me h σ) h.length ?_ ?_
  · exact ⟨0, rfl, Nat.zero_le _, by simp, fun a ha => by simp [show ¬ a = σ.next by omega], by simp, by omega, rfl⟩
  · rintro mm rg σ1 ⟨i, rfl, hi, hn1, gold, m1, hall, rfl⟩
    have no : ∀ {P : Prop}, (¬ P) → (false = true ↔ P) := fun hp => ⟨fun e => by simp at e, fun e => absurd e hp⟩
    by_cases hlt : i < h.length
    · obtain ⟨x, hx⟩ : ∃ x, h[i]? = some x := ⟨_, List.getElem?_eq_getElem hlt⟩
      obtain ⟨k, hk⟩ : ∃ k, i + 1 = k := ⟨_, rfl⟩
      have w1 : IntKind.i64.wrap ((i : Int) + 1) = (k : Int) := by rw [IntWalk.i64_in] <;> omega
      obtain ⟨p, r, hr, p1, p2, _, _⟩ := hh.at hx (ρ := σ1) gold
      have r1 := hr.one.1
      have r2 := hr.one.2
      have l2 := hr.len
      have hxf := hf.2 x (List.mem_of_getElem? hx)
      have z1 : ¬ σ.next = σ1.next := by omega
      have gold2 : ∀ (b0 b1 : Blk) (a : Nat), a < σ.next → (⟨(σ1.mem.set σ1.next b0).set σ1.next b1, σ1.next + 1⟩ : St).mem.get a = σ.mem.get a := fun b0 b1 a ha => by simp [show ¬ a = σ1.next by omega]; exact gold a ha
      by_cases h0 : x.f1.length = 0
      · simp [lk_cons, ↓l1, m1, hlt, ↓p1, ↓p2, storeL, r1, r2, ↓l2, h0]
        exact ⟨fun a ha => gold2 _ _ a ha, hq false (no fun e => (e i hlt x hx).1 (List.eq_nil_of_length_eq_zero h0))⟩
      obtain ⟨w, hw0⟩ : ∃ w, x.f1[0]? = some w := ⟨_, List.getElem?_eq_getElem (by omega)⟩
      have hpos : ¬ x.f1.length = 0 := h0
      have fin : cuCond ml me h i → ∀ b0 b1 : Blk, ∃ mm, mm < h.length - i ∧ RcJ hv ml me h σ mm [(1, .ptr σ.next 0), (3, i64 k)] ⟨(σ1.mem.set σ1.next b0).set σ1.next b1, σ1.next + 1⟩ := fun hc b0 b1 =>
        ⟨h.length - k, by omega, k, rfl, by omega, by simp; omega, gold2 b0 b1, by simp [z1]; exact m1, by rw [← hk]; exact cuOk_step hall hc, rfl⟩
      simp [lk_cons, ↓l1, m1, hlt, ↓p1, ↓p2, storeL, r1, r2, ↓l2, hpos]
      refine rgright_g (hr.frame (by simp; omega) (gold2 _ _)) hxf _ fun b hb => ?_
      obtain ⟨q, q1, _, ⟨q0, q2, q3⟩, _⟩ := hr.at hw0 (ρ := ⟨(σ1.mem.set σ1.next (.cells 2 [.int .u64 0, .nilsl])).set σ1.next (.cells 2 [u64 x.f0, r]), σ1.next + 1⟩) (gold2 _ _)
      have q1' : evalV ⟨(σ1.mem.set σ1.next (.cells 2 [.int .u64 0, .nilsl])).set σ1.next (.cells 2 [u64 x.f0, r]), σ1.next + 1⟩ (.idxAddr 2 r (.int .i64 0)) = some (q, ⟨(σ1.mem.set σ1.next (.cells 2 [.int .u64 0, .nilsl])).set σ1.next (.cells 2 [u64 x.f0, r]), σ1.next + 1⟩) := q1
      cases b with
      | false =>
        simp [lk_cons, ↓l2, hpos, fillL, storeL, r1, r2]
        exact ⟨fun a ha => gold2 _ _ a ha, hq false (no fun e => by have := hb.2 (e i hlt x hx).2.1; simp at this)⟩
      | true =>
        have hrg := hb.1 rfl
        have ord : ∀ (hc : ∀ y, 0 < i → h[i - 1]? = some y → y.f0 < x.f0), ordM x.f0 w.f0 ml me < 0 ∨ ¬ ordM x.f0 w.f0 ml me < 0 ∧ cuCond ml me h i := fun hc => by
          by_cases ho : ordM x.f0 w.f0 ml me < 0
          · exact .inl ho
          · refine .inr ⟨ho, fun x' hx' => ?_⟩
            rw [hx] at hx'; cases hx'
            refine ⟨fun e => h0 (by rw [e]; rfl), hrg, hc, fun z hz => ?_⟩
            rw [hw0] at hz; cases hz
            exact ho
        have bad : ordM x.f0 w.f0 ml me < 0 → ¬ cuOk ml me h := fun ho e => (e i hlt x hx).2.2.2 w hw0 ho
        by_cases hi0 : i = 0
        · have c0 : ¬ (0 : Int) < (i : Int) := by omega
          have c0' : ¬ 0 < i := by omega
          simp [lk_cons, ↓l2, hpos, c0, c0', m1, z1, k1, k2, ↓q1', ↓q2, ↓q3, fillL, storeL, r1, r2]
          refine rorder_c x.f0 w.f0 ml me _ _ ?_
          rcases ord fun y h0 => absurd h0 c0' with ho | ⟨ho, hc⟩
          · simp [lk_cons, ↓l2, hpos, c0, c0', ho]
            exact ⟨fun a ha => gold2 _ _ a ha, hq false (no (bad ho))⟩
          · simp [lk_cons, ↓l2, hpos, c0, c0', ho, w1]
            exact fin hc _ _
        · obtain ⟨j, hj⟩ : ∃ j, j + 1 = i := ⟨i - 1, by omega⟩
          obtain ⟨y, hy⟩ : ∃ y, h[j]? = some y := ⟨_, List.getElem?_eq_getElem (by omega)⟩
          have c0 : (0 : Int) < (i : Int) := by omega
          have c0' : 0 < i := by omega
          have hji : i - 1 = j := by omega
          have w2 : IntKind.i64.wrap ((i : Int) - 1) = (j : Int) := by rw [IntWalk.i64_in] <;> omega
          obtain ⟨s, _, _, s1, _, ⟨s0, s2, s3⟩, _⟩ := hh.at hy (ρ := ⟨(σ1.mem.set σ1.next (.cells 2 [.int .u64 0, .nilsl])).set σ1.next (.cells 2 [u64 x.f0, r]), σ1.next + 1⟩) (gold2 _ _)
          by_cases hlt2 : x.f0 ≤ y.f0
          · simp [lk_cons, ↓l2, hpos, c0, c0', m1, z1, k1, k2, w2, ↓s1, ↓s2, ↓s3, ↓q1', ↓q2, ↓q3, fillL, storeL, r1, r2, hlt2]
            refine ⟨fun a ha => gold2 _ _ a ha, hq false (no fun e => ?_)⟩
            have := (e i hlt x hx).2.2.1 y c0' (by rw [hji]; exact hy)
            omega
          · simp [lk_cons, ↓l2, hpos, c0, c0', m1, z1, k1, k2, w2, ↓s1, ↓s2, ↓s3, ↓q1', ↓q2, ↓q3, fillL, storeL, r1, r2, hlt2]
            refine rorder_c x.f0 w.f0 ml me _ _ ?_
            rcases ord fun z _ hz => (by rw [hji, hy] at hz; cases hz; omega) with ho | ⟨ho, hc⟩
            · simp [lk_cons, ↓l2, hpos, c0, c0', ho, hlt2, m1, z1, w2, ↓s1, ↓s2, ↓s3]
              exact ⟨fun a ha => gold2 _ _ a ha, hq false (no (bad ho))⟩
            · simp [lk_cons, ↓l2, hpos, c0, c0', ho, w1, hlt2, m1, z1, w2, ↓s1, ↓s2, ↓s3]
              exact fin hc _ _
    · have : i = h.length := by omega
      subst this
      simp [lk_cons, ↓l1, m1]
      exact ⟨fun a ha => gold a ha, hq true ⟨fun _ => hall, fun _ => rfl⟩⟩
end Go.Proofs.YticefdfhcahlfaaDoor.AM

/- A cursor as bytes: Write. -/
namespace Go.Proofs.YticefdfhcahlfaaDoor.AM
open Go.RowKit
set_option maxRecDepth 100000
set_option linter.unusedVariables false
set_option linter.unusedSimpArgs false

def rgB (z : S25) : List UInt8 := beN 8 z.f0.toNat ++ beN 8 z.f1.toNat
def rgsB (l : List S25) : List UInt8 := (l.map rgB).flatten
def hdB (x : Hd) : List UInt8 := beN 8 x.f0.toNat ++ beN 2 (x.f1.length % 65536) ++ rgsB x.f1
def hdsB (h : List Hd) : List UInt8 := (h.map hdB).flatten
def cuB (ml me : Int) (h : List Hd) : List UInt8 := beN 8 ml.toNat ++ beN 8 me.toNat ++ beN 2 (h.length % 65536) ++ hdsB h
theorem rgsB_snoc (l : List S25) (x : S25) : rgsB (l ++ [x]) = rgsB l ++ rgB x := by simp [rgsB]
theorem hdsB_snoc (l : List Hd) (x : Hd) : hdsB (l ++ [x]) = hdsB l ++ hdB x := by simp [hdsB]
theorem rgsB_len : ∀ l : List S25, (rgsB l).length = 16 * l.length
  | [] => rfl
  | x :: l => by
    have := rgsB_len l
    simp only [rgsB, List.map_cons, List.flatten_cons, List.length_append, rgB, beN_len, List.length_cons] at this ⊢
    omega
def In64 (a : Int) : Prop := 0 ≤ a ∧ a < 18446744073709551616
/-- Few, and of numbers. -/
structure HSm (h : List Hd) : Prop where
  len : h.length ≤ 100
  each : ∀ x ∈ h, x.f1.length ≤ 100
  led : ∀ x ∈ h, In64 x.f0
  rg : ∀ x ∈ h, ∀ z ∈ x.f1, In64 z.f0 ∧ In64 z.f1
theorem hdsB_len {h : List Hd} (he : ∀ x ∈ h, x.f1.length ≤ 100) : (hdsB h).length ≤ 1610 * h.length := by
  induction h with
  | nil => simp [hdsB]
  | cons x l ih =>
    have h1 := he x (by simp)
    have h2 := ih fun y hy => he y (by simp [hy])
    simp only [hdsB, List.map_cons, List.flatten_cons, List.length_append, hdB, rgsB_len, beN_len, List.length_cons] at h2 ⊢
    omega
theorem nat_of {a : Int} (h : In64 a) : ∃ n : Nat, a = (n : Int) ∧ a.toNat = n ∧ n < 18446744073709551616 := ⟨a.toNat, by have := h.1; omega, rfl, by have := h.2; have := h.1; omega⟩
def WoJ (w : Nat) (hv : AVal) (h : List Hd) (l : List UInt8) (b : Option Nat) (S : St) (mm : Nat) (rg : Regs) (σ' : St) : Prop := ∃ (i : Nat) (b' : Option Nat), mm = h.length - i ∧ i ≤ h.length ∧ WB σ' w (l ++ hdsB (h.take i)) b' ∧ WStp w b b' S σ' ∧ rg = [(0, .ptr w 0), (25, hv), (26, i64 h.length), (27, i64 i)]
def WiJ (w : Nat) (hv rv : AVal) (N i : Nat) (r : List S25) (l : List UInt8) (b : Option Nat) (S : St) (mm : Nat) (rg : Regs) (σ' : St) : Prop := ∃ (j : Nat) (b' : Option Nat), mm = r.length - j ∧ j ≤ r.length ∧ WB σ' w (l ++ rgsB (r.take j)) b' ∧ WStp w b b' S σ' ∧ rg = [(0, .ptr w 0), (25, hv), (26, i64 N), (27, i64 i), (42, rv), (43, i64 r.length), (44, i64 j)]
theorem WStp.grow {w : Nat} {b b' : Option Nat} {σ σ' τ : St} (h : WStp w b b' σ σ') (hb : ∀ x, b' = some x → x < σ'.next) (g : Grow σ' τ) (hw : w < σ.next) : WStp w b b' σ τ := ⟨Nat.le_trans h.next g.1, h.own, fun a ha h1 h2 => (g.2 a (Nat.lt_of_lt_of_le ha h.next)).trans (h.keep a ha h1 h2)⟩
theorem WB.lt {σ : St} {w : Nat} {l : List UInt8} {b : Option Nat} (h : WB σ w l b) : (∀ x, b = some x → x < σ.next) ∧ w < σ.next := by
  obtain ⟨_, _, hg, _, hw⟩ := h
  exact ⟨fun x hx => hg.lt hx, hw⟩
theorem WB.grow {σ τ : St} {w : Nat} {l : List UInt8} {b : Option Nat} (h : WB σ w l b) (g : Grow σ τ) : WB τ w l b := h.keep g.1 fun a ha _ => g.2 a ha
set_option maxHeartbeats 2000000 in
theorem cwrite_c {σ : St} {w : Nat} {l : List UInt8} {b : Option Nat} (h0 : WB σ w l b) {hv : AVal} {h : List Hd} (hh : HI hv h) (hs : HSm h) {ml me : Int} (hml : In64 ml) (hme : In64 me) (hl : l.length ≤ 100000000) (Q : AVal → St → Prop)
    (hQ : ∀ σ' b', WB σ' w (l ++ cuB ml me h) b' → WStp w b b' σ σ' → Q (.tup []) σ') : ACall Tryd.prog 61 [.ptr w 0, cv ml me hv] σ Q := by
  refine ACall.of_compF hmx (fun a w => Tryd.call61 a w) Tryd.func61 cf61 (n := 2) (by decide) rfl ?_
  have k1 := hh.one.1
  have k2 := hh.one.2
  have l1 := hh.len
  have hlen := hs.len
  obtain ⟨nl, rfl, tnl, _⟩ := nat_of hml
  obtain ⟨ne, rfl, tne, _⟩ := nat_of hme
  simp [ac61, rs61, lk_cons, k1, k2]
  obtain ⟨S, hS⟩ : ∃ S : St, S = ⟨σ.mem.set σ.next (.cells 3 [u64 (nl : Int), u64 (ne : Int), hv]), σ.next + 1⟩ := ⟨_, rfl⟩
  have gS : Grow σ S := ⟨by rw [hS]; exact Nat.le_succ _, fun a ha => by rw [hS]; simp [show ¬ a = σ.next by omega]⟩
  have nS : S.next = σ.next + 1 := by rw [hS]
  have mS : S.mem.get σ.next = some (.cells 3 [u64 (nl : Int), u64 (ne : Int), hv]) := by rw [hS]; simp
  obtain ⟨hbl, hwl⟩ := h0.lt
  have mm : ∀ {σ' : St} {b' : Option Nat}, WStp w b b' S σ' → σ'.mem.get σ.next = S.mem.get σ.next := fun t => t.keep σ.next (by omega) (by omega) (fun e => by have := hbl _ e; omega)
  have toS : ∀ {σ' : St} {b' : Option Nat}, WStp w b b' S σ' → WStp w b b' σ σ' := fun t => ⟨by have := t.next; omega, fun x hx => (t.own x hx).imp id fun h => by omega, fun a ha h1 h2 => (t.keep a (by omega) h1 h2).trans (gS.2 a ha)⟩
  rw [← hS]
  refine wu64_c (h0.grow gS) (by omega) _ fun σ1 b1 h1 t1 => ?_
  simp [lk_cons, mm t1, mS]
  refine wu64_c h1 (by simp [beN_len]; omega) _ fun σ2 b2 h2 t2 => ?_
  have t2 := t1.trans t2
  have wl : IntKind.u16.wrap (h.length : Int) = h.length := by rw [IntWalk.u16_in] <;> omega
  simp [lk_cons, mm t2, mS, ↓l1, wl]
  refine wu16_c h2 (by omega) (by simp [beN_len]; omega) _ fun σ3 b3 h3 t3 => ?_
  have t3 := t2.trans t3
  simp [lk_cons, mm t3, mS, ↓l1]
  obtain ⟨L0, hL0⟩ : ∃ L0, l ++ beN 8 nl ++ beN 8 ne ++ beN 2 h.length = L0 := ⟨_, rfl⟩
  have hL0l : L0.length = l.length + 18 := by rw [← hL0]; simp [beN_len]
  rw [hL0] at h3
  refine wp_loop (WoJ w hv h L0 b S) h.length ?_ ?_
  · exact ⟨0, b3, rfl, Nat.zero_le _, by simpa [hdsB] using h3, t3, by simp [lk_cons]⟩
  rintro m rg σ4 ⟨i, b4, rfl, hi, h4, t4, rfl⟩
  by_cases hlt : i < h.length
  · obtain ⟨x, hx⟩ : ∃ x, h[i]? = some x := ⟨_, List.getElem?_eq_getElem hlt⟩
    have hxm := List.mem_of_getElem? hx
    have w1 : IntKind.i64.wrap ((i : Int) + 1) = ((i + 1 : Nat) : Int) := by rw [IntWalk.i64_in] <;> omega
    obtain ⟨p, r, hr, p1, p2, _, _⟩ := hh.at hx σ4
    have r1 := hr.one.1
    have r2 := hr.one.2
    have l2 := (hr.w σ4).len
    have hxe := hs.each x hxm
    obtain ⟨nx, ex, tx, _⟩ := nat_of (hs.led x hxm)
    rw [ex] at p2
    have htk : h.take (i + 1) = h.take i ++ [x] := by rw [List.take_add_one, hx]; rfl
    have hdl := hdsB_len (h := h.take i) fun y hy => hs.each y (List.mem_of_mem_take hy)
    rw [List.length_take] at hdl
    simp [lk_cons, hlt, ↓p1, ↓p2, storeL, r1, r2]
    obtain ⟨S4, hS4⟩ : ∃ S4 : St, S4 = ⟨(σ4.mem.set σ4.next (.cells 2 [.int .u64 0, .nilsl])).set σ4.next (.cells 2 [u64 (nx : Int), r]), σ4.next + 1⟩ := ⟨_, rfl⟩
    have gS4 : Grow σ4 S4 := ⟨by rw [hS4]; exact Nat.le_succ _, fun a ha => by rw [hS4]; simp [show ¬ a = σ4.next by omega]⟩
    have nS4 : S4.next = σ4.next + 1 := by rw [hS4]
    have mS4 : S4.mem.get σ4.next = some (.cells 2 [u64 (nx : Int), r]) := by rw [hS4]; simp
    obtain ⟨hb4, hw4⟩ := h4.lt
    have mm4 : ∀ {σ' : St} {b' : Option Nat}, WStp w b4 b' S4 σ' → σ'.mem.get σ4.next = S4.mem.get σ4.next := fun t => t.keep σ4.next (by omega) (by omega) (fun e => by have := hb4 _ e; omega)
    have t4S : WStp w b b4 S S4 := t4.grow hb4 gS4 (by omega)
    rw [← hS4]
    refine wu64_c (h4.grow gS4) (by rw [List.length_append]; omega) _ fun σ5 b5 h5 t5 => ?_
    have wl2 : IntKind.u16.wrap (x.f1.length : Int) = x.f1.length := by rw [IntWalk.u16_in] <;> omega
    simp [lk_cons, mm4 t5, mS4, ↓l2, wl2]
    refine wu16_c h5 (by omega) (by simp only [List.length_append, beN_len]; omega) _ fun σ6 b6 h6 t6 => ?_
    have t6 := t5.trans t6
    simp [lk_cons, mm4 t6, mS4, ↓l2]
    obtain ⟨L1, hL1⟩ : ∃ L1, L0 ++ hdsB (h.take i) ++ beN 8 nx ++ beN 2 x.f1.length = L1 := ⟨_, rfl⟩
    have hL1l : L1.length ≤ l.length + 700000 := by rw [← hL1]; simp only [List.length_append, beN_len]; omega
    rw [hL1] at h6
    refine wp_loop (WiJ w hv r h.length i x.f1 L1 b S) x.f1.length ?_ ?_
    · exact ⟨0, b6, rfl, Nat.zero_le _, by simpa [rgsB] using h6, t4S.trans t6, by simp [lk_cons]⟩
    rintro m rg σ7 ⟨j, b7, rfl, hj, h7, t7, rfl⟩
    by_cases hjl : j < x.f1.length
    · obtain ⟨z, hz⟩ : ∃ z, x.f1[j]? = some z := ⟨_, List.getElem?_eq_getElem hjl⟩
      have w2 : IntKind.i64.wrap ((j : Int) + 1) = ((j + 1 : Nat) : Int) := by rw [IntWalk.i64_in] <;> omega
      obtain ⟨q, q1, q2, _, _⟩ := (hr.w σ7).at hz (ρ := σ7) fun _ _ => rfl
      obtain ⟨⟨na, ea, ta, _⟩, ⟨nb, eb, tb, _⟩⟩ := And.intro (nat_of (hs.rg x hxm z (List.mem_of_getElem? hz)).1) (nat_of (hs.rg x hxm z (List.mem_of_getElem? hz)).2)
      rw [ea, eb] at q2
      have htk2 : x.f1.take (j + 1) = x.f1.take j ++ [z] := by rw [List.take_add_one, hz]; rfl
      have hrl := rgsB_len (x.f1.take j)
      rw [List.length_take] at hrl
      simp [lk_cons, hjl, ↓q1, ↓q2, storeL]
      obtain ⟨S7, hS7⟩ : ∃ S7 : St, S7 = ⟨(σ7.mem.set σ7.next (.cells 2 [.int .u64 0, .int .u64 0])).set σ7.next (.cells 2 [u64 (na : Int), u64 (nb : Int)]), σ7.next + 1⟩ := ⟨_, rfl⟩
      have gS7 : Grow σ7 S7 := ⟨by rw [hS7]; exact Nat.le_succ _, fun a ha => by rw [hS7]; simp [show ¬ a = σ7.next by omega]⟩
      have nS7 : S7.next = σ7.next + 1 := by rw [hS7]
      have mS7 : S7.mem.get σ7.next = some (.cells 2 [u64 (na : Int), u64 (nb : Int)]) := by rw [hS7]; simp
      obtain ⟨hb7, hw7⟩ := h7.lt
      have mm7 : ∀ {σ' : St} {b' : Option Nat}, WStp w b7 b' S7 σ' → σ'.mem.get σ7.next = S7.mem.get σ7.next := fun t => t.keep σ7.next (by omega) (by omega) (fun e => by have := hb7 _ e; omega)
      rw [← hS7]
      refine wu64_c (h7.grow gS7) (by rw [List.length_append]; omega) _ fun σ8 b8 h8 t8 => ?_
      simp [lk_cons, mm7 t8, mS7]
      refine wu64_c h8 (by simp only [List.length_append, beN_len]; omega) _ fun σ9 b9 h9 t9 => ?_
      have t9 := t8.trans t9
      simp [lk_cons, w2]
      refine ⟨x.f1.length - (j + 1), by omega, j + 1, b9, rfl, by omega, ?_, (t7.grow hb7 gS7 (by omega)).trans t9, rfl⟩
      rw [htk2, rgsB_snoc, rgB, ta, tb]
      simpa [List.append_assoc] using h9
    have : j = x.f1.length := by omega
    subst this
    rw [List.take_length] at h7
    simp [lk_cons, w1]
    refine ⟨h.length - (i + 1), by omega, i + 1, b7, rfl, by omega, ?_, t7, rfl⟩
    rw [htk, hdsB_snoc, hdB, tx, Nat.mod_eq_of_lt (by omega)]
    rw [← hL1] at h7
    simpa [List.append_assoc] using h7
  have : i = h.length := by omega
  subst this
  rw [List.take_length] at h4
  simp [lk_cons]
  refine hQ σ4 b4 ?_ (toS t4)
  rw [cuB, tnl, tne, Nat.mod_eq_of_lt (by omega)]
  rw [← hL0] at h4
  simpa [List.append_assoc] using h4
end Go.Proofs.YticefdfhcahlfaaDoor.AM

/- A cursor as bytes, by the document. -/
namespace Go.Proofs.YticefdfhcahlfaaDoor.AM
open Go.RowKit
set_option maxRecDepth 100000
set_option linter.unusedVariables false
set_option linter.unusedSimpArgs false

def BoJ (p : Nat) (h : List Hd) (l : List UInt8) (b : Option Nat) (S : St) (mm : Nat) (rg : Regs) (σ' : St) : Prop := ∃ (i : Nat) (v : AVal) (b' : Option Nat), mm = h.length - i ∧ i ≤ h.length ∧ GS rwB σ' v (l ++ hdsB (h.take i)) b' ∧ BStp b b' S σ' ∧ rg = [(0, v), (3, .ptr p 0), (5, i64 i)]
def BiJ (p : Nat) (rv : AVal) (i : Nat) (r : List S25) (l : List UInt8) (b : Option Nat) (S : St) (mm : Nat) (rg : Regs) (σ' : St) : Prop := ∃ (j : Nat) (v : AVal) (b' : Option Nat), mm = r.length - j ∧ j ≤ r.length ∧ GS rwB σ' v (l ++ rgsB (r.take j)) b' ∧ BStp b b' S σ' ∧ rg = [(0, v), (3, .ptr p 0), (5, i64 i), (6, rv), (7, i64 j)]
theorem GS.grow {α : Type} {k : Nat} {R : Rw α k} {σ τ : St} {v : AVal} {l : List α} {b : Option Nat} (h : GS R σ v l b) (g : Grow σ τ) : GS R τ v l b := h.keep g.1 fun a ha _ => g.2 a ha
set_option maxHeartbeats 2000000 in
theorem cbytes_c {σ : St} {v0 : AVal} {l : List UInt8} {b : Option Nat} (h0 : GS rwB σ v0 l b) {hv : AVal} {h : List Hd} (hh : HI hv h) (hs : HSm h) {ml me : Int} (hml : In64 ml) (hme : In64 me) (hl : l.length ≤ 10000000) (Q : AVal → St → Prop)
    (hQ : ∀ v σ' b', GS rwB σ' v (l ++ cuB ml me h) b' → BStp b b' σ σ' → Q v σ') : ACall Tryd.prog 73 [v0, cv ml me hv] σ Q := by
  refine ACall.of_compF hmx (fun a w => Tryd.call73 a w) Tryd.func73 cf73 (n := 2) (by decide) rfl ?_
  have k1 := hh.one.1
  have k2 := hh.one.2
  have l1 := hh.len
  have hlen := hs.len
  obtain ⟨nl, rfl, tnl, bnl⟩ := nat_of hml
  obtain ⟨ne, rfl, tne, bne⟩ := nat_of hme
  simp [ac73, rs73, lk_cons, k1, k2]
  obtain ⟨S, hS⟩ : ∃ S : St, S = ⟨σ.mem.set σ.next (.cells 3 [u64 (nl : Int), u64 (ne : Int), hv]), σ.next + 1⟩ := ⟨_, rfl⟩
  have gS : Grow σ S := ⟨by rw [hS]; exact Nat.le_succ _, fun a ha => by rw [hS]; simp [show ¬ a = σ.next by omega]⟩
  have nS : S.next = σ.next + 1 := by rw [hS]
  have mS : S.mem.get σ.next = some (.cells 3 [u64 (nl : Int), u64 (ne : Int), hv]) := by rw [hS]; simp
  have hbl : ∀ x, b = some x → x < σ.next := fun x hx => h0.lt hx
  have mm : ∀ {σ' : St} {b' : Option Nat}, BStp b b' S σ' → σ'.mem.get σ.next = S.mem.get σ.next := fun t => t.keep σ.next (by omega) (fun e => by have := hbl _ e; omega)
  have toS : ∀ {σ' : St} {b' : Option Nat}, BStp b b' S σ' → BStp b b' σ σ' := fun t => ⟨by have := t.next; omega, fun x hx => (t.own x hx).imp id fun h => by omega, fun a ha h1 => (t.keep a (by omega) h1).trans (gS.2 a ha)⟩
  rw [← hS]
  refine rput_c (h0.grow gS) (n := nl) (size := 8) (by decide) (by omega) bnl _ fun v1 σ1 b1 h1 t1 => ?_
  simp [lk_cons, mm t1, mS]
  refine rput_c h1 (n := ne) (size := 8) (by decide) (by simp [beN_len]; omega) bne _ fun v2 σ2 b2 h2 t2 => ?_
  have t2 := t1.trans t2
  have wl : IntKind.u64.wrap (h.length : Int) = h.length := by rw [IntWalk.u64_in] <;> omega
  simp [lk_cons, mm t2, mS, ↓l1, wl]
  refine rput_c h2 (n := h.length) (size := 2) (by decide) (by simp [beN_len]; omega) (by omega) _ fun v3 σ3 b3 h3 t3 => ?_
  have t3 := t2.trans t3
  simp [lk_cons]
  obtain ⟨L0, hL0⟩ : ∃ L0, l ++ beN 8 nl ++ beN 8 ne ++ beN 2 h.length = L0 := ⟨_, rfl⟩
  have hL0l : L0.length = l.length + 18 := by rw [← hL0]; simp [beN_len]
  rw [hL0] at h3
  refine wp_loop (BoJ σ.next h L0 b S) h.length ?_ ?_
  · exact ⟨0, v3, b3, rfl, Nat.zero_le _, by simpa [hdsB] using h3, t3, by simp [lk_cons]⟩
  rintro m rg σ4 ⟨i, v4, b4, rfl, hi, h4, t4, rfl⟩
  have m4 := (mm t4).trans mS
  by_cases hlt : i < h.length
  · obtain ⟨x, hx⟩ : ∃ x, h[i]? = some x := ⟨_, List.getElem?_eq_getElem hlt⟩
    have hxm := List.mem_of_getElem? hx
    have w1 : IntKind.i64.wrap ((i : Int) + 1) = ((i + 1 : Nat) : Int) := by rw [IntWalk.i64_in] <;> omega
    obtain ⟨p, r, hr, p1, p2, ⟨q0, p3, p4⟩, ⟨q1, p5, p6⟩⟩ := hh.at hx σ4
    have l2 := (hr.w σ4).len
    have hxe := hs.each x hxm
    obtain ⟨nx, ex, tx, bx⟩ := nat_of (hs.led x hxm)
    rw [ex] at p4
    have htk : h.take (i + 1) = h.take i ++ [x] := by rw [List.take_add_one, hx]; rfl
    have hdl := hdsB_len (h := h.take i) fun y hy => hs.each y (List.mem_of_mem_take hy)
    rw [List.length_take] at hdl
    simp [lk_cons, hlt, m4, ↓l1, ↓p1, ↓p3, ↓p4]
    refine rput_c h4 (n := nx) (size := 8) (by decide) (by rw [List.length_append]; omega) bx _ fun v5 σ5 b5 h5 t5 => ?_
    have t5 := t4.trans t5
    have m5 := (mm t5).trans mS
    obtain ⟨p', r', hr', p1', p2', _, ⟨q1', p5', p6'⟩⟩ := hh.at hx σ5
    have l3 := (hr'.w σ5).len
    have wl2 : IntKind.u64.wrap (x.f1.length : Int) = x.f1.length := by rw [IntWalk.u64_in] <;> omega
    simp [lk_cons, m5, ↓l1, ↓p1', ↓p5', ↓p6', ↓l3, wl2]
    refine rput_c h5 (n := x.f1.length) (size := 2) (by decide) (by simp only [List.length_append, beN_len]; omega) (by omega) _ fun v6 σ6 b6 h6 t6 => ?_
    have t6 := t5.trans t6
    simp [lk_cons]
    obtain ⟨L1, hL1⟩ : ∃ L1, L0 ++ hdsB (h.take i) ++ beN 8 nx ++ beN 2 x.f1.length = L1 := ⟨_, rfl⟩
    have hL1l : L1.length ≤ l.length + 700000 := by rw [← hL1]; simp only [List.length_append, beN_len]; omega
    rw [hL1] at h6
    refine wp_loop (BiJ σ.next r' i x.f1 L1 b S) x.f1.length ?_ ?_
    · exact ⟨0, v6, b6, rfl, Nat.zero_le _, by simpa [rgsB] using h6, t6, by simp [lk_cons]⟩
    rintro m rg σ7 ⟨j, v7, b7, rfl, hj, h7, t7, rfl⟩
    by_cases hjl : j < x.f1.length
    · obtain ⟨z, hz⟩ : ∃ z, x.f1[j]? = some z := ⟨_, List.getElem?_eq_getElem hjl⟩
      have w2 : IntKind.i64.wrap ((j : Int) + 1) = ((j + 1 : Nat) : Int) := by rw [IntWalk.i64_in] <;> omega
      obtain ⟨q, s1, _, ⟨q2, s2, s3⟩, ⟨q3, s4, s5⟩⟩ := (hr'.w σ7).at hz (ρ := σ7) fun _ _ => rfl
      obtain ⟨⟨na, ea, ta, ba⟩, ⟨nb, eb, tb, bb⟩⟩ := And.intro (nat_of (hs.rg x hxm z (List.mem_of_getElem? hz)).1) (nat_of (hs.rg x hxm z (List.mem_of_getElem? hz)).2)
      rw [ea] at s3
      rw [eb] at s5
      have htk2 : x.f1.take (j + 1) = x.f1.take j ++ [z] := by rw [List.take_add_one, hz]; rfl
      have hrl := rgsB_len (x.f1.take j)
      rw [List.length_take] at hrl
      simp [lk_cons, ↓l3, hjl, ↓s1, ↓s2, ↓s3, ↓s4, ↓s5]
      refine rput_c h7 (n := na) (size := 8) (by decide) (by rw [List.length_append]; omega) ba _ fun v8 σ8 b8 h8 t8 => ?_
      obtain ⟨q', s1', _, ⟨q2', s2', s3'⟩, ⟨q3', s4', s5'⟩⟩ := (hr'.w σ8).at hz (ρ := σ8) fun _ _ => rfl
      rw [ea] at s3'
      rw [eb] at s5'
      have eq1 : q' = q := by
        rcases hr' with ⟨rfl, h0⟩ | ⟨t, rfl⟩
        · rw [h0] at hz; simp at hz
        · simp [hjl] at s1 s1'
          rw [← s1, ← s1']
      subst eq1
      have eq2 : q2' = q2 ∧ q3' = q3 := by
        rcases hr' with ⟨rfl, h0⟩ | ⟨t, rfl⟩
        · rw [h0] at hz; simp at hz
        · simp [hjl] at s1
          subst s1
          simp at s2 s2' s4 s4'
          exact ⟨by rw [← s2, ← s2'], by rw [← s4, ← s4']⟩
      obtain ⟨rfl, rfl⟩ := eq2
      simp [lk_cons, ↓l3, hjl, ↓s1', ↓s2', ↓s3', ↓s4', ↓s5']
      refine rput_c h8 (n := nb) (size := 8) (by decide) (by simp only [List.length_append, beN_len]; omega) bb _ fun v9 σ9 b9 h9 t9 => ?_
      have t9 := t8.trans t9
      simp [lk_cons, w2]
      refine ⟨x.f1.length - (j + 1), by omega, j + 1, v9, b9, rfl, by omega, ?_, t7.trans t9, rfl⟩
      rw [htk2, rgsB_snoc, rgB, ta, tb]
      simpa [List.append_assoc] using h9
    have : j = x.f1.length := by omega
    subst this
    rw [List.take_length] at h7
    simp [lk_cons, ↓l3, w1]
    refine ⟨h.length - (i + 1), by omega, i + 1, v7, b7, rfl, by omega, ?_, t7, rfl⟩
    rw [htk, hdsB_snoc, hdB, tx, Nat.mod_eq_of_lt (by omega)]
    rw [← hL1] at h7
    simpa [List.append_assoc] using h7
  have : i = h.length := by omega
  subst this
  rw [List.take_length] at h4
  simp [lk_cons, m4, ↓l1]
  refine hQ v4 σ4 b4 ?_ (toS t4)
  rw [cuB, tnl, tne, Nat.mod_eq_of_lt (by omega)]
  rw [← hL0] at h4
  simpa [List.append_assoc] using h4
end Go.Proofs.YticefdfhcahlfaaDoor.AM

/- A cursor from a reader: Take. -/
namespace Go.Proofs.YticefdfhcahlfaaDoor.AM
open Go.RowKit
set_option maxRecDepth 100000
set_option linter.unusedVariables false
set_option linter.unusedSimpArgs false

end Go.Proofs.YticefdfhcahlfaaDoor.AM

/- Slices that are read; ledgers of any kind: are they right? -/
namespace Go.Proofs.YticefdfhcahlfaaDoor.AM
open Go.RowKit
set_option maxRecDepth 100000
set_option linter.unusedVariables false
set_option linter.unusedSimpArgs false

/-- A slice of n elements of k cells: unchanging, or in memory. -/
def Rd (k : Nat) (σ : St) (v : AVal) (n : Nat) (cs : List AVal) : Prop := cs.length = n * k ∧ (v = .nilsl ∧ n = 0 ∨ (∃ t, v = .isl cs n t) ∨ ∃ o c t, v = .sl o 0 n c t ∧ o < σ.next ∧ σ.mem.get o = some (.cells k cs))
theorem Rd.len {k : Nat} {σ : St} {v : AVal} {n : Nat} {cs : List AVal} (h : Rd k σ v n cs) (ρ : St) : evalV ρ (.len 1 v) = some (i64 n, ρ) := by
  rcases h with ⟨_, ⟨rfl, rfl⟩ | ⟨t, rfl⟩ | ⟨o, c, t, rfl, _⟩⟩ <;> simp
theorem Rd.one {k : Nat} {σ : St} {v : AVal} {n : Nat} {cs : List AVal} (h : Rd k σ v n cs) : v.one = true ∧ cellsOf v = [v] := by
  rcases h with ⟨_, ⟨rfl, rfl⟩ | ⟨t, rfl⟩ | ⟨o, c, t, rfl, _⟩⟩ <;> simp
theorem Rd.frame {k : Nat} {σ σ' : St} {v : AVal} {n : Nat} {cs : List AVal} (h : Rd k σ v n cs) (hn : σ.next ≤ σ'.next) (hm : ∀ a, a < σ.next → σ'.mem.get a = σ.mem.get a) : Rd k σ' v n cs := by
  rcases h with ⟨h0, h | h | ⟨o, c, t, h1, h2, h3⟩⟩
  · exact ⟨h0, .inl h⟩
  · exact ⟨h0, .inr (.inl h)⟩
  · exact ⟨h0, .inr (.inr ⟨o, c, t, h1, by omega, (hm o h2).trans h3⟩)⟩
theorem Rd.at {k : Nat} {σ : St} {v : AVal} {n : Nat} {cs : List AVal} (h : Rd k σ v n cs) {i : Nat} (hi : i < n) {ρ : St} (hm : ∀ a, a < σ.next → ρ.mem.get a = σ.mem.get a) :
    ∃ p, evalV ρ (.idxAddr k v (i64 i)) = some (p, ρ) ∧ evalV ρ (.ldn k p) = some (.agg ((cs.drop (i * k)).take k), ρ) ∧ ∀ f m, f + m ≤ k → ∃ q, evalV ρ (.fieldAddr f p) = some (q, ρ) ∧ evalV ρ (.ldn m q) = some (.agg ((cs.drop (i * k + f)).take m), ρ) ∧ ∀ x, 0 < m → cs[i * k + f]? = some x → evalV ρ (.ld1 q) = some (x, ρ) := by
  rcases h with ⟨h0, ⟨rfl, rfl⟩ | ⟨t, rfl⟩ | ⟨o, c, t, rfl, h2, h3⟩⟩
  · omega
  · have hik : i * k + k ≤ cs.length := by
      have : (i + 1) * k ≤ n * k := Nat.mul_le_mul_right k (by omega)
      rw [Nat.succ_mul] at this; omega
    have hln : ((cs.drop (i * k)).take k).length = k := by rw [List.length_take, List.length_drop]; omega
    refine ⟨.iptr ((cs.drop (i * k)).take k), by simp [hi], ?_, fun f m hf => ⟨.iptr (((cs.drop (i * k)).take k).drop f), by simp, ?_, fun x h1 hx => ?_⟩⟩
    · simp only [evalV, loadL, hln, Nat.le_refl, if_true, Option.map_some]
      rw [List.take_of_length_le (by omega)]
    · have hl2 : m ≤ (((cs.drop (i * k)).take k).drop f).length := by rw [List.length_drop, hln]; omega
      have e : (((cs.drop (i * k)).take k).drop f).take m = (cs.drop (i * k + f)).take m := by
        rw [List.drop_take, List.drop_drop, List.take_take, Nat.min_eq_left (by omega)]
      simp only [evalV, loadL, hl2, if_true, Option.map_some, e]
    · have e : (((cs.drop (i * k)).take k).drop f)[0]? = some x := by
        rw [List.drop_take, List.drop_drop, List.getElem?_take, if_pos (by omega), List.getElem?_drop, Nat.add_zero]; exact hx
      simp only [evalV, load1, e, Option.map_some]
  · have hik : i * k + k ≤ cs.length := by
      have : (i + 1) * k ≤ n * k := Nat.mul_le_mul_right k (by omega)
      rw [Nat.succ_mul] at this; omega
    have ga := (hm o h2).trans h3
    refine ⟨.ptr o (i * k), by simp [hi], ?_, fun f m hf => ⟨.ptr o (i * k + f), by simp, ?_, fun x h1 hx => ?_⟩⟩
    · simp only [evalV, loadL, ga, hik, if_true, Option.map_some]
    · have hl2 : i * k + f + m ≤ cs.length := by omega
      simp only [evalV, loadL, ga, hl2, if_true, Option.map_some]
    · simp only [evalV, load1, ga, hx, Option.map_some]
theorem ldc_take : ∀ {t : List Ld} {i : Nat} {x : Ld}, t[i]? = some x → ((ldc t).drop (i * 3)).take 3 = [u64 x.f0, .bool x.f1, u64 x.f2] ∧ (ldc t)[i * 3]? = some (u64 x.f0) ∧ (ldc t)[i * 3 + 1]? = some (.bool x.f1) ∧ (ldc t)[i * 3 + 2]? = some (u64 x.f2)
  | y :: t, 0, x, h => by simp at h; subst h; simp [ldc]
  | y :: t, i + 1, x, h => by
    have ih := ldc_take (t := t) (i := i) (x := x) (by simpa using h)
    rw [show (i + 1) * 3 = i * 3 + 1 + 1 + 1 by omega]
    simpa [ldc] using ih
  | [], _, _, h => by simp at h
def ldCond (t : List Ld) (i : Nat) : Prop := ∀ x, t[i]? = some x → x.f0 ≠ 0 ∧ x.f2 ≤ 1048576 ∧ (∀ y, 0 < i → t[i - 1]? = some y → y.f0 < x.f0) ∧ (x.f1 = false → x.f2 = 0 ∧ i + 1 = t.length)
def ldOk (t : List Ld) : Prop := t.length ≤ 64 ∧ ∀ i, i < t.length → ldCond t i
theorem ldOk_step {t : List Ld} {i : Nat} (hh : ∀ j, j < i → ldCond t j) (hi : ldCond t i) : ∀ j, j < i + 1 → ldCond t j := fun j hj => by
  by_cases e : j = i
  · rw [e]; exact hi
  · exact hh j (by omega)
theorem no_of {P : Prop} (hp : ¬ P) : false = true ↔ P := ⟨fun e => by simp at e, fun e => absurd e hp⟩
def LcJ (v : AVal) (t : List Ld) (σ0 : St) (mm : Nat) (rg : Regs) (σ' : St) : Prop := ∃ i : Nat, mm = t.length - i ∧ i ≤ t.length ∧ Grow σ0 σ' ∧ (∀ j, j < i → ldCond t j) ∧ rg = [(0, v), (8, v), (9, i64 t.length), (10, i64 i)]
set_option maxHeartbeats 2000000 in
theorem ldcheck_g {σ : St} {v : AVal} {t : List Ld} (hv : Rd 3 σ v t.length (ldc t)) (hl : t.length ≤ 1000000) (hp : ∀ x ∈ t, 0 ≤ x.f2) (Q : AVal → St → Prop) (h : ∀ b, (b = true ↔ ldOk t) → Q (.bool b) σ) : ACall Tryd.prog 75 [v] σ Q := by
  refine ACall.scrub ?_
  refine ACall.of_compF hmx (fun a w => Tryd.call75 a w) Tryd.func75 cf75 (n := 1) (by decide) rfl ?_
  have l1 := hv.len
  by_cases h64 : 64 < t.length
  · have h64' : (64 : Int) < t.length := by omega
    simp [ac75, rs75, lk_cons, ↓l1, h64, h64']
    exact ⟨fun a ha => rfl, h false (no_of fun e => by have := e.1; omega)⟩
  have h64' : ¬ (64 : Int) < t.length := by omega
  simp [ac75, rs75, lk_cons, ↓l1, h64, h64']
  refine wp_loop (LcJ v t σ) t.length ?_ ?_
  · exact ⟨0, rfl, Nat.zero_le _, Grow.refl _, by omega, rfl⟩
  · rintro mm rg σ' ⟨i, rfl, hi, hg, hall, rfl⟩
    by_cases hlt : i < t.length
    · obtain ⟨x, hx⟩ : ∃ x, t[i]? = some x := ⟨_, List.getElem?_eq_getElem hlt⟩
      obtain ⟨k, hk⟩ : ∃ k, i + 1 = k := ⟨_, rfl⟩
      have w1 : IntKind.i64.wrap ((i : Int) + 1) = (k : Int) := by rw [IntWalk.i64_in] <;> omega
      obtain ⟨p, p1, p2, _⟩ := hv.at hlt (ρ := σ') hg.2
      rw [(ldc_take hx).1] at p2
      have hg1 := hg.1
      have hx2 := hp x (List.mem_of_getElem? hx)
      have gr : ∀ b0 b1 : Blk, Grow σ ⟨(σ'.mem.set σ'.next b0).set σ'.next b1, σ'.next + 1⟩ := fun b0 b1 => ⟨by simp; omega, fun a ha => by simp [show ¬ a = σ'.next by omega]; exact hg.2 a ha⟩
      have bad : ∀ (b0 b1 : Blk), ¬ ldCond t i → (∀ a, a < σ.next → ((σ'.mem.set σ'.next b0).set σ'.next b1).get a = σ.mem.get a) ∧ Q (.bool false) σ := fun b0 b1 hc => ⟨fun a ha => (gr b0 b1).2 a ha, h false (no_of fun e => hc (e.2 i hlt))⟩
      by_cases c1 : x.f0 = 0
      · simp [lk_cons, hlt, ↓p1, ↓p2, storeL, c1]
        exact ⟨fun a ha => (gr _ _).2 a ha, h false (no_of fun e => (e.2 i hlt x hx).1 c1)⟩
      by_cases c2 : 1048576 < x.f2
      · simp [lk_cons, hlt, ↓p1, ↓p2, storeL, c1, c2]
        exact ⟨fun a ha => (gr _ _).2 a ha, h false (no_of fun e => by have := (e.2 i hlt x hx).2.1; omega)⟩
      have ws : IntKind.i64.wrap ((t.length : Int) - 1) = (t.length : Int) - 1 := by rw [IntWalk.i64_in] <;> omega
      have last : ∀ (hc : ∀ y, 0 < i → t[i - 1]? = some y → y.f0 < x.f0), (x.f1 = false ∧ 0 < x.f2) ∨ (x.f1 = false ∧ ¬ 0 < x.f2 ∧ (i : Int) < (t.length : Int) - 1) ∨ (x.f1 = false ∧ ¬ 0 < x.f2 ∧ ¬ (i : Int) < (t.length : Int) - 1 ∧ ldCond t i) ∨ (x.f1 = true ∧ ldCond t i) := fun hc => by
        have mk : (x.f1 = false → x.f2 = 0 ∧ i + 1 = t.length) → ldCond t i := fun hd x' hx' => by
          rw [hx] at hx'; cases hx'
          exact ⟨c1, by omega, hc, hd⟩
        cases hx1 : x.f1 with
        | true => exact .inr (.inr (.inr ⟨rfl, mk fun e => by rw [hx1] at e; cases e⟩))
        | false =>
          by_cases hz : 0 < x.f2
          · exact .inl ⟨rfl, hz⟩
          by_cases hz2 : (i : Int) < (t.length : Int) - 1
          · exact .inr (.inl ⟨rfl, hz, hz2⟩)
          · exact .inr (.inr (.inl ⟨rfl, hz, hz2, mk fun _ => ⟨by omega, by omega⟩⟩))
      have fin : ldCond t i → ∀ b0 b1 : Blk, ∃ m', m' < t.length - i ∧ LcJ v t σ m' [(0, v), (8, v), (9, i64 t.length), (10, i64 k)] ⟨(σ'.mem.set σ'.next b0).set σ'.next b1, σ'.next + 1⟩ := fun hc b0 b1 =>
        ⟨t.length - k, by omega, k, rfl, by omega, gr b0 b1, by rw [← hk]; exact ldOk_step hall hc, rfl⟩
      by_cases hi0 : i = 0
      · have hi1 : ¬ 0 < i := by omega
        rcases last fun y h0 => absurd h0 hi1 with ⟨e1, e2⟩ | ⟨e1, e2, e3⟩ | ⟨e1, e2, e3, hc⟩ | ⟨e1, hc⟩
        · simp [lk_cons, hlt, ↓p1, ↓p2, storeL, c1, c2, hi1, e1, e2]
          exact ⟨fun a ha => (gr _ _).2 a ha, h false (no_of fun e => by have := ((e.2 i hlt x hx).2.2.2 e1).1; omega)⟩
        · simp [lk_cons, hlt, ↓p1, ↓p2, storeL, c1, c2, hi1, e1, e2, e3, ↓l1, ws]
          exact ⟨fun a ha => (gr _ _).2 a ha, h false (no_of fun e => by have := ((e.2 i hlt x hx).2.2.2 e1).2; omega)⟩
        · simp [lk_cons, hlt, ↓p1, ↓p2, storeL, c1, c2, hi1, e1, e2, e3, ↓l1, ws, w1]
          exact fin hc _ _
        · simp [lk_cons, hlt, ↓p1, ↓p2, storeL, c1, c2, hi1, e1, w1]
          exact fin hc _ _
      · obtain ⟨j, hj⟩ : ∃ j, j + 1 = i := ⟨i - 1, by omega⟩
        obtain ⟨y, hy⟩ : ∃ y, t[j]? = some y := ⟨_, List.getElem?_eq_getElem (by omega)⟩
        have w2 : IntKind.i64.wrap ((i : Int) - 1) = (j : Int) := by rw [IntWalk.i64_in] <;> omega
        have hi1 : 0 < i := by omega
        have hji : i - 1 = j := by omega
        obtain ⟨q, q1, _, q2⟩ := hv.at (show j < t.length by omega) (ρ := ⟨(σ'.mem.set σ'.next (.cells 3 [.int .u64 0, .bool false, .int .u64 0])).set σ'.next (.cells 3 [u64 x.f0, .bool x.f1, u64 x.f2]), σ'.next + 1⟩) (gr _ _).2
        obtain ⟨r, r1, _, r2⟩ := q2 0 1 (by decide)
        have r2 := r2 _ (by decide) (ldc_take hy).2.1
        by_cases c3 : x.f0 ≤ y.f0
        · simp [lk_cons, hlt, ↓p1, ↓p2, storeL, c1, c2, hi1, w2, ↓q1, ↓r1, ↓r2, c3]
          exact ⟨fun a ha => (gr _ _).2 a ha, h false (no_of fun e => by have := (e.2 i hlt x hx).2.2.1 y hi1 (by rw [hji]; exact hy); omega)⟩
        rcases last fun z _ hz => (by rw [hji, hy] at hz; cases hz; omega) with ⟨e1, e2⟩ | ⟨e1, e2, e3⟩ | ⟨e1, e2, e3, hc⟩ | ⟨e1, hc⟩ <;> rw [e1] at p2 q1 r1 r2
        · simp [lk_cons, hlt, ↓p1, ↓p2, storeL, c1, c2, hi1, w2, ↓q1, ↓r1, ↓r2, c3, e2]
          exact ⟨fun a ha => (gr _ _).2 a ha, h false (no_of fun e => by have := ((e.2 i hlt x hx).2.2.2 e1).1; omega)⟩
        · simp [lk_cons, hlt, ↓p1, ↓p2, storeL, c1, c2, hi1, w2, ↓q1, ↓r1, ↓r2, c3, e2, e3, ↓l1, ws]
          exact ⟨fun a ha => (gr _ _).2 a ha, h false (no_of fun e => by have := ((e.2 i hlt x hx).2.2.2 e1).2; omega)⟩
        · simp [lk_cons, hlt, ↓p1, ↓p2, storeL, c1, c2, hi1, w2, ↓q1, ↓r1, ↓r2, c3, e2, e3, ↓l1, ws, w1]
          exact fin hc _ _
        · simp [lk_cons, hlt, ↓p1, ↓p2, storeL, c1, c2, hi1, w2, ↓q1, ↓r1, ↓r2, c3, w1]
          exact fin hc _ _
    · have : i = t.length := by omega
      subst this
      simp [lk_cons]
      exact ⟨fun a ha => hg.2 a ha, h true ⟨fun _ => ⟨by omega, hall⟩, fun _ => rfl⟩⟩
end Go.Proofs.YticefdfhcahlfaaDoor.AM

/- Ledgers of any kind: are they right, by the document. -/
namespace Go.Proofs.YticefdfhcahlfaaDoor.AM
open Go.RowKit
set_option maxRecDepth 100000
set_option linter.unusedVariables false
set_option linter.unusedSimpArgs false

def LrJ (v : AVal) (t : List Ld) (σ0 : St) (mm : Nat) (rg : Regs) (σ' : St) : Prop := ∃ i : Nat, mm = t.length - i ∧ i ≤ t.length ∧ σ' = σ0 ∧ (∀ j, j < i → ldCond t j) ∧ rg = [(0, v), (3, i64 i)]
set_option maxHeartbeats 2000000 in
theorem ldright_g {σ : St} {v : AVal} {t : List Ld} (hv : Rd 3 σ v t.length (ldc t)) (hl : t.length ≤ 1000000) (hp : ∀ x ∈ t, 0 ≤ x.f2) (Q : AVal → St → Prop) (h : ∀ b, (b = true ↔ ldOk t) → Q (.bool b) σ) : ACall Tryd.prog 77 [v] σ Q := by
  refine ACall.of_compF hmx (fun a w => Tryd.call77 a w) Tryd.func77 cf77 (n := 1) (by decide) rfl ?_
  have l1 := hv.len
  by_cases h64 : 64 < t.length
  · have h64' : (64 : Int) < t.length := by omega
    simp [ac77, rs77, lk_cons, ↓l1, h64, h64']
    exact h false (no_of fun e => by have := e.1; omega)
  have h64' : ¬ (64 : Int) < t.length := by omega
  simp [ac77, rs77, lk_cons, ↓l1, h64, h64']
  refine wp_loop (LrJ v t σ) t.length ?_ ?_
  · exact ⟨0, rfl, Nat.zero_le _, rfl, by omega, rfl⟩
  · rintro mm rg σ' ⟨i, rfl, hi, rfl, hall, rfl⟩
    by_cases hlt : i < t.length
    · obtain ⟨x, hx⟩ : ∃ x, t[i]? = some x := ⟨_, List.getElem?_eq_getElem hlt⟩
      obtain ⟨k, hk⟩ : ∃ k, i + 1 = k := ⟨_, rfl⟩
      have w1 : IntKind.i64.wrap ((i : Int) + 1) = (k : Int) := by rw [IntWalk.i64_in] <;> omega
      obtain ⟨p, p1, _, pf⟩ := hv.at hlt (ρ := σ') fun _ _ => rfl
      obtain ⟨q0, a1, _, a2⟩ := pf 0 1 (by decide)
      obtain ⟨q1, b1, _, b2⟩ := pf 1 1 (by decide)
      obtain ⟨q2, d1, _, d2⟩ := pf 2 1 (by decide)
      have a2 := a2 _ (by decide) (ldc_take hx).2.1
      have b2 := b2 _ (by decide) (ldc_take hx).2.2.1
      have d2 := d2 _ (by decide) (ldc_take hx).2.2.2
      have hx2 := hp x (List.mem_of_getElem? hx)
      by_cases c1 : x.f0 = 0
      · simp [lk_cons, ↓l1, hlt, ↓p1, ↓a1, ↓a2, ↓b1, ↓b2, ↓d1, ↓d2, c1]
        exact h false (no_of fun e => (e.2 i hlt x hx).1 c1)
      by_cases c2 : 1048576 < x.f2
      · simp [lk_cons, ↓l1, hlt, ↓p1, ↓a1, ↓a2, ↓b1, ↓b2, ↓d1, ↓d2, c1, c2]
        exact h false (no_of fun e => by have := (e.2 i hlt x hx).2.1; omega)
      have ws : IntKind.i64.wrap ((t.length : Int) - 1) = (t.length : Int) - 1 := by rw [IntWalk.i64_in] <;> omega
      have last : ∀ (hc : ∀ y, 0 < i → t[i - 1]? = some y → y.f0 < x.f0), (x.f1 = false ∧ ¬ (i : Int) = (t.length : Int) - 1) ∨ (x.f1 = false ∧ (i : Int) = (t.length : Int) - 1 ∧ ¬ x.f2 = 0) ∨ (x.f1 = false ∧ (i : Int) = (t.length : Int) - 1 ∧ x.f2 = 0 ∧ ldCond t i) ∨ (x.f1 = true ∧ ldCond t i) := fun hc => by
        have mk : (x.f1 = false → x.f2 = 0 ∧ i + 1 = t.length) → ldCond t i := fun hd x' hx' => by
          rw [hx] at hx'; cases hx'
          exact ⟨c1, by omega, hc, hd⟩
        cases hx1 : x.f1 with
        | true => exact .inr (.inr (.inr ⟨rfl, mk fun e => by rw [hx1] at e; cases e⟩))
        | false =>
          by_cases hz2 : (i : Int) = (t.length : Int) - 1
          · by_cases hz : x.f2 = 0
            · exact .inr (.inr (.inl ⟨rfl, hz2, hz, mk fun _ => ⟨hz, by omega⟩⟩))
            · exact .inr (.inl ⟨rfl, hz2, hz⟩)
          · exact .inl ⟨rfl, hz2⟩
      have fin : ldCond t i → ∃ m', m' < t.length - i ∧ LrJ v t σ' m' [(0, v), (3, i64 k)] σ' := fun hc =>
        ⟨t.length - k, by omega, k, rfl, by omega, rfl, by rw [← hk]; exact ldOk_step hall hc, rfl⟩
      by_cases hi0 : i = 0
      · have hi1 : ¬ 0 < i := by omega
        rcases last fun y h0 => absurd h0 hi1 with ⟨e1, e2⟩ | ⟨e1, e2, e3⟩ | ⟨e1, e2, e3, hc⟩ | ⟨e1, hc⟩ <;> rw [e1] at b2
        · simp [lk_cons, ↓l1, hlt, ↓p1, ↓a1, ↓a2, ↓b1, ↓b2, ↓d1, ↓d2, c1, c2, hi1, ws, e2]
          exact h false (no_of fun e => by have := ((e.2 i hlt x hx).2.2.2 e1).2; omega)
        · simp [lk_cons, ↓l1, hlt, ↓p1, ↓a1, ↓a2, ↓b1, ↓b2, ↓d1, ↓d2, c1, c2, hi1, ws, iff_true_intro e2, e3]
          exact h false (no_of fun e => by have := ((e.2 i hlt x hx).2.2.2 e1).1; omega)
        · rw [e3] at d2
          simp [lk_cons, ↓l1, hlt, ↓p1, ↓a1, ↓a2, ↓b1, ↓b2, ↓d1, ↓d2, c1, hi1, ws, iff_true_intro e2, w1]
          exact fin hc
        · simp [lk_cons, ↓l1, hlt, ↓p1, ↓a1, ↓a2, ↓b1, ↓b2, ↓d1, ↓d2, c1, c2, hi1, w1]
          exact fin hc
      · obtain ⟨j, hj⟩ : ∃ j, j + 1 = i := ⟨i - 1, by omega⟩
        obtain ⟨y, hy⟩ : ∃ y, t[j]? = some y := ⟨_, List.getElem?_eq_getElem (by omega)⟩
        have w2 : IntKind.i64.wrap ((i : Int) - 1) = (j : Int) := by rw [IntWalk.i64_in] <;> omega
        have hi1 : 0 < i := by omega
        have hji : i - 1 = j := by omega
        obtain ⟨q, r0, _, rf⟩ := hv.at (show j < t.length by omega) (ρ := σ') fun _ _ => rfl
        obtain ⟨r, r1, _, r2⟩ := rf 0 1 (by decide)
        have r2 := r2 _ (by decide) (ldc_take hy).2.1
        by_cases c3 : x.f0 ≤ y.f0
        · simp [lk_cons, ↓l1, hlt, ↓p1, ↓a1, ↓a2, ↓b1, ↓b2, ↓d1, ↓d2, c1, c2, hi1, w2, ↓r0, ↓r1, ↓r2, c3]
          exact h false (no_of fun e => by have := (e.2 i hlt x hx).2.2.1 y hi1 (by rw [hji]; exact hy); omega)
        rcases last fun z _ hz => (by rw [hji, hy] at hz; cases hz; omega) with ⟨e1, e2⟩ | ⟨e1, e2, e3⟩ | ⟨e1, e2, e3, hc⟩ | ⟨e1, hc⟩ <;> rw [e1] at b2
        · simp [lk_cons, ↓l1, hlt, ↓p1, ↓a1, ↓a2, ↓b1, ↓b2, ↓d1, ↓d2, c1, c2, hi1, w2, ↓r0, ↓r1, ↓r2, c3, ws, e2]
          exact h false (no_of fun e => by have := ((e.2 i hlt x hx).2.2.2 e1).2; omega)
        · simp [lk_cons, ↓l1, hlt, ↓p1, ↓a1, ↓a2, ↓b1, ↓b2, ↓d1, ↓d2, c1, c2, hi1, w2, ↓r0, ↓r1, ↓r2, c3, ws, iff_true_intro e2, e3]
          exact h false (no_of fun e => by have := ((e.2 i hlt x hx).2.2.2 e1).1; omega)
        · rw [e3] at d2
          simp [lk_cons, ↓l1, hlt, ↓p1, ↓a1, ↓a2, ↓b1, ↓b2, ↓d1, ↓d2, c1, hi1, w2, ↓r0, ↓r1, ↓r2, c3, ws, iff_true_intro e2, w1]
          exact fin hc
        · simp [lk_cons, ↓l1, hlt, ↓p1, ↓a1, ↓a2, ↓b1, ↓b2, ↓d1, ↓d2, c1, c2, hi1, w2, ↓r0, ↓r1, ↓r2, c3, w1]
          exact fin hc
    · have : i = t.length := by omega
      subst this
      simp [lk_cons, ↓l1]
      exact h true ⟨fun _ => ⟨by omega, hall⟩, fun _ => rfl⟩
end Go.Proofs.YticefdfhcahlfaaDoor.AM

/- Topics: Check. -/
namespace Go.Proofs.YticefdfhcahlfaaDoor.AM
open Go.RowKit
set_option maxRecDepth 100000
set_option linter.unusedVariables false
set_option linter.unusedSimpArgs false

structure SbV where
  name : ByteArray
  kind : Nat
  ml : Int
  me : Int
  h : List Hd
def sbA (x : SbV) (hv : AVal) : List AVal := [.str x.name, .int .u8 (x.kind : Int), u64 x.ml, u64 x.me, hv]
/-- Subscriptions' cells. -/
def SbC (σ : St) : List AVal → List SbV → Prop
  | [], [] => True
  | a :: b :: c :: d :: e :: cs, x :: xs => (a = .str x.name ∧ b = .int .u8 (x.kind : Int) ∧ c = u64 x.ml ∧ d = u64 x.me ∧ HR σ e x.h) ∧ SbC σ cs xs
  | _, _ => False
theorem SbC.len {σ : St} : ∀ {cs : List AVal} {xs : List SbV}, SbC σ cs xs → cs.length = xs.length * 5
  | [], [], _ => rfl
  | a :: b :: c :: d :: e :: cs, x :: xs, h => by simp [h.2.len]; omega
  | [], _ :: _, h => h.elim
  | [_], _, h => by cases ‹List SbV› <;> exact h.elim
  | [_, _], _, h => by cases ‹List SbV› <;> exact h.elim
  | [_, _, _], _, h => by cases ‹List SbV› <;> exact h.elim
  | [_, _, _, _], _, h => by cases ‹List SbV› <;> exact h.elim
  | _ :: _ :: _ :: _ :: _ :: _, [], h => h.elim
theorem SbC.get {σ : St} : ∀ {cs : List AVal} {xs : List SbV} {i : Nat} {x : SbV}, SbC σ cs xs → xs[i]? = some x → ∃ hv, HR σ hv x.h ∧ (cs.drop (i * 5)).take 5 = sbA x hv ∧ cs[i * 5]? = some (.str x.name) ∧ cs[i * 5 + 1]? = some (.int .u8 (x.kind : Int)) ∧ (cs.drop (i * 5 + 2)).take 3 = [u64 x.ml, u64 x.me, hv] ∧ (cs.drop (i * 5 + 2)).take 2 = [u64 x.ml, u64 x.me]
  | a :: b :: c :: d :: e :: cs, y :: xs, 0, x, h, hx => by
    simp at hx; subst hx
    obtain ⟨⟨rfl, rfl, rfl, rfl, h5⟩, _⟩ := h
    exact ⟨e, h5, by simp [sbA], by simp, by simp, by simp, by simp⟩
  | a :: b :: c :: d :: e :: cs, y :: xs, i + 1, x, h, hx => by
    obtain ⟨hv, h1, h2, h3, h4, h5, h6⟩ := h.2.get (i := i) (by simpa using hx)
    have e1 : (i + 1) * 5 = i * 5 + 1 + 1 + 1 + 1 + 1 := by omega
    have e2 : (i + 1) * 5 + 2 = (i * 5 + 2) + 1 + 1 + 1 + 1 + 1 := by omega
    have e3 : (i + 1) * 5 + 1 = (i * 5 + 1) + 1 + 1 + 1 + 1 + 1 := by omega
    exact ⟨hv, h1, by rw [e1]; simpa using h2, by rw [e1]; simpa using h3, by rw [e3]; simpa using h4, by rw [e2]; simpa using h5, by rw [e2]; simpa using h6⟩
  | [], [], _, _, _, hx => by simp at hx
  | [], _ :: _, _, _, h, _ => h.elim
  | [_], _, _, _, h, _ => by cases ‹List SbV› <;> exact h.elim
  | [_, _], _, _, _, h, _ => by cases ‹List SbV› <;> exact h.elim
  | [_, _, _], _, _, _, h, _ => by cases ‹List SbV› <;> exact h.elim
  | [_, _, _, _], _, _, _, h, _ => by cases ‹List SbV› <;> exact h.elim
  | _ :: _ :: _ :: _ :: _ :: _, [], _, _, h, _ => h.elim
theorem SbC.frame {σ σ' : St} (hn : σ.next ≤ σ'.next) (hm : ∀ a, a < σ.next → σ'.mem.get a = σ.mem.get a) : ∀ {cs : List AVal} {xs : List SbV}, SbC σ cs xs → SbC σ' cs xs
  | [], [], _ => trivial
  | a :: b :: c :: d :: e :: cs, x :: xs, h => ⟨⟨h.1.1, h.1.2.1, h.1.2.2.1, h.1.2.2.2.1, h.1.2.2.2.2.frame hn hm⟩, SbC.frame hn hm h.2⟩
  | [], _ :: _, h => h.elim
  | [_], _, h => by cases ‹List SbV› <;> exact h.elim
  | [_, _], _, h => by cases ‹List SbV› <;> exact h.elim
  | [_, _, _], _, h => by cases ‹List SbV› <;> exact h.elim
  | [_, _, _, _], _, h => by cases ‹List SbV› <;> exact h.elim
  | _ :: _ :: _ :: _ :: _ :: _, [], h => h.elim
def sbCond (s : List SbV) (i : Nat) : Prop := ∀ x, s[i]? = some x → (1 ≤ x.name.size ∧ x.name.size ≤ 64) ∧ (∀ y, 0 < i → s[i - 1]? = some y → lessB y.name x.name = true) ∧ (1 ≤ x.kind ∧ x.kind ≤ 4) ∧ cuOk x.ml x.me x.h
def tpOk (last : Int) (t : List Ld) (s : List SbV) : Prop := ldOk t ∧ (∀ x, t[t.length - 1]? = some x → x.f0 ≤ last) ∧ s.length ≤ 2 ∧ ∀ i, i < s.length → sbCond s i
theorem sbOk_step {s : List SbV} {i : Nat} (hh : ∀ j, j < i → sbCond s j) (hi : sbCond s i) : ∀ j, j < i + 1 → sbCond s j := fun j hj => by
  by_cases e : j = i
  · rw [e]; exact hi
  · exact hh j (by omega)
/-- A topic's parts, to be read: ledgers, subscriptions. -/
structure TpR (σ : St) (lv sv : AVal) (t : List Ld) (s : List SbV) (cs : List AVal) : Prop where
  rl : Rd 3 σ lv t.length (ldc t)
  rs : Rd 5 σ sv s.length cs
  rc : SbC σ cs s
/-- As few as may be gone through. -/
structure TFew (t : List Ld) (s : List SbV) : Prop where
  fl : t.length ≤ 1000000
  fp : ∀ x ∈ t, 0 ≤ x.f2
  fs : s.length ≤ 1000000
  fh : ∀ x ∈ s, HFew x.h
theorem strGeq (a b : ByteArray) : abinS .geq a b = some (.bool (!lessB a b)) := by simp only [abinS, bLess]
theorem strLeq (a b : ByteArray) : abinS .leq a b = some (.bool (lessB a b || decide (a = b))) := by
  have h := strEq a b
  simp only [abinS, Option.some.injEq, AVal.bool.injEq] at h
  simp only [abinS, bLess, h]
theorem size0 (a : ByteArray) : a = ⟨#[]⟩ ↔ a.size = 0 := by
  constructor
  · rintro rfl; rfl
  · intro h
    cases a with
    | mk d => congr 1; exact Array.eq_empty_of_size_eq_zero h
def KcJ (ev Lv lv sv nv : AVal) (s : List SbV) (σ0 : St) (mm : Nat) (rg : Regs) (σ' : St) : Prop := ∃ i : Nat, mm = s.length - i ∧ i ≤ s.length ∧ σ0.next + 1 ≤ σ'.next ∧ (∀ a, a < σ0.next → σ'.mem.get a = σ0.mem.get a) ∧ σ'.mem.get σ0.next = some (.cells 5 [ev, Lv, lv, sv, nv]) ∧ (∀ j, j < i → sbCond s j) ∧
  rg = [(1, .ptr σ0.next 0), (36, sv), (37, i64 s.length), (38, i64 i)]
set_option maxHeartbeats 4000000 in
theorem tpcheck_g {σ : St} {lv sv nv : AVal} {t : List Ld} {s : List SbV} {cs : List AVal} (hr : TpR σ lv sv t s cs) (hf : TFew t s) (ep last : Int) (hnv : nv.one = true) (Q : AVal → St → Prop) (h : ∀ b, (b = true ↔ tpOk last t s) → Q (.bool b) σ) : ACall Tryd.prog 32 [.agg [u64 ep, u64 last, lv, sv, nv]] σ Q := by
  refine ACall.scrub ?_
  refine ACall.of_compF hmx (fun a w => Tryd.call32 a w) Tryd.func32 cf32 (n := 1) (by decide) rfl ?_
  obtain ⟨o1, o2⟩ := hr.rl.one
  obtain ⟨o3, o4⟩ := hr.rs.one
  have l1 := hr.rl.len
  have l2 := hr.rs.len
  have hfl := hf.fl
  have hfs := hf.fs
  simp [ac32, rs32, lk_cons, o1, o2, o3, o4, hnv]
  obtain ⟨S, hS⟩ : ∃ S : St, S = ⟨σ.mem.set σ.next (.cells 5 [u64 ep, u64 last, lv, sv, nv]), σ.next + 1⟩ := ⟨_, rfl⟩
  have gS : Grow σ S := ⟨by rw [hS]; exact Nat.le_succ _, fun a ha => by rw [hS]; simp [show ¬ a = σ.next by omega]⟩
  have nS : S.next = σ.next + 1 := by rw [hS]
  have mS : S.mem.get σ.next = some (.cells 5 [u64 ep, u64 last, lv, sv, nv]) := by rw [hS]; simp
  rw [← hS]
  have hlS := hr.rl.frame gS.1 gS.2
  refine ldcheck_g hlS hfl hf.fp _ fun b hb => ?_
  have stop : ∀ {P : Prop}, (tpOk last t s → P) → ¬ P → (∀ a, a < σ.next → S.mem.get a = σ.mem.get a) ∧ Q (.bool false) σ := fun hp hn => ⟨gS.2, h false (no_of fun e => hn (hp e))⟩
  cases b with
  | false =>
    simp [lk_cons]
    exact stop (fun e => hb.2 e.1) (by simp)
  | true =>
    have hld := hb.1 rfl
    have ws : IntKind.i64.wrap ((t.length : Int) - 1) = (t.length : Int) - 1 := by rw [IntWalk.i64_in] <;> omega
    have hmid : ((0 < t.length ∧ ∃ x, t[t.length - 1]? = some x ∧ last < x.f0) ∨ t.length = 0 ∨ 0 < t.length ∧ ∃ x, t[t.length - 1]? = some x ∧ ¬ last < x.f0) := by
      by_cases h0 : t.length = 0
      · exact .inr (.inl h0)
      · obtain ⟨x, hx⟩ : ∃ x, t[t.length - 1]? = some x := ⟨_, List.getElem?_eq_getElem (by omega)⟩
        by_cases hc : last < x.f0
        · exact .inl ⟨by omega, x, hx, hc⟩
        · exact .inr (.inr ⟨by omega, x, hx, hc⟩)
    have hlast : ∀ {x : Ld}, t[t.length - 1]? = some x → 0 < t.length → ∃ p q, evalV S (.idxAddr 3 lv (.int .i64 ((t.length : Int) - 1))) = some (p, S) ∧ evalV S (.fieldAddr 0 p) = some (q, S) ∧ evalV S (.ld1 q) = some (u64 x.f0, S) := fun {x} hx h0 => by
      obtain ⟨p, p1, _, pf⟩ := hlS.at (show t.length - 1 < t.length by omega) (ρ := S) fun _ _ => rfl
      obtain ⟨q, q1, _, q2⟩ := pf 0 1 (by decide)
      refine ⟨p, q, ?_, q1, q2 _ (by decide) (ldc_take hx).2.1⟩
      rw [← p1]; congr 2; simp only [i64]; congr 1; omega
    rcases hmid with ⟨h0, x, hx, hc⟩ | hmid
    · have h0' : (0 : Int) < t.length := by omega
      obtain ⟨p, q, p1, p2, p3⟩ := hlast hx h0
      simp [lk_cons, mS, ↓l1, h0, h0', ws, ↓p1, ↓p2, ↓p3, hc]
      exact stop (fun e => e.2.1 x hx) (by omega)
    have hlastok : ∀ x, t[t.length - 1]? = some x → x.f0 ≤ last := fun y hy => by
      rcases hmid with h0 | ⟨_, x, hx, hc⟩
      · have := (List.getElem?_eq_some_iff.1 hy).1; omega
      · rw [hx] at hy; cases hy; omega
    by_cases h2 : 2 < s.length
    · have h2' : (2 : Int) < s.length := by omega
      rcases hmid with h0 | ⟨h0, x, hx, hc⟩
      · have h0' : ¬ 0 < t.length := by omega
        simp [lk_cons, mS, ↓l1, ↓l2, h0, h0', h2, h2']
        exact stop (fun e => e.2.2.1) (by omega)
      · have h0' : (0 : Int) < t.length := by omega
        obtain ⟨p, q, p1, p2, p3⟩ := hlast hx h0
        simp [lk_cons, mS, ↓l1, ↓l2, h0, h0', ws, ↓p1, ↓p2, ↓p3, hc, h2, h2']
        exact stop (fun e => e.2.2.1) (by omega)
    have h2' : ¬ (2 : Int) < s.length := by omega
    rcases hmid with h0 | hmid
    case' inl =>
      simp [lk_cons, mS, ↓l1, ↓l2, h0, h2, h2']
    case' inr =>
      obtain ⟨h0, x, hx, hc⟩ := hmid
      have h0' : (0 : Int) < t.length := by omega
      obtain ⟨p, q, p1, p2, p3⟩ := hlast hx h0
      simp [lk_cons, mS, ↓l1, ↓l2, h0, h0', ws, ↓p1, ↓p2, ↓p3, hc, h2, h2']
    all_goals
      refine wp_loop (KcJ (u64 ep) (u64 last) lv sv nv s σ) s.length ?_ ?_
      · exact ⟨0, rfl, Nat.zero_le _, by omega, gS.2, mS, by omega, by simp [lk_cons]⟩
      rintro mm rg σ1 ⟨i, rfl, hi, hn1, gold, m1, hall, rfl⟩
      have z1 : ¬ σ.next = σ1.next := by omega
      by_cases hlt : i < s.length
      · obtain ⟨x, hx⟩ : ∃ x, s[i]? = some x := ⟨_, List.getElem?_eq_getElem hlt⟩
        obtain ⟨k, hk⟩ : ∃ k, i + 1 = k := ⟨_, rfl⟩
        have w1 : IntKind.i64.wrap ((i : Int) + 1) = (k : Int) := by rw [IntWalk.i64_in] <;> omega
        obtain ⟨p, p1, p2, _⟩ := hr.rs.at hlt (ρ := σ1) gold
        obtain ⟨hv, c1, c2, _, _, _⟩ := hr.rc.get hx
        have c2' := c2
        rw [c2] at p2
        have hv1 := c1.one
        have hxf := hf.fh x (List.mem_of_getElem? hx)
        simp only [sbA] at p2
        have gold2 : ∀ (b0 b1 : Blk) (a : Nat), a < σ.next → (⟨(σ1.mem.set σ1.next b0).set σ1.next b1, σ1.next + 1⟩ : St).mem.get a = σ.mem.get a := fun b0 b1 a ha => by simp [show ¬ a = σ1.next by omega]; exact gold a ha
        have fin : sbCond s i → ∀ b0 b1 : Blk, ∃ mm, mm < s.length - i ∧ KcJ (u64 ep) (u64 last) lv sv nv s σ mm [(1, .ptr σ.next 0), (36, sv), (37, i64 s.length), (38, i64 k)] ⟨(σ1.mem.set σ1.next b0).set σ1.next b1, σ1.next + 1⟩ := fun hc b0 b1 =>
          ⟨s.length - k, by omega, k, rfl, by omega, by show σ.next + 1 ≤ σ1.next + 1; omega, gold2 b0 b1, by simp [z1]; exact m1, by rw [← hk]; exact sbOk_step hall hc, rfl⟩
        have stop2 : ∀ {P : Prop} (b0 b1 : Blk), (sbCond s i → P) → ¬ P → (∀ a, a < σ.next → ((σ1.mem.set σ1.next b0).set σ1.next b1).get a = σ.mem.get a) ∧ Q (.bool false) σ := fun b0 b1 hp hn => ⟨gold2 b0 b1, h false (no_of fun e => hn (hp (e.2.2.2 i hlt)))⟩
        have strE : ∀ a b : ByteArray, abinS .eql a b = some (.bool (decide (a = b))) := strEq
        by_cases e0 : x.name = ⟨#[]⟩
        · simp [lk_cons, hlt, ↓p1, ↓p2, storeL, hv1, strE, e0]
          exact stop2 _ _ (fun e => (e x hx).1.1) (by rw [e0]; decide)
        by_cases e1 : 64 < x.name.size
        · have e1' : (64 : Int) < x.name.size := by omega
          simp [lk_cons, hlt, ↓p1, ↓p2, storeL, hv1, strE, e0, e1, e1']
          exact stop2 _ _ (fun e => (e x hx).1.2) (by omega)
        have e1' : ¬ (64 : Int) < x.name.size := by omega
        have hnm : 1 ≤ x.name.size ∧ x.name.size ≤ 64 := ⟨by have := mt (size0 x.name).2 e0; omega, by omega⟩
        have rest : (∀ y, 0 < i → s[i - 1]? = some y → lessB y.name x.name = true) → (x.kind < 1) ∨ (¬ x.kind < 1 ∧ 4 < x.kind) ∨ (¬ x.kind < 1 ∧ ¬ 4 < x.kind ∧ (cuOk x.ml x.me x.h → sbCond s i)) := fun hc => by
          by_cases f1 : x.kind < 1
          · exact .inl f1
          by_cases f2 : 4 < x.kind
          · exact .inr (.inl ⟨f1, f2⟩)
          · refine .inr (.inr ⟨f1, f2, fun hcu x' hx' => ?_⟩)
            rw [hx] at hx'; cases hx'
            exact ⟨hnm, hc, ⟨by omega, by omega⟩, hcu⟩
        have gg : ∀ b0 b1 : Blk, σ.next ≤ (⟨(σ1.mem.set σ1.next b0).set σ1.next b1, σ1.next + 1⟩ : St).next := fun _ _ => by show σ.next ≤ σ1.next + 1; omega
        by_cases hi0 : i = 0
        · have hi1 : ¬ 0 < i := by omega
          rcases rest fun y h0 => absurd h0 hi1 with f1 | ⟨f1, f2⟩ | ⟨f1, f2, hc⟩
          · have f1' : (x.kind : Int) < 1 := by omega
            simp [lk_cons, hlt, ↓p1, ↓p2, storeL, hv1, strE, e0, e1, e1', hi1, f1, f1']
            exact stop2 _ _ (fun e => (e x hx).2.2.1.1) (by omega)
          · have f1' : ¬ (x.kind : Int) < 1 := by omega
            have f2' : (4 : Int) < x.kind := by omega
            simp [lk_cons, hlt, ↓p1, ↓p2, storeL, hv1, strE, e0, e1, e1', hi1, f1, f1', f2, f2']
            exact stop2 _ _ (fun e => (e x hx).2.2.1.2) (by omega)
          · have f1' : ¬ (x.kind : Int) < 1 := by omega
            have f2' : ¬ (4 : Int) < x.kind := by omega
            simp [lk_cons, hlt, ↓p1, ↓p2, storeL, hv1, strE, e0, e1, e1', hi1, f1, f1', f2, f2']
            refine ccheck_g (c1.frame (gg _ _) (gold2 _ _)) hxf _ _ _ fun b hb => ?_
            cases b with
            | false =>
              simp [lk_cons]
              exact stop2 _ _ (fun e => hb.2 (e x hx).2.2.2) (by simp)
            | true =>
              simp [lk_cons, w1]
              exact fin (hc (hb.1 rfl)) _ _
        · obtain ⟨j, hj⟩ : ∃ j, j + 1 = i := ⟨i - 1, by omega⟩
          obtain ⟨y, hy⟩ : ∃ y, s[j]? = some y := ⟨_, List.getElem?_eq_getElem (by omega)⟩
          have w2 : IntKind.i64.wrap ((i : Int) - 1) = (j : Int) := by rw [IntWalk.i64_in] <;> omega
          have hi1 : 0 < i := by omega
          have hji : i - 1 = j := by omega
          obtain ⟨q, q1, _, qf⟩ := hr.rs.at (show j < s.length by omega) (ρ := ⟨(σ1.mem.set σ1.next (.cells 5 [.str ⟨#[]⟩, .int .u8 0, .int .u64 0, .int .u64 0, .nilsl])).set σ1.next (.cells 5 [.str x.name, .int .u8 (x.kind : Int), u64 x.ml, u64 x.me, hv]), σ1.next + 1⟩) (gold2 _ _)
          obtain ⟨r, r1, _, r2⟩ := qf 0 1 (by decide)
          obtain ⟨hvy, _, _, cy, _, _⟩ := hr.rc.get hy
          have r2 := r2 _ (by decide) cy
          cases hle : lessB y.name x.name with
          | false =>
            simp [lk_cons, hlt, ↓p1, ↓p2, storeL, hv1, strE, e0, e1, e1', hi1, m1, z1, w2, ↓q1, ↓r1, ↓r2, strGeq, hle]
            exact stop2 _ _ (fun e => (e x hx).2.1 y hi1 (by rw [hji]; exact hy)) (by simp [hle])
          | true =>
            rcases rest fun z _ hz => (by rw [hji, hy] at hz; cases hz; exact hle) with f1 | ⟨f1, f2⟩ | ⟨f1, f2, hc⟩
            · have f1' : (x.kind : Int) < 1 := by omega
              simp [lk_cons, hlt, ↓p1, ↓p2, storeL, hv1, strE, e0, e1, e1', hi1, m1, z1, w2, ↓q1, ↓r1, ↓r2, strGeq, hle, f1, f1']
              exact stop2 _ _ (fun e => (e x hx).2.2.1.1) (by omega)
            · have f1' : ¬ (x.kind : Int) < 1 := by omega
              have f2' : (4 : Int) < x.kind := by omega
              simp [lk_cons, hlt, ↓p1, ↓p2, storeL, hv1, strE, e0, e1, e1', hi1, m1, z1, w2, ↓q1, ↓r1, ↓r2, strGeq, hle, f1, f1', f2, f2']
              exact stop2 _ _ (fun e => (e x hx).2.2.1.2) (by omega)
            · have f1' : ¬ (x.kind : Int) < 1 := by omega
              have f2' : ¬ (4 : Int) < x.kind := by omega
              simp [lk_cons, hlt, ↓p1, ↓p2, storeL, hv1, strE, e0, e1, e1', hi1, m1, z1, w2, ↓q1, ↓r1, ↓r2, strGeq, hle, f1, f1', f2, f2']
              refine ccheck_g (c1.frame (gg _ _) (gold2 _ _)) hxf _ _ _ fun b hb => ?_
              cases b with
              | false =>
                simp [lk_cons]
                exact stop2 _ _ (fun e => hb.2 (e x hx).2.2.2) (by simp)
              | true =>
                simp [lk_cons, w1]
                exact fin (hc (hb.1 rfl)) _ _
      · have : i = s.length := by omega
        subst this
        simp [lk_cons]
        exact ⟨fun a ha => gold a ha, h true ⟨fun _ => ⟨hld, hlastok, by omega, hall⟩, fun _ => rfl⟩⟩
end Go.Proofs.YticefdfhcahlfaaDoor.AM

/- Topics: the document's Right. -/
namespace Go.Proofs.YticefdfhcahlfaaDoor.AM
open Go.RowKit
set_option maxRecDepth 100000
set_option linter.unusedVariables false
set_option linter.unusedSimpArgs false

def KrJ (ev Lv lv sv nv : AVal) (s : List SbV) (σ0 : St) (mm : Nat) (rg : Regs) (σ' : St) : Prop := ∃ i : Nat, mm = s.length - i ∧ i ≤ s.length ∧ σ0.next + 1 ≤ σ'.next ∧ (∀ a, a < σ0.next → σ'.mem.get a = σ0.mem.get a) ∧ σ'.mem.get σ0.next = some (.cells 5 [ev, Lv, lv, sv, nv]) ∧ (∀ j, j < i → sbCond s j) ∧
  rg = [(1, .ptr σ0.next 0), (4, i64 i)]
set_option maxHeartbeats 4000000 in
theorem tpright_g {σ : St} {lv sv nv : AVal} {t : List Ld} {s : List SbV} {cs : List AVal} (hr : TpR σ lv sv t s cs) (hf : TFew t s) (ep last : Int) (hnv : nv.one = true) (Q : AVal → St → Prop) (h : ∀ b, (b = true ↔ tpOk last t s) → Q (.bool b) σ) : ACall Tryd.prog 33 [.agg [u64 ep, u64 last, lv, sv, nv]] σ Q := by
  refine ACall.scrub ?_
  refine ACall.of_compF hmx (fun a w => Tryd.call33 a w) Tryd.func33 cf33 (n := 1) (by decide) rfl ?_
  obtain ⟨o1, o2⟩ := hr.rl.one
  obtain ⟨o3, o4⟩ := hr.rs.one
  have l1 := hr.rl.len
  have l2 := hr.rs.len
  have hfl := hf.fl
  have hfs := hf.fs
  simp [ac33, rs33, lk_cons, o1, o2, o3, o4, hnv, ↓l1]
  obtain ⟨S, hS⟩ : ∃ S : St, S = ⟨σ.mem.set σ.next (.cells 5 [u64 ep, u64 last, lv, sv, nv]), σ.next + 1⟩ := ⟨_, rfl⟩
  have gS : Grow σ S := ⟨by rw [hS]; exact Nat.le_succ _, fun a ha => by rw [hS]; simp [show ¬ a = σ.next by omega]⟩
  have nS : S.next = σ.next + 1 := by rw [hS]
  have mS : S.mem.get σ.next = some (.cells 5 [u64 ep, u64 last, lv, sv, nv]) := by rw [hS]; simp
  rw [← hS]
  have hlS := hr.rl.frame gS.1 gS.2
  refine ldright_g hlS hfl hf.fp _ fun b hb => ?_
  have stop : ∀ {P : Prop}, (tpOk last t s → P) → ¬ P → (∀ a, a < σ.next → S.mem.get a = σ.mem.get a) ∧ Q (.bool false) σ := fun hp hn => ⟨gS.2, h false (no_of fun e => hn (hp e))⟩
  cases b with
  | false =>
    simp [lk_cons]
    exact stop (fun e => hb.2 e.1) (by simp)
  | true =>
    have hld := hb.1 rfl
    have ws : IntKind.i64.wrap ((t.length : Int) - 1) = (t.length : Int) - 1 := by rw [IntWalk.i64_in] <;> omega
    have hmid : ((0 < t.length ∧ ∃ x, t[t.length - 1]? = some x ∧ last < x.f0) ∨ t.length = 0 ∨ 0 < t.length ∧ ∃ x, t[t.length - 1]? = some x ∧ ¬ last < x.f0) := by
      by_cases h0 : t.length = 0
      · exact .inr (.inl h0)
      · obtain ⟨x, hx⟩ : ∃ x, t[t.length - 1]? = some x := ⟨_, List.getElem?_eq_getElem (by omega)⟩
        by_cases hc : last < x.f0
        · exact .inl ⟨by omega, x, hx, hc⟩
        · exact .inr (.inr ⟨by omega, x, hx, hc⟩)
    have hlast : ∀ {x : Ld}, t[t.length - 1]? = some x → 0 < t.length → ∃ p q, evalV S (.idxAddr 3 lv (.int .i64 ((t.length : Int) - 1))) = some (p, S) ∧ evalV S (.fieldAddr 0 p) = some (q, S) ∧ evalV S (.ld1 q) = some (u64 x.f0, S) := fun {x} hx h0 => by
      obtain ⟨p, p1, _, pf⟩ := hlS.at (show t.length - 1 < t.length by omega) (ρ := S) fun _ _ => rfl
      obtain ⟨q, q1, _, q2⟩ := pf 0 1 (by decide)
      refine ⟨p, q, ?_, q1, q2 _ (by decide) (ldc_take hx).2.1⟩
      rw [← p1]; congr 2; simp only [i64]; congr 1; omega
    rcases hmid with ⟨h0, x, hx, hc⟩ | hmid
    · have h0' : (0 : Int) < t.length := by omega
      obtain ⟨p, q, p1, p2, p3⟩ := hlast hx h0
      simp [lk_cons, mS, ↓l1, h0, h0', ws, ↓p1, ↓p2, ↓p3, hc]
      exact stop (fun e => e.2.1 x hx) (by omega)
    have hlastok : ∀ x, t[t.length - 1]? = some x → x.f0 ≤ last := fun y hy => by
      rcases hmid with h0 | ⟨_, x, hx, hc⟩
      · have := (List.getElem?_eq_some_iff.1 hy).1; omega
      · rw [hx] at hy; cases hy; omega
    by_cases h2 : 2 < s.length
    · have h2' : (2 : Int) < s.length := by omega
      rcases hmid with h0 | ⟨h0, x, hx, hc⟩
      · have h0' : ¬ 0 < t.length := by omega
        simp [lk_cons, mS, ↓l1, ↓l2, h0, h0', h2, h2']
        exact stop (fun e => e.2.2.1) (by omega)
      · have h0' : (0 : Int) < t.length := by omega
        obtain ⟨p, q, p1, p2, p3⟩ := hlast hx h0
        simp [lk_cons, mS, ↓l1, ↓l2, h0, h0', ws, ↓p1, ↓p2, ↓p3, hc, h2, h2']
        exact stop (fun e => e.2.2.1) (by omega)
    have h2' : ¬ (2 : Int) < s.length := by omega
    rcases hmid with h0 | hmid
    case' inl =>
      simp [lk_cons, mS, ↓l1, ↓l2, h0, h2, h2']
    case' inr =>
      obtain ⟨h0, x, hx, hc⟩ := hmid
      have h0' : (0 : Int) < t.length := by omega
      obtain ⟨p, q, p1, p2, p3⟩ := hlast hx h0
      simp [lk_cons, mS, ↓l1, ↓l2, h0, h0', ws, ↓p1, ↓p2, ↓p3, hc, h2, h2']
    all_goals
      refine wp_loop (KrJ (u64 ep) (u64 last) lv sv nv s σ) s.length ?_ ?_
      · exact ⟨0, rfl, Nat.zero_le _, by omega, gS.2, mS, by omega, by simp [lk_cons]⟩
      rintro mm rg σ1 ⟨i, rfl, hi, hn1, gold, m1, hall, rfl⟩
      have z1 : ¬ σ.next = σ1.next := by omega
      by_cases hlt : i < s.length
      · obtain ⟨x, hx⟩ : ∃ x, s[i]? = some x := ⟨_, List.getElem?_eq_getElem hlt⟩
        obtain ⟨k, hk⟩ : ∃ k, i + 1 = k := ⟨_, rfl⟩
        have w1 : IntKind.i64.wrap ((i : Int) + 1) = (k : Int) := by rw [IntWalk.i64_in] <;> omega
        obtain ⟨p, p1, p2, _⟩ := hr.rs.at hlt (ρ := σ1) gold
        obtain ⟨hv, c1, c2, _, _, _⟩ := hr.rc.get hx
        have c2' := c2
        rw [c2] at p2
        have hv1 := c1.one
        have hxf := hf.fh x (List.mem_of_getElem? hx)
        simp only [sbA] at p2
        have gold2 : ∀ (b0 b1 : Blk) (a : Nat), a < σ.next → (⟨(σ1.mem.set σ1.next b0).set σ1.next b1, σ1.next + 1⟩ : St).mem.get a = σ.mem.get a := fun b0 b1 a ha => by simp [show ¬ a = σ1.next by omega]; exact gold a ha
        have fin : sbCond s i → ∀ b0 b1 : Blk, ∃ mm, mm < s.length - i ∧ KrJ (u64 ep) (u64 last) lv sv nv s σ mm [(1, .ptr σ.next 0), (4, i64 k)] ⟨(σ1.mem.set σ1.next b0).set σ1.next b1, σ1.next + 1⟩ := fun hc b0 b1 =>
          ⟨s.length - k, by omega, k, rfl, by omega, by show σ.next + 1 ≤ σ1.next + 1; omega, gold2 b0 b1, by simp [z1]; exact m1, by rw [← hk]; exact sbOk_step hall hc, rfl⟩
        have stop2 : ∀ {P : Prop} (b0 b1 : Blk), (sbCond s i → P) → ¬ P → (∀ a, a < σ.next → ((σ1.mem.set σ1.next b0).set σ1.next b1).get a = σ.mem.get a) ∧ Q (.bool false) σ := fun b0 b1 hp hn => ⟨gold2 b0 b1, h false (no_of fun e => hn (hp (e.2.2.2 i hlt)))⟩
        have strE : ∀ a b : ByteArray, abinS .eql a b = some (.bool (decide (a = b))) := strEq
        by_cases e0 : x.name.size < 1
        · have e0' : (x.name.size : Int) < 1 := by omega
          simp [lk_cons, m1, ↓l2, hlt, ↓p1, ↓p2, storeL, hv1, strE, e0, e0']
          exact stop2 _ _ (fun e => (e x hx).1.1) (by omega)
        have e0' : ¬ (x.name.size : Int) < 1 := by omega
        by_cases e1 : 64 < x.name.size
        · have e1' : (64 : Int) < x.name.size := by omega
          simp [lk_cons, m1, ↓l2, hlt, ↓p1, ↓p2, storeL, hv1, strE, e0, e0', e1, e1']
          exact stop2 _ _ (fun e => (e x hx).1.2) (by omega)
        have e1' : ¬ (64 : Int) < x.name.size := by omega
        have hnm : 1 ≤ x.name.size ∧ x.name.size ≤ 64 := ⟨by omega, by omega⟩
        have gg : ∀ b0 b1 : Blk, σ.next ≤ (⟨(σ1.mem.set σ1.next b0).set σ1.next b1, σ1.next + 1⟩ : St).next := fun _ _ => by show σ.next ≤ σ1.next + 1; omega
        by_cases f1 : x.kind < 1
        · have f1' : (x.kind : Int) < 1 := by omega
          simp [lk_cons, m1, ↓l2, hlt, ↓p1, ↓p2, storeL, hv1, strE, e0, e0', e1, e1', f1, f1']
          exact stop2 _ _ (fun e => (e x hx).2.2.1.1) (by omega)
        have f1' : ¬ (x.kind : Int) < 1 := by omega
        by_cases f2 : 4 < x.kind
        · have f2' : (4 : Int) < x.kind := by omega
          simp [lk_cons, m1, ↓l2, hlt, ↓p1, ↓p2, storeL, hv1, strE, e0, e0', e1, e1', f1, f1', f2, f2']
          exact stop2 _ _ (fun e => (e x hx).2.2.1.2) (by omega)
        have f2' : ¬ (4 : Int) < x.kind := by omega
        simp [lk_cons, m1, ↓l2, hlt, ↓p1, ↓p2, storeL, hv1, strE, e0, e0', e1, e1', f1, f1', f2, f2']
        refine cright_g (c1.frame (gg _ _) (gold2 _ _)) hxf _ _ _ fun b hb => ?_
        cases b with
        | false =>
          simp [lk_cons]
          exact stop2 _ _ (fun e => hb.2 (e x hx).2.2.2) (by simp)
        | true =>
          have hcu := hb.1 rfl
          have mk : (∀ y, 0 < i → s[i - 1]? = some y → lessB y.name x.name = true) → sbCond s i := fun hc x' hx' => by
            rw [hx] at hx'; cases hx'
            exact ⟨hnm, hc, ⟨by omega, by omega⟩, hcu⟩
          by_cases hi0 : i = 0
          · have hi1 : ¬ 0 < i := by omega
            simp [lk_cons, hi1, w1]
            exact fin (mk fun y h0 => absurd h0 hi1) _ _
          · obtain ⟨j, hj⟩ : ∃ j, j + 1 = i := ⟨i - 1, by omega⟩
            obtain ⟨y, hy⟩ : ∃ y, s[j]? = some y := ⟨_, List.getElem?_eq_getElem (by omega)⟩
            have w2 : IntKind.i64.wrap ((i : Int) - 1) = (j : Int) := by rw [IntWalk.i64_in] <;> omega
            have hi1 : 0 < i := by omega
            have hji : i - 1 = j := by omega
            obtain ⟨q, q1, _, qf⟩ := hr.rs.at (show j < s.length by omega) (ρ := ⟨(σ1.mem.set σ1.next (.cells 5 [.str ⟨#[]⟩, .int .u8 0, .int .u64 0, .int .u64 0, .nilsl])).set σ1.next (.cells 5 [.str x.name, .int .u8 (x.kind : Int), u64 x.ml, u64 x.me, hv]), σ1.next + 1⟩) (gold2 _ _)
            obtain ⟨r, r1, _, r2⟩ := qf 0 1 (by decide)
            obtain ⟨hvy, _, _, cy, _, _⟩ := hr.rc.get hy
            have r2 := r2 _ (by decide) cy
            cases hle : lessB y.name x.name with
            | false =>
              have hle2 : (lessB x.name y.name || decide (x.name = y.name)) = true := by
                cases h3 : lessB x.name y.name with
                | true => rfl
                | false => simp [lessB_tri h3 hle]
              simp [lk_cons, hi1, m1, z1, w2, ↓q1, ↓r1, ↓r2, strLeq, hle2]
              exact stop2 _ _ (fun e => (e x hx).2.1 y hi1 (by rw [hji]; exact hy)) (by simp [hle])
            | true =>
              have hle2 : (lessB x.name y.name || decide (x.name = y.name)) = false := by
                rw [lessB_asymm hle, Bool.false_or, decide_eq_false_iff_not]
                intro e
                rw [e, lessB_irrefl] at hle; cases hle
              simp [lk_cons, hi1, m1, z1, w2, ↓q1, ↓r1, ↓r2, strLeq, hle2, w1]
              exact fin (mk fun z _ hz => (by rw [hji, hy] at hz; cases hz; exact hle)) _ _
      · have : i = s.length := by omega
        subst this
        simp [lk_cons, m1, ↓l2]
        exact ⟨fun a ha => gold a ha, h true ⟨fun _ => ⟨hld, hlastok, by omega, hall⟩, fun _ => rfl⟩⟩
end Go.Proofs.YticefdfhcahlfaaDoor.AM

/- A table written; Last; few. -/

namespace Go.Proofs.YticefdfhcahlfaaDoor.AM
set_option maxRecDepth 100000
set_option linter.unusedVariables false
set_option linter.unusedSimpArgs false

def W1J (w : Nat) (v1 : AVal) (ys : Tbl) (σ0 : St) (mm : Nat) (rg : Regs) (σ' : St) : Prop := ∃ (i : Nat) (v2 : AVal) (b2 : Option Nat), mm = ys.length - i ∧ i ≤ ys.length ∧ GS rwL σ' v2 (dn (ys.take i)) b2 ∧ (∀ x, b2 = some x → σ0.next ≤ x) ∧ Grow σ0 σ' ∧ rg = [(1, .ptr w 0), (4, v2), (10, v1), (11, i64 (ys.length : Nat)), (12, i64 i)]
end Go.Proofs.YticefdfhcahlfaaDoor.AM

/- Last; few; the acts. -/
namespace Go.Proofs.YticefdfhcahlfaaDoor.AM
open Go.RowKit
set_option maxRecDepth 100000
set_option linter.unusedVariables false
set_option linter.unusedSimpArgs false

end Go.Proofs.YticefdfhcahlfaaDoor.AM

/- dedup.Take, as a plain parse. -/
namespace Go.Proofs.YticefdfhcahlfaaDoor.AM
open Go.RowKit
set_option maxRecDepth 100000
set_option linter.unusedVariables false
set_option linter.unusedSimpArgs false

end Go.Proofs.YticefdfhcahlfaaDoor.AM

/- A table's bytes are read as the table. -/
namespace Go.Proofs.YticefdfhcahlfaaDoor.AM
open Go.RowKit
set_option maxRecDepth 100000
set_option linter.unusedVariables false
set_option linter.unusedSimpArgs false

end Go.Proofs.YticefdfhcahlfaaDoor.AM

/- A table written behind other bytes. -/
namespace Go.Proofs.YticefdfhcahlfaaDoor.AM
set_option maxRecDepth 100000
set_option linter.unusedVariables false
set_option linter.unusedSimpArgs false

def W3J (w : Nat) (v2 : AVal) (l : Tbl) (pre : List UInt8) (b0 : Option Nat) (σ0 : St) (mm : Nat) (rg : Regs) (σ' : St) : Prop := ∃ (i : Nat) (b : Option Nat), mm = l.length - i ∧ i ≤ l.length ∧ WB σ' w (pre ++ lnsB (l.take i)) b ∧ WStp w b0 b σ0 σ' ∧ rg = [(1, .ptr w 0), (29, v2), (30, i64 (l.length : Nat)), (31, i64 i)]
set_option maxHeartbeats 2000000 in
theorem wwrite_g {σ : St} {t mp w : Nat} {T : Tbl} (h : TRep σ t mp T) {l0 : List UInt8} {b0 : Option Nat} (hw : WB σ w l0 b0) (hl0 : l0.length ≤ 500000) (hl : T.length ≤ 200) (hok : ∀ x ∈ T, LnOk x) (Q : AVal → St → Prop)
    (hQ : ∀ ys σ' b', ys.Perm T → RisL ys → WB σ' w (l0 ++ encT ys) b' → WStp w b0 b' σ σ' → Q (.tup []) σ') : ACall Tryd.prog 62 [.ptr t 0, .ptr w 0] σ Q := by
  refine ACall.of_compF hmx (fun a w => Tryd.call62 a w) Tryd.func62 cf62 (n := 2) (by decide) rfl ?_
  simp [ac62, rs62, lk_cons]
  refine all_c h (by omega) _ fun v1 ys σ1 b1 p1 p2 p3 p4 p5 => ?_
  have hyl := p1.length_eq
  have hlen1 := p3.len
  have hyok : ∀ x ∈ ys, LnOk x := fun x hx => hok x (p1.subset hx)
  simp [lk_cons, ↓hlen1]
  refine wp_loop (W1J w v1 ys σ1) ys.length ?_ ?_
  · exact ⟨0, .nilsl, none, rfl, Nat.zero_le _, by simpa [dn] using GS.nil (R := rwL) σ1, by simp, Grow.refl _, by simp [lk_cons]⟩
  · rintro mm rg σ2 ⟨i, v2, b2, rfl, hi, g1, g2, g3, rfl⟩
    have gn := g3.1
    by_cases hc : i < ys.length
    · obtain ⟨x, hx⟩ : ∃ x, ys[i]? = some x := ⟨_, List.getElem?_eq_getElem hc⟩
      have w1 : IntKind.i64.wrap ((i : Int) + 1) = ((i + 1 : Nat) : Int) := by rw [IntWalk.i64_in] <;> omega
      have htk : ys.take (i + 1) = ys.take i ++ [x] := by rw [List.take_add_one, hx]; rfl
      have row : ((rws rwL ys).drop (i * 5)).take 5 = [.str x.1, u64 (x.2.1 : Int), u64 (x.2.2.1 : Int), u64 (x.2.2.2.1 : Int), u64 (x.2.2.2.2 : Int)] := rws_at rwL hx
      have k5 : i * 5 + 5 ≤ (rws rwL ys).length := by rw [rws_len]; omega
      obtain ⟨o, ho1, ho2, m1, i1⟩ := p3.idx hc
      have m2 := (g3.2 o ho2).trans m1
      have hdl := dn_len (ys.take i)
      rw [List.length_take] at hdl
      by_cases hd : x.2.2.1 = 0
      · have hd' : ¬ (0 : Int) < (x.2.2.1 : Int) := by omega
        have hd2 : ¬ 0 < x.2.2.1 := by omega
        simp [lk_cons, hc, ↓i1, m2, row, k5, storeL, hd, hd', hd2, w1]
        refine ⟨ys.length - (i + 1), by omega, i + 1, v2, b2, rfl, by omega, ?_, g2, ⟨by simp; omega, fun a ha => by simp [show ¬ a = σ2.next by omega]; exact g3.2 a ha⟩, rfl⟩
        rw [htk, dn_snoc, if_pos hd, List.append_nil]
        exact g1.keep (by simp) fun a ha _ => by simp [show ¬ a = σ2.next by omega]
      · have hd' : (0 : Int) < (x.2.2.1 : Int) := by omega
        have hd2 : 0 < x.2.2.1 := by omega
        have hs2 : GS rwL ⟨((σ2.mem.set σ2.next (.cells 5 [.str ⟨#[]⟩, .int .u64 0, .int .u64 0, .int .u64 0, .int .u64 0])).set σ2.next (.cells 5 [.str x.1, u64 (x.2.1 : Int), u64 (x.2.2.1 : Int), u64 (x.2.2.2.1 : Int), u64 (x.2.2.2.2 : Int)])).set (σ2.next + 1) (.cells 5 [.str x.1, u64 (x.2.1 : Int), u64 (x.2.2.1 : Int), u64 (x.2.2.2.1 : Int), u64 (x.2.2.2.2 : Int)]), σ2.next + 1 + 1⟩ v2 (dn (ys.take i)) b2 := g1.keep (by simp; omega) fun a ha _ => by simp [show ¬ a = σ2.next by omega, show ¬ a = σ2.next + 1 by omega]
        obtain ⟨σ', f1, f2, f3, f4⟩ := gs_app1 hs2 (nb := σ2.next + 1) (by_ := 48) (t := true) (x := x) (by decide) (by simp [rwL]) (fun e => by have := g1.lt e; omega) (by omega) (by omega)
        simp [lk_cons, hc, ↓i1, m2, row, k5, hd2, w1, fillL, repL, storeL, ↓f1]
        refine ⟨ys.length - (i + 1), by omega, i + 1, _, some (σ2.next + 1 + 1), rfl, by omega, ?_, fun y hy => ?_, ⟨by rw [f3]; simp; omega, fun a ha => ?_⟩, rfl⟩
        · rw [htk, dn_snoc, if_neg hd]; exact f2
        · cases hy; omega
        · rw [f4 a (by simp; omega) (fun e => by have := g2 a e; omega)]
          simp [show ¬ a = σ2.next by omega, show ¬ a = σ2.next + 1 by omega]
          exact g3.2 a ha
    · have : i = ys.length := by omega
      subst this
      rw [List.take_length] at g1
      have hdl := dn_len ys
      have hdok : ∀ x ∈ dn ys, LnOk x := fun x hx => hyok x (List.mem_filter.1 hx).1
      have hlen2 := g1.len
      have w1 : IntKind.u8.wrap ((dn ys).length : Int) = (dn ys).length := by rw [IntWalk.u8_in] <;> omega
      have hw2 : WB σ2 w l0 b0 := by
        obtain ⟨_, _, _, _, hwl⟩ := id hw
        exact hw.keep (by have := p5.1; omega) fun a ha _ => by rw [g3.2 a (by have := p5.1; omega), p5.2 a ha]
      have fin : ∀ σ' b', WB σ' w (l0 ++ encT ys) b' → WStp w b0 b' σ2 σ' → Q (.tup []) σ' := fun σ' b' q1 q2 => hQ ys σ' b' p1 p2 q1 ⟨by have := q2.next; have := p5.1; omega, fun x hx => by
        rcases q2.own x hx with e | e
        · exact .inl e
        · have := p5.1; exact .inr (by omega), fun a ha hne hb => by rw [q2.keep a (by have := p5.1; omega) hne hb, g3.2 a (by have := p5.1; omega), p5.2 a ha]⟩
      have henc : encT ys = beN 1 (dn ys).length ++ lnsB (dn ys) := rfl
      simp [lk_cons, ↓hlen2, w1]
      rw [henc] at fin
      have how2 : ∀ o, b2 = some o → b0 ≠ some o := fun o ho e => by
        have := hw.lt.1 o e
        have := g2 o ho; have := p5.1; omega
      have how : ∀ o, b2 = some o → o ≠ w := fun o ho => by
        obtain ⟨_, _, _, _, hwl⟩ := id hw
        have := g2 o ho; have := p5.1; omega
      revert g1 hdl hdok hlen2 fin
      clear henc w1
      generalize dn ys = l
      intro g1 hdl hdok hlen2 fin
      refine wu8_c hw2 (by omega) (by omega) _ fun σ3 b3 q1 q2 => ?_
      simp [lk_cons, ↓hlen2]
      refine wp_loop (W3J w v2 l (l0 ++ beN 1 l.length) b0 σ2) l.length ?_ ?_
      · exact ⟨0, b3, rfl, Nat.zero_le _, by simpa [lnsB] using q1, q2, by simp [lk_cons]⟩
      · rintro mm rg σ4 ⟨i, b4, rfl, hi, q4, s4, rfl⟩
        have gn4 := s4.next
        by_cases hc : i < l.length
        · obtain ⟨x, hx⟩ : ∃ x, l[i]? = some x := ⟨_, List.getElem?_eq_getElem hc⟩
          have w1 : IntKind.i64.wrap ((i : Int) + 1) = ((i + 1 : Nat) : Int) := by rw [IntWalk.i64_in] <;> omega
          have htk : l.take (i + 1) = l.take i ++ [x] := by rw [List.take_add_one, hx]; rfl
          have hxok := hdok x (List.mem_of_getElem? hx)
          obtain ⟨ok1, ok2, ok3, ok4, ok5⟩ := id hxok
          have row : ((rws rwL l).drop (i * 5)).take 5 = [.str x.1, u64 (x.2.1 : Int), u64 (x.2.2.1 : Int), u64 (x.2.2.2.1 : Int), u64 (x.2.2.2.2 : Int)] := rws_at rwL hx
          have k5 : i * 5 + 5 ≤ (rws rwL l).length := by rw [rws_len]; omega
          obtain ⟨o, ho1, ho2, m1, i1⟩ := g1.idx hc
          have m4 := (s4.keep o ho2 (how o ho1) (how2 o ho1)).trans m1
          have hbl : (l0 ++ beN 1 l.length ++ lnsB (l.take i)).length ≤ 1000000 := by
            have := lnsB_len (T := l.take i) fun y hy => hdok y (List.mem_of_mem_take hy)
            rw [List.length_append, List.length_append, beN_len]
            rw [List.length_take] at this
            omega
          obtain ⟨_, _, hg4, _, hwl⟩ := id q4
          simp [lk_cons, hc, ↓i1, m4, row, k5, storeL]
          have q5 : WB ⟨(σ4.mem.set σ4.next (.cells 5 [.str ⟨#[]⟩, .int .u64 0, .int .u64 0, .int .u64 0, .int .u64 0])).set σ4.next (.cells 5 [.str x.1, u64 (x.2.1 : Int), u64 (x.2.2.1 : Int), u64 (x.2.2.2.1 : Int), u64 (x.2.2.2.2 : Int)]), σ4.next + 1⟩ w (l0 ++ beN 1 l.length ++ lnsB (l.take i)) b4 := q4.keep (by simp) fun a ha _ => by simp [show ¬ a = σ4.next by omega]
          have hb4 : b4 ≠ some σ4.next := fun e => by have := hg4.lt e; omega
          have hwn : ¬ σ4.next = w := by omega
          have s5 : WStp w b4 b4 σ4 ⟨(σ4.mem.set σ4.next (.cells 5 [.str ⟨#[]⟩, .int .u64 0, .int .u64 0, .int .u64 0, .int .u64 0])).set σ4.next (.cells 5 [.str x.1, u64 (x.2.1 : Int), u64 (x.2.2.1 : Int), u64 (x.2.2.2.1 : Int), u64 (x.2.2.2.2 : Int)]), σ4.next + 1⟩ := ⟨by simp, fun _ h => .inl h, fun a ha _ _ => by simp [show ¬ a = σ4.next by omega]⟩
          refine wtext_c q5 (by omega) (by omega) _ fun σ6 b6 q6 s6 => ?_
          have m6 : σ6.mem.get σ4.next = some (.cells 5 [.str x.1, u64 (x.2.1 : Int), u64 (x.2.2.1 : Int), u64 (x.2.2.2.1 : Int), u64 (x.2.2.2.2 : Int)]) := by rw [s6.keep _ (by simp) hwn hb4]; simp
          have n6 : b6 ≠ some σ4.next := fun e => by
            rcases s6.own _ e with e | e
            · exact hb4 e
            · simp at e; omega
          have gn6 := s6.next
          simp at gn6
          simp [lk_cons, m6]
          refine wu64_c q6 (n := x.2.2.1) (by simp [beN_len] at hbl ⊢; omega) _ fun σ7 b7 q7 s7 => ?_
          have m7 := (s7.keep σ4.next (by omega) hwn n6).trans m6
          have n7 : b7 ≠ some σ4.next := fun e => by
            rcases s7.own _ e with e | e
            · exact n6 e
            · omega
          have gn7 := s7.next
          simp [lk_cons, m7]
          refine wu64_c q7 (n := x.2.2.2.1) (by simp [beN_len] at hbl ⊢; omega) _ fun σ8 b8 q8 s8 => ?_
          have m8 := (s8.keep σ4.next (by omega) hwn n7).trans m7
          have gn8 := s8.next
          simp [lk_cons, m8]
          refine wu64_c q8 (n := x.2.2.2.2) (by simp [beN_len] at hbl ⊢; omega) _ fun σ9 b9 q9 s9 => ?_
          simp [lk_cons, w1]
          refine ⟨l.length - (i + 1), by omega, i + 1, b9, rfl, by omega, ?_, s4.trans (s5.trans (s6.trans (s7.trans (s8.trans s9)))), rfl⟩
          rw [htk, lnsB_snoc]
          simpa [lnB, List.append_assoc] using q9
        · have : i = l.length := by omega
          subst this
          rw [List.take_length] at q4
          simp [lk_cons]
          exact fin σ4 b4 (by rw [← List.append_assoc]; exact q4) s4
end Go.Proofs.YticefdfhcahlfaaDoor.AM

/- The document's All, SameLines, has. -/

namespace Go.Proofs.YticefdfhcahlfaaDoor.AM
set_option maxRecDepth 100000
set_option linter.unusedVariables false
set_option linter.unusedSimpArgs false

end Go.Proofs.YticefdfhcahlfaaDoor.AM

/- The document's Bytes. -/

namespace Go.Proofs.YticefdfhcahlfaaDoor.AM
set_option maxRecDepth 100000
set_option linter.unusedVariables false
set_option linter.unusedSimpArgs false

end Go.Proofs.YticefdfhcahlfaaDoor.AM

/- The document's All and Bytes, of lines that are read. -/
namespace Go.Proofs.YticefdfhcahlfaaDoor.AM
set_option maxRecDepth 100000
set_option linter.unusedVariables false
set_option linter.unusedSimpArgs false

set_option maxHeartbeats 1000000 in
theorem rall_g {σ : St} {m : Nat} {v : AVal} {T : Tbl} (hh : σ.mem.get m = some (.cells 1 [v])) (hlt : m < σ.next) (hg : Rd 5 σ v T.length (rws rwL T)) (hl : T.length ≤ 100000) (Q : AVal → St → Prop)
    (hQ : ∀ v ys σ' b', ys.Perm T → RisL ys → GS rwL σ' v ys b' → (∀ x, b' = some x → σ.next ≤ x) → Grow σ σ' → Q v σ') : ACall Tryd.prog 96 [.ptr m 0] σ Q := by
  refine ACall.of_compF hmx (fun a w => Tryd.call96 a w) Tryd.func96 cf96 (n := 1) (by decide) rfl ?_
  have hlen := hg.len
  simp [ac96, rs96, lk_cons]
  refine wp_loop (AlJ m T σ) T.length ?_ ?_
  · exact ⟨0, .nilsl, [], none, rfl, Nat.zero_le _, by simp, fun i j x y _ h => by simp at h, GS.nil _, by simp, Grow.refl _, rfl⟩
  · rintro mm rg σ1 ⟨i, v1, ys, b1, rfl, hi, hp, hr, g1, g2, g3, rfl⟩
    have m1 := (g3.2 m hlt).trans hh
    by_cases hc : i < T.length
    · obtain ⟨x, hx⟩ : ∃ x, T[i]? = some x := ⟨_, List.getElem?_eq_getElem hc⟩
      have w1 : IntKind.i64.wrap ((i : Int) + 1) = ((i + 1 : Nat) : Int) := by rw [IntWalk.i64_in] <;> omega
      have hyl := hp.length_eq
      rw [List.length_take, Nat.min_eq_left hi] at hyl
      have hlen1 := g1.len
      obtain ⟨P, hidx, hrow, pf⟩ := hg.at hc (ρ := σ1) g3.2
      obtain ⟨P0, hf0, _, hl0⟩ := pf 0 1 (by decide)
      have gn := g3.1
      have hl0 := hl0 _ (by decide) (rwL_row hx).1
      have row : ((rws rwL T).drop (i * 5)).take 5 = [.str x.1, u64 (x.2.1 : Int), u64 (x.2.2.1 : Int), u64 (x.2.2.2.1 : Int), u64 (x.2.2.2.2 : Int)] := rws_at rwL hx
      rw [row] at hrow
      simp [lk_cons, m1, ↓hlen, hc]
      refine wp_loop (InJ m i x v1 ys σ1) ys.length ?_ ?_
      · exact ⟨0, rfl, Nat.zero_le _, fun j p hj => by omega, rfl, by simp [lk_cons]⟩
      · rintro mm rg σ2 ⟨k, rfl, hk, hle, rfl, rfl⟩
        have wk : IntKind.i64.wrap ((k : Int) + 1) = ((k + 1 : Nat) : Int) := by rw [IntWalk.i64_in] <;> omega
        obtain ⟨e1a, e1b⟩ := gs_parts g1 (by decide) hk
        have g12 : GS rwL ⟨σ2.mem.set σ2.next (.cells 5 (rwL.a x)), σ2.next + 1⟩ v1 ys b1 := g1.keep (by simp) fun a ha _ => by simp [show ¬ a = σ2.next by omega]
        obtain ⟨e2a, e2b⟩ := gs_parts g12 (by decide) hk
        obtain ⟨u1, S3, u2, S4, y, f1, f2, f3, f4, f5, f5b, f6, f7⟩ := gs_ins g12 (by decide) hk (nx := σ2.next) (by_ := 48) (x := x) (by simp) (by simp) (fun e => by have := g1.lt e; omega) (by omega) (by omega)
        have g13 : GS rwL S3 v1 ys b1 := g12.keep f5b fun a ha _ => f6 a ha
        obtain ⟨e3a, _⟩ := gs_parts g13 (by decide) hk
        simp only [rwL] at f1 e2b
        have fin : (∀ p, ys[k]? = some p → lessB p.1 x.1 = false) → AlJ m T σ (T.length - (i + 1)) [(0, .ptr m 0), (3, u2), (4, .int .i64 ((i : Int) + 1))] S4 := fun hn =>
          ⟨i + 1, u2, _, some y, rfl, by omega, perm_ins (k := k) hp hx, hr.ins hk hle hn, f3, fun z hz => by cases hz; simp at f4; omega, ⟨by simp at f5; omega, fun a ha => by
            rw [f7 a (by simp; omega)]; simp [show ¬ a = σ2.next by omega]; exact g3.2 a ha⟩, by simp⟩
        by_cases hck : k < ys.length
        · obtain ⟨p, hpk⟩ : ∃ p, ys[k]? = some p := ⟨_, List.getElem?_eq_getElem hck⟩
          have hck' : (k : Int) < (ys.length : Int) := by omega
          obtain ⟨o1, hbo1, h31, h41, hidx1⟩ := g1.idx hck
          obtain ⟨p0, _⟩ := rwL_row hpk
          cases hls : lessB p.1 x.1 with
          | true =>
            simp [lk_cons, ↓hlen1, ↓hidx1, hck, hck', h41, p0, m1, ↓hidx, ↓hf0, ↓hl0, strLss, hls, wk]
            refine ⟨ys.length - (k + 1), by omega, k + 1, rfl, by omega, fun j q hj hq => ?_, rfl, rfl⟩
            rcases Nat.lt_or_ge j k with hl' | hl'
            · exact hle j q hl' hq
            · have : j = k := by omega
              subst this
              rw [hpk] at hq; cases hq; exact hls
          | false =>
            have fin' := fin fun q hq => by rw [hpk] at hq; cases hq; exact hls
            simp [lk_cons, ↓hlen1, ↓hidx1, hck, hck', h41, p0, m1, ↓hidx, ↓hf0, ↓hl0, strLss, hls, wk, optM, ↓e1a, ↓hrow, fillL, repL, storeL, ↓e2b, ↓f1, ↓e3a, ↓f2, w1]
            exact ⟨_, by omega, fin'⟩
        · have hkl : k = ys.length := by omega
          have fin' := fin fun q hq => by rw [hkl] at hq; simp at hq
          simp [lk_cons, ↓hlen1, hck, m1, ↓hidx, optM, ↓e1a, ↓hrow, fillL, repL, storeL, ↓e2b, ↓f1, ↓e3a, ↓f2, w1]
          exact ⟨_, by omega, fin'⟩
    · have : i = T.length := by omega
      subst this
      rw [List.take_length] at hp
      simp [lk_cons, m1, ↓hlen]
      exact hQ v1 ys σ1 b1 hp hr g1 g2 g3
def B2K (v2 : AVal) (l : Tbl) (pre : List UInt8) (b0 : Option Nat) (σ0 : St) (mm : Nat) (rg : Regs) (σ' : St) : Prop := ∃ (i : Nat) (v : AVal) (b : Option Nat), mm = l.length - i ∧ i ≤ l.length ∧ GS rwB σ' v (pre ++ lnsB (l.take i)) b ∧ BStp b0 b σ0 σ' ∧ rg = [(1, v), (5, v2), (8, i64 i)]
set_option maxHeartbeats 2000000 in
theorem rbytes_g {σ : St} {m : Nat} {v v0 : AVal} {l0 : List UInt8} {b0 : Option Nat} {T : Tbl} (h0 : GS rwB σ v0 l0 b0) (hl0 : l0.length ≤ 500000) (hh : σ.mem.get m = some (.cells 1 [v])) (hlt : m < σ.next) (hg : Rd 5 σ v T.length (rws rwL T)) (hl : T.length ≤ 200) (hok : ∀ x ∈ T, LnOk x) (Q : AVal → St → Prop)
    (hQ : ∀ v ys σ' b', ys.Perm T → RisL ys → GS rwB σ' v (l0 ++ encT ys) b' → BStp b0 b' σ σ' → Q v σ') : ACall Tryd.prog 74 [.ptr m 0, v0] σ Q := by
  refine ACall.of_compF hmx (fun a w => Tryd.call74 a w) Tryd.func74 cf74 (n := 2) (by decide) rfl ?_
  simp [ac74, rs74, lk_cons]
  refine rall_g hh hlt hg (by omega) _ fun v1 ys σ1 b1 p1 p2 p3 p4 p5 => ?_
  have hyl := p1.length_eq
  have hlen1 := p3.len
  have hyok : ∀ x ∈ ys, LnOk x := fun x hx => hok x (p1.subset hx)
  simp [lk_cons]
  refine wp_loop (B1J v0 v1 ys σ1) ys.length ?_ ?_
  · exact ⟨0, .nilsl, none, rfl, Nat.zero_le _, by simpa [dn] using GS.nil (R := rwL) σ1, by simp, Grow.refl _, by simp [lk_cons]⟩
  · rintro mm rg σ2 ⟨i, v2, b2, rfl, hi, g1, g2, g3, rfl⟩
    have gn := g3.1
    by_cases hc : i < ys.length
    · obtain ⟨x, hx⟩ : ∃ x, ys[i]? = some x := ⟨_, List.getElem?_eq_getElem hc⟩
      have w1 : IntKind.i64.wrap ((i : Int) + 1) = ((i + 1 : Nat) : Int) := by rw [IntWalk.i64_in] <;> omega
      have htk : ys.take (i + 1) = ys.take i ++ [x] := by rw [List.take_add_one, hx]; rfl
      have row : ((rws rwL ys).drop (i * 5)).take 5 = [.str x.1, u64 (x.2.1 : Int), u64 (x.2.2.1 : Int), u64 (x.2.2.2.1 : Int), u64 (x.2.2.2.2 : Int)] := rws_at rwL hx
      have k5 : i * 5 + 5 ≤ (rws rwL ys).length := by rw [rws_len]; omega
      obtain ⟨r0, r1, r2, _⟩ := rwL_row hx
      obtain ⟨o, ho1, ho2, m1, i1⟩ := p3.idx hc
      have m2 := (g3.2 o ho2).trans m1
      have hdl := dn_len (ys.take i)
      rw [List.length_take] at hdl
      by_cases hd : x.2.2.1 = 0
      · have hd' : ¬ (0 : Int) < (x.2.2.1 : Int) := by omega
        have hd2 : ¬ 0 < x.2.2.1 := by omega
        simp [lk_cons, ↓hlen1, hc, ↓i1, m2, r2, hd, hd', hd2, w1]
        refine ⟨ys.length - (i + 1), by omega, i + 1, v2, b2, rfl, by omega, ?_, g2, g3, rfl⟩
        rw [htk, dn_snoc, if_pos hd, List.append_nil]; exact g1
      · have hd' : (0 : Int) < (x.2.2.1 : Int) := by omega
        have hd2 : 0 < x.2.2.1 := by omega
        have hs2 : GS rwL ⟨σ2.mem.set σ2.next (.cells 5 [.str x.1, u64 (x.2.1 : Int), u64 (x.2.2.1 : Int), u64 (x.2.2.2.1 : Int), u64 (x.2.2.2.2 : Int)]), σ2.next + 1⟩ v2 (dn (ys.take i)) b2 := g1.keep (by simp) fun a ha _ => by simp [show ¬ a = σ2.next by omega]
        obtain ⟨σ', f1, f2, f3, f4⟩ := gs_app1 hs2 (nb := σ2.next) (by_ := 48) (t := true) (x := x) (by decide) (by simp [rwL]) (fun e => by have := g1.lt e; omega) (by omega) (by omega)
        simp [lk_cons, ↓hlen1, hc, ↓i1, m2, r2, row, k5, hd2, w1, fillL, repL, storeL, ↓f1]
        refine ⟨ys.length - (i + 1), by omega, i + 1, _, some (σ2.next + 1), rfl, by omega, ?_, fun y hy => ?_, ⟨by rw [f3]; simp; omega, fun a ha => ?_⟩, rfl⟩
        · rw [htk, dn_snoc, if_neg hd]; exact f2
        · cases hy; omega
        · rw [f4 a (by simp; omega) (fun e => by have := g2 a e; omega)]
          simp [show ¬ a = σ2.next by omega]
          exact g3.2 a ha
    · have : i = ys.length := by omega
      subst this
      rw [List.take_length] at g1
      have hdl := dn_len ys
      have hdok : ∀ x ∈ dn ys, LnOk x := fun x hx => hyok x (List.mem_filter.1 hx).1
      have hlen2 := g1.len
      have w1 : IntKind.u64.wrap ((dn ys).length : Int) = (dn ys).length := by rw [IntWalk.u64_in] <;> omega
      simp [lk_cons, ↓hlen1, ↓hlen2, w1]
      have henc : encT ys = beN 1 (dn ys).length ++ lnsB (dn ys) := rfl
      have G02 : Grow σ σ2 := p5.trans g3
      have how2 : ∀ o, b2 = some o → b0 ≠ some o := fun o ho e => by
        have := h0.lt e
        have := g2 o ho; have := p5.1; omega
      have fin : ∀ v σ' b', GS rwB σ' v (l0 ++ encT ys) b' → BStp b0 b' σ2 σ' → Q v σ' := fun v σ' b' q1 q2 => hQ v ys σ' b' p1 p2 q1 ⟨Nat.le_trans G02.1 q2.next, fun x hx => (q2.own x hx).imp id fun h => Nat.le_trans G02.1 h, fun a ha hb => (q2.keep a (Nat.lt_of_lt_of_le ha G02.1) hb).trans (G02.2 a ha)⟩
      rw [henc] at fin
      revert g1 hdl hdok hlen2 fin
      clear henc w1
      generalize dn ys = l
      intro g1 hdl hdok hlen2 fin
      refine rput_c (h0.grow G02) (n := l.length) (size := 1) (by decide) (by omega) (by omega) _ fun v3 σ3 b3 q1 q2 => ?_
      simp [lk_cons]
      refine wp_loop (B2K v2 l (l0 ++ beN 1 l.length) b0 σ2) l.length ?_ ?_
      · exact ⟨0, v3, b3, rfl, Nat.zero_le _, by simpa [lnsB] using q1, q2, by simp [lk_cons]⟩
      · rintro mm rg σ4 ⟨i, v4, b4, rfl, hi, q4, s4, rfl⟩
        have gn4 := s4.next
        by_cases hc : i < l.length
        · obtain ⟨x, hx⟩ : ∃ x, l[i]? = some x := ⟨_, List.getElem?_eq_getElem hc⟩
          have w1 : IntKind.i64.wrap ((i : Int) + 1) = ((i + 1 : Nat) : Int) := by rw [IntWalk.i64_in] <;> omega
          have htk : l.take (i + 1) = l.take i ++ [x] := by rw [List.take_add_one, hx]; rfl
          have hxok := hdok x (List.mem_of_getElem? hx)
          obtain ⟨ok1, ok2, ok3, ok4, ok5⟩ := id hxok
          obtain ⟨r0, r1, r2, r3, r4⟩ := rwL_row hx
          obtain ⟨o, ho1, ho2, m1, i1⟩ := g1.idx hc
          have hne := how2 o ho1
          have m4 := (s4.keep o ho2 hne).trans m1
          have hsz : x.1.size ≤ 140737488355328 := by omega
          have hbl : (l0 ++ beN 1 l.length ++ lnsB (l.take i)).length ≤ 1000000 := by
            have := lnsB_len (T := l.take i) fun y hy => hdok y (List.mem_of_mem_take hy)
            rw [List.length_append, List.length_append, beN_len]
            rw [List.length_take] at this
            omega
          have ol : o < σ4.next := by omega
          simp [lk_cons, ↓hlen2, hc, ↓i1, m4, r0, hsz]
          have q5 : GS rwB ⟨σ4.mem.set σ4.next (.cells 1 (x.1.data.toList.map fun b => .int .u8 (b.toNat : Int))), σ4.next + 1⟩ v4 (l0 ++ beN 1 l.length ++ lnsB (l.take i)) b4 := q4.keep (by simp) fun a ha _ => by simp [show ¬ a = σ4.next by omega]
          have u5 : GS rwB ⟨σ4.mem.set σ4.next (.cells 1 (x.1.data.toList.map fun b => .int .u8 (b.toNat : Int))), σ4.next + 1⟩ (.sl σ4.next 0 x.1.size x.1.size false) x.1.data.toList (some σ4.next) := .inr ⟨σ4.next, false, rfl, by simp, by simp, by simp [rwsB, bytesV]⟩
          have hlb : x.1.data.toList.length = x.1.size := by simp
          have S5 : BStp b0 b4 σ2 ⟨σ4.mem.set σ4.next (.cells 1 (x.1.data.toList.map fun b => .int .u8 (b.toNat : Int))), σ4.next + 1⟩ := ⟨by simp; omega, s4.own, fun a ha hb => by simp [show ¬ a = σ4.next by omega]; exact s4.keep a ha hb⟩
          refine rputb_c q5 u5 (fun z hz hb4 => by cases hz; have := q4.lt hb4; omega) (by omega) (by omega) _ fun v6 σ6 b6 q6 s6 => ?_
          have S6 := S5.trans s6
          have m6 := (S6.keep o ho2 hne).trans m1
          have gn6 := S6.next
          rw [hlb] at q6
          simp [lk_cons, ↓i1, m6, r2, r3, r4]
          refine rput_c q6 (n := x.2.2.1) (size := 8) (by decide) (by simp [beN_len] at hbl ⊢; omega) (by omega) _ fun v7 σ7 b7 q7 s7 => ?_
          have S7 := S6.trans s7
          have m7 := (S7.keep o ho2 hne).trans m1
          have gn7 := S7.next
          simp [lk_cons, m7, r3, r4]
          refine rput_c q7 (n := x.2.2.2.1) (size := 8) (by decide) (by simp [beN_len] at hbl ⊢; omega) (by omega) _ fun v8 σ8 b8 q8 s8 => ?_
          have S8 := S7.trans s8
          have m8 := (S8.keep o ho2 hne).trans m1
          have gn8 := S8.next
          simp [lk_cons, m8, r3, r4]
          refine rput_c q8 (n := x.2.2.2.2) (size := 8) (by decide) (by simp [beN_len] at hbl ⊢; omega) (by omega) _ fun v9 σ9 b9 q9 s9 => ?_
          have S9 := S8.trans s9
          simp [lk_cons, w1]
          refine ⟨l.length - (i + 1), by omega, i + 1, v9, b9, rfl, by omega, ?_, S9, rfl⟩
          rw [htk, lnsB_snoc]
          simpa [lnB, List.append_assoc] using q9
        · have : i = l.length := by omega
          subst this
          rw [List.take_length] at q4
          simp [lk_cons, ↓hlen2]
          exact fin v4 σ4 b4 (by rw [← List.append_assoc]; exact q4) s4
end Go.Proofs.YticefdfhcahlfaaDoor.AM

/- Lines as a table. -/
namespace Go.Proofs.YticefdfhcahlfaaDoor.AM
set_option maxRecDepth 100000
set_option linter.unusedVariables false
set_option linter.unusedSimpArgs false

def lnCond (T : Tbl) (i : Nat) : Prop := ∀ x, T[i]? = some x → (1 ≤ x.1.size ∧ x.1.size ≤ 64) ∧ x.2.1 = x.2.2.1 ∧ x.2.2.1 ≠ 0 ∧ (∀ y, 0 < i → T[i - 1]? = some y → lessB y.1 x.1 = true) ∧ i < 16
def lnOkT (T : Tbl) : Prop := ∀ i, i < T.length → lnCond T i
theorem lnOk_step {T : Tbl} {i : Nat} (hh : ∀ j, j < i → lnCond T j) (hi : lnCond T i) : ∀ j, j < i + 1 → lnCond T j := fun j hj => by
  by_cases e : j = i
  · rw [e]; exact hi
  · exact hh j (by omega)
theorem ln_less {T : Tbl} {n : Nat} (hh : ∀ j, j < n → lnCond T j) : ∀ (k j : Nat) (x y : ByteArray × Ln), j < k → k < n → T[j]? = some x → T[k]? = some y → lessB x.1 y.1 = true := by
  intro k
  induction k with
  | zero => intro j x y h; omega
  | succ k ih =>
    intro j x y hj hk hx hy
    have hkl := (List.getElem?_eq_some_iff.1 hy).1
    obtain ⟨z, hz⟩ : ∃ z, T[k]? = some z := ⟨_, List.getElem?_eq_getElem (by omega)⟩
    have h1 := (hh (k + 1) hk y hy).2.2.2.1 z (by omega) (by simpa using hz)
    by_cases e : j = k
    · subst e; rw [hx] at hz; cases hz; exact h1
    · exact lessB_trans (ih j x z (by omega) (by omega) hx hz) h1
theorem lk_take {T : Tbl} {i : Nat} {x : ByteArray × Ln} (hh : ∀ j, j < i → lnCond T j) (hx : T[i]? = some x) (hc : ∀ y, 0 < i → T[i - 1]? = some y → lessB y.1 x.1 = true) : lkB (T.take i) x.1 = none := by
  rw [lkB_none]
  intro hm
  obtain ⟨p, hp, he⟩ := List.mem_map.1 hm
  obtain ⟨j, hj⟩ := List.getElem?_of_mem hp
  rw [List.getElem?_take] at hj
  split at hj
  · rename_i hji
    have hless : lessB p.1 x.1 = true := by
      have hil := (List.getElem?_eq_some_iff.1 hx).1
      obtain ⟨z, hz⟩ : ∃ z, T[i - 1]? = some z := ⟨_, List.getElem?_eq_getElem (by omega)⟩
      have h1 := hc z (by omega) hz
      by_cases e : j = i - 1
      · rw [← e, hj] at hz; cases hz; exact h1
      · exact lessB_trans (ln_less hh (i - 1) j p z (by omega) (by omega) hj hz) h1
    rw [he, lessB_irrefl] at hless
    cases hless
  · cases hj
theorem setB_last {n : ByteArray} {y z : Ln} : ∀ {T : Tbl}, lkB T n = none → setB (T ++ [(n, y)]) n z = T ++ [(n, z)]
  | [], _ => by simp [setB]
  | p :: T, h => by
    by_cases e : n = p.1
    · have : n ∈ (p :: T).map (·.1) := by rw [e]; simp
      exact absurd this (lkB_none.1 h)
    · have h2 : lkB T n = none := by
        rw [lkB_none] at h ⊢
        exact fun hm => h (by simp; right; simpa using hm)
      have ih := setB_last (y := y) (z := z) h2
      cases p with
      | mk a b =>
        simp only [List.cons_append, setB]
        have e' : ¬ n = a := e
        have e2 : ¬ a = n := fun h => e' h.symm
        simp [e', e2, ih]
theorem lkB_last {n : ByteArray} {y : Ln} : ∀ {T : Tbl}, lkB T n = none → lkB (T ++ [(n, y)]) n = some y := fun {T} h => by
  rw [← setB_new h, setB_get]; simp
def TbJ (nv : AVal) (T : Tbl) (t mp : Nat) (σ0 : St) (mm : Nat) (rg : Regs) (σ' : St) : Prop := ∃ i : Nat, mm = T.length - i ∧ i ≤ T.length ∧ TRep σ' t mp (T.take i) ∧ Grow σ0 σ' ∧ (∀ j, j < i → lnCond T j) ∧ rg = [(0, nv), (4, .ptr t 0), (8, nv), (9, i64 (T.length : Nat)), (10, i64 i)]
set_option maxHeartbeats 4000000 in
theorem table_c {σ : St} {nv : AVal} {T : Tbl} (hg : Rd 5 σ nv T.length (rws rwL T)) (hl : T.length ≤ 100000) (hn : ∀ x ∈ T, x.1.size ≤ 1000) (Q : AVal → St → Prop)
    (hB : ∀ σ', ¬ lnOkT T → Grow σ σ' → Q (.tup [.nilp, .bool false]) σ') (hQ : ∀ t mp σ', lnOkT T → TRep σ' t mp T → σ.next ≤ t ∧ σ.next ≤ mp → Grow σ σ' → Q (.tup [.ptr t 0, .bool true]) σ') : ACall Tryd.prog 59 [nv] σ Q := by
  refine ACall.of_compF hmx (fun a w => Tryd.call59 a w) Tryd.func59 cf59 (n := 1) (by decide) rfl ?_
  have hlen := hg.len
  simp [ac59, rs59, lk_cons]
  refine tnew_c _ _ fun t mp σ1 t1 n1 k1 hlo => ?_
  simp [lk_cons, ↓hlen]
  refine wp_loop (TbJ nv T t mp σ) T.length ?_ ?_
  · exact ⟨0, rfl, Nat.zero_le _, by simpa using t1, ⟨n1, k1⟩, by omega, by simp [lk_cons]⟩
  rintro mm rg σ2 ⟨i, rfl, hi, t2, g2, hall, rfl⟩
  have n2 := g2.1
  by_cases hlt : i < T.length
  · obtain ⟨⟨xn, x1, x2, xa, xb⟩, hx⟩ : ∃ x, T[i]? = some x := ⟨_, List.getElem?_eq_getElem hlt⟩
    have w1 : IntKind.i64.wrap ((i : Int) + 1) = ((i + 1 : Nat) : Int) := by rw [IntWalk.i64_in] <;> omega
    have htk : T.take (i + 1) = T.take i ++ [(xn, x1, x2, xa, xb)] := by rw [List.take_add_one, hx]; rfl
    have htl : (T.take i).length = i := by rw [List.length_take]; omega
    obtain ⟨p, p1, p2, _⟩ := hg.at hlt (ρ := σ2) g2.2
    have row : ((rws rwL T).drop (i * 5)).take 5 = [.str xn, u64 (x1 : Int), u64 (x2 : Int), u64 (xa : Int), u64 (xb : Int)] := rws_at rwL hx
    rw [row] at p2
    have hxn := hn _ (List.mem_of_getElem? hx)
    obtain ⟨S, hS⟩ : ∃ S : St, S = ⟨(σ2.mem.set σ2.next (.cells 5 [.str ⟨#[]⟩, .int .u64 0, .int .u64 0, .int .u64 0, .int .u64 0])).set σ2.next (.cells 5 [.str xn, u64 (x1 : Int), u64 (x2 : Int), u64 (xa : Int), u64 (xb : Int)]), σ2.next + 1⟩ := ⟨_, rfl⟩
    have nS : S.next = σ2.next + 1 := by rw [hS]
    have kS : ∀ a, a < σ2.next → S.mem.get a = σ2.mem.get a := fun a ha => by rw [hS]; simp [show ¬ a = σ2.next by omega]
    have gS : Grow σ S := g2.trans ⟨by omega, kS⟩
    have mS : S.mem.get σ2.next = some (.cells 5 [.str xn, u64 (x1 : Int), u64 (x2 : Int), u64 (xa : Int), u64 (xb : Int)]) := by rw [hS]; simp
    have tl := t2.lt
    have tS : TRep S t mp (T.take i) := t2.frame (fun a ha => kS a (by rcases ha with rfl | rfl <;> omega)) (by omega)
    have bad : ¬ lnCond T i → Q (.tup [.nilp, .bool false]) S := fun hc => hB S (fun e => hc (e i hlt)) gS
    have hprev : i = 0 ∨ 0 < i ∧ ∃ y P P0, T[i - 1]? = some y ∧ evalV S (.idxAddr 5 nv (.int .i64 ((i : Int) - 1))) = some (P, S) ∧ evalV S (.fieldAddr 0 P) = some (P0, S) ∧ evalV S (.ld1 P0) = some (.str y.1, S) := by
      by_cases h0 : i = 0
      · exact .inl h0
      · obtain ⟨y, hy⟩ : ∃ y, T[i - 1]? = some y := ⟨_, List.getElem?_eq_getElem (by omega)⟩
        obtain ⟨P, q1, _, qf⟩ := hg.at (show i - 1 < T.length by omega) (ρ := S) gS.2
        obtain ⟨P0, r1, _, r2⟩ := qf 0 1 (by decide)
        refine .inr ⟨by omega, y, P, P0, hy, ?_, r1, r2 _ (by decide) (rwL_row hy).1⟩
        rw [← q1]; congr 2; simp only [i64]; congr 1; omega
    have ws : 0 < i → IntKind.i64.wrap ((i : Int) - 1) = (i : Int) - 1 := fun h => by rw [IntWalk.i64_in] <;> omega
    rw [hS] at hprev
    have good : (∀ y, 0 < i → T[i - 1]? = some y → lessB y.1 xn = true) → x1 = x2 → ¬ begC (T.take i) xn x2 = 0 → ¬ lnCond T i := fun hc e1 hb hlc => by
      obtain ⟨h1, h2, h3, h4, h5⟩ := hlc _ hx
      simp only at h1 h2 h3
      apply hb
      have hk := lk_take hall hx hc
      rw [begC, if_neg (by omega), if_neg h3, hk]
      simp only [htl]
      rw [if_neg (by omega)]
    have good2 : (∀ y, 0 < i → T[i - 1]? = some y → lessB y.1 xn = true) → x1 = x2 → begC (T.take i) xn x2 = 0 → doneC (begT (T.take i) xn x2) xn x2 = 0 ∧ doneT (begT (T.take i) xn x2) xn x2 (xa, xb) = T.take (i + 1) ∧ lnCond T i := fun hc e1 hb => by
      have hk := lk_take hall hx hc
      have hb0 := hb
      rw [begC] at hb
      split at hb
      · cases hb
      rename_i c1
      split at hb
      · cases hb
      rename_i c2
      rw [hk] at hb
      simp only [htl] at hb
      split at hb
      · cases hb
      rename_i c3
      have hbt : begT (T.take i) xn x2 = T.take i ++ [(xn, (x2, (0, 0, 0)))] := by
        rw [begT, if_pos hb0, setB_new hk, hk]; rfl
      have hlk := lkB_last (y := (x2, (0, 0, 0))) hk
      have hd : doneC (begT (T.take i) xn x2) xn x2 = 0 := by
        rw [hbt, doneC, hlk]
        show (if x2 < x2 then (11 : Int) else if x2 ≤ 0 then 40 else 0) = 0
        rw [if_neg (by omega), if_neg (by omega)]
      refine ⟨hd, ?_, fun z hz => ?_⟩
      · rw [doneT, if_pos hd, hbt, hlk, setB_last hk, htk]
        subst e1
        rfl
      · rw [hx] at hz; cases hz
        exact ⟨⟨by show 1 ≤ xn.size; omega, by show xn.size ≤ 64; omega⟩, e1, c2, hc, by omega⟩
    rcases hprev with hi0 | ⟨hi1, y, P, P0, hy, q1, q2, q3⟩
    case' inl =>
      have hi1 : ¬ 0 < i := by omega
      have hc : ∀ y, 0 < i → T[i - 1]? = some y → lessB y.1 xn = true := fun y h0 => absurd h0 hi1
      by_cases e1 : x1 = x2
      case' neg =>
        have e1' : ¬ (x1 : Int) = (x2 : Int) := by omega
        simp [lk_cons, hlt, ↓p1, ↓p2, storeL, hi1, e1, e1']
        rw [← hS]
        exact bad fun e => e1 (e _ hx).2.1
      case' pos =>
        subst e1
        simp [lk_cons, hlt, ↓p1, ↓p2, storeL, hi1]
    case' inr =>
      have ws := ws hi1
      have hi1' : (0 : Int) < i := by omega
      cases hle : lessB y.1 xn
      case' false =>
        simp [lk_cons, hlt, ↓p1, ↓p2, storeL, hi1, hi1', ws, ↓q1, ↓q2, ↓q3, strGeq, hle]
        rw [← hS]
        exact bad fun e => by have := (e _ hx).2.2.2.1 y hi1 hy; rw [hle] at this; cases this
      case' true =>
        have hc : ∀ y, 0 < i → T[i - 1]? = some y → lessB y.1 xn = true := fun z _ hz => by rw [hy] at hz; cases hz; exact hle
        by_cases e1 : x1 = x2
        case' neg =>
          have e1' : ¬ (x1 : Int) = (x2 : Int) := by omega
          simp [lk_cons, hlt, ↓p1, ↓p2, storeL, hi1, hi1', ws, ↓q1, ↓q2, ↓q3, strGeq, hle, e1, e1']
          rw [← hS]
          exact bad fun e => e1 (e _ hx).2.1
        case' pos =>
          subst e1
          simp [lk_cons, hlt, ↓p1, ↓p2, storeL, hi1, hi1', ws, ↓q1, ↓q2, ↓q3, strGeq, hle]
    all_goals
      rw [← hS]
      have hxs : xn.size ≤ 140737488355328 := by have : xn.size ≤ 1000 := hxn; omega
      refine begin_c tS xn hxs x1 _ fun σ3 t3 g3 => ?_
      have hmp : mp < σ2.next := tl.2
      have ht : t < σ2.next := tl.1
      have G3 : Grow σ σ3 := ⟨Nat.le_trans gS.1 g3.1, fun a ha => (g3.2 a (by have := gS.1; omega) (by omega)).trans (gS.2 a ha)⟩
      by_cases hb : begC (T.take i) xn x1 = 0
      · obtain ⟨d1, d2, d3⟩ := good2 hc rfl hb
        have m3 := (g3.2 σ2.next (by rw [hS]; exact Nat.lt_succ_self _) (by omega)).trans mS
        simp [lk_cons, hb, m3]
        refine done_c t3 xn x1 (xa, xb) _ fun σ4 t4 g4 => ?_
        simp [lk_cons, d1, w1]
        have n3 := G3.1
        refine ⟨T.length - (i + 1), by omega, i + 1, rfl, by omega, by rw [← d2]; exact t4, ⟨Nat.le_trans G3.1 g4.1, fun a ha => (g4.2 a (by omega) (by omega)).trans (G3.2 a ha)⟩, lnOk_step hall d3, rfl⟩
      · simp [lk_cons, hb]
        exact hB σ3 (fun e => good hc rfl hb (e i hlt)) G3
  have : i = T.length := by omega
  subst this
  rw [List.take_length] at t2
  simp [lk_cons]
  exact hQ t mp σ2 hall t2 hlo g2
end Go.Proofs.YticefdfhcahlfaaDoor.AM

/- Topics as bytes: Encode. -/
namespace Go.Proofs.YticefdfhcahlfaaDoor.AM
open Go.RowKit
set_option maxRecDepth 100000
set_option linter.unusedVariables false
set_option linter.unusedSimpArgs false

def SbI : List AVal → List SbV → Prop
  | [], [] => True
  | a :: b :: c :: d :: e :: cs, x :: xs => (a = .str x.name ∧ b = .int .u8 (x.kind : Int) ∧ c = u64 x.ml ∧ d = u64 x.me ∧ HI e x.h) ∧ SbI cs xs
  | _, _ => False
theorem SbI.c {σ : St} : ∀ {cs : List AVal} {xs : List SbV}, SbI cs xs → SbC σ cs xs
  | [], [], _ => trivial
  | a :: b :: c :: d :: e :: cs, x :: xs, h => ⟨⟨h.1.1, h.1.2.1, h.1.2.2.1, h.1.2.2.2.1, .inl h.1.2.2.2.2⟩, SbI.c h.2⟩
  | [], _ :: _, h => h.elim
  | [_], _, h => by cases ‹List SbV› <;> exact h.elim
  | [_, _], _, h => by cases ‹List SbV› <;> exact h.elim
  | [_, _, _], _, h => by cases ‹List SbV› <;> exact h.elim
  | [_, _, _, _], _, h => by cases ‹List SbV› <;> exact h.elim
  | _ :: _ :: _ :: _ :: _ :: _, [], h => h.elim
theorem SbI.get : ∀ {cs : List AVal} {xs : List SbV} {i : Nat} {x : SbV}, SbI cs xs → xs[i]? = some x → ∃ hv, HI hv x.h ∧ (cs.drop (i * 5)).take 5 = sbA x hv
  | a :: b :: c :: d :: e :: cs, y :: xs, 0, x, h, hx => by
    simp at hx; subst hx
    obtain ⟨⟨rfl, rfl, rfl, rfl, h5⟩, _⟩ := h
    exact ⟨e, h5, by simp [sbA]⟩
  | a :: b :: c :: d :: e :: cs, y :: xs, i + 1, x, h, hx => by
    obtain ⟨hv, h1, h2⟩ := h.2.get (i := i) (by simpa using hx)
    have e1 : (i + 1) * 5 = i * 5 + 1 + 1 + 1 + 1 + 1 := by omega
    exact ⟨hv, h1, by rw [e1]; simpa using h2⟩
  | [], [], _, _, _, hx => by simp at hx
  | [], _ :: _, _, _, h, _ => h.elim
  | [_], _, _, _, h, _ => by cases ‹List SbV› <;> exact h.elim
  | [_, _], _, _, _, h, _ => by cases ‹List SbV› <;> exact h.elim
  | [_, _, _], _, _, _, h, _ => by cases ‹List SbV› <;> exact h.elim
  | [_, _, _, _], _, _, _, h, _ => by cases ‹List SbV› <;> exact h.elim
  | _ :: _ :: _ :: _ :: _ :: _, [], _, _, h, _ => h.elim
def ldB (x : Ld) : List UInt8 := beN 8 x.f0.toNat ++ beN 1 (if x.f1 then 1 else 0) ++ beN 8 x.f2.toNat
def ldsB (t : List Ld) : List UInt8 := (t.map ldB).flatten
def sbB (x : SbV) : List UInt8 := txB x.name ++ beN 1 x.kind ++ cuB x.ml x.me x.h
def sbsB (s : List SbV) : List UInt8 := (s.map sbB).flatten
def tpB (ep last : Nat) (t : List Ld) (s : List SbV) (T : Tbl) : List UInt8 := beN 8 ep ++ beN 8 last ++ beN 1 (t.length % 256) ++ ldsB t ++ beN 1 (s.length % 256) ++ sbsB s ++ encT T
theorem ldsB_snoc (t : List Ld) (x : Ld) : ldsB (t ++ [x]) = ldsB t ++ ldB x := by simp [ldsB]
theorem sbsB_snoc (t : List SbV) (x : SbV) : sbsB (t ++ [x]) = sbsB t ++ sbB x := by simp [sbsB]
theorem ldsB_len : ∀ t : List Ld, (ldsB t).length = 17 * t.length
  | [] => rfl
  | x :: t => by
    have := ldsB_len t
    simp only [ldsB, List.map_cons, List.flatten_cons, List.length_append, ldB, beN_len, List.length_cons] at this ⊢
    omega
theorem cuB_len {ml me : Int} {h : List Hd} (hs : HSm h) : (cuB ml me h).length ≤ 170000 := by
  have := hdsB_len hs.each
  have := hs.len
  simp only [cuB, List.length_append, beN_len]; omega
theorem sbB_len {x : SbV} (hs : HSm x.h) (hn : x.name.size ≤ 64) : (sbB x).length ≤ 170100 := by
  have := cuB_len (ml := x.ml) (me := x.me) hs
  simp only [sbB, List.length_append, beN_len, txB_len]; omega
/-- A topic's numbers. -/
structure TBd (ep last : Nat) (t : List Ld) (s : List SbV) (T : Tbl) : Prop where
  bl : ∀ x ∈ t, In64 x.f0 ∧ In64 x.f2
  bs : ∀ x ∈ s, HSm x.h ∧ (In64 x.ml ∧ In64 x.me) ∧ x.kind < 256
  bT : ∀ x ∈ T, LnOk x
  bTl : T.length ≤ 200
  be : ep < 18446744073709551616 ∧ last < 18446744073709551616
def EnRel (ep last : Nat) (t : List Ld) (s : List SbV) (T : Tbl) (σ' : St) (v : AVal) (c : Nat) : Prop := (c = 23 ∧ v = .nilsl ∧ ¬ (lnOkT T ∧ tpOk (last : Int) t s)) ∨ (lnOkT T ∧ tpOk (last : Int) t s) ∧ (c = 3 ∧ v = .nilsl ∧ 3840 < (tpB ep last t s T).length ∨ c = 0 ∧ (∃ b, RdB σ' v (tpB ep last t s T) b) ∧ (tpB ep last t s T).length ≤ 3840)
def ElJ (W p q : Nat) (lv : AVal) (t : List Ld) (l : List UInt8) (S : St) (mm : Nat) (rg : Regs) (σ' : St) : Prop := ∃ (i : Nat) (b' : Option Nat), mm = t.length - i ∧ i ≤ t.length ∧ WB σ' W (l ++ ldsB (t.take i)) b' ∧ WStp W none b' S σ' ∧ rg = [(1, .ptr p 0), (4, .ptr q 0), (6, .ptr W 0), (41, lv), (42, i64 t.length), (43, i64 i)]
def EsJ (W q : Nat) (sv : AVal) (s : List SbV) (l : List UInt8) (S : St) (mm : Nat) (rg : Regs) (σ' : St) : Prop := ∃ (i : Nat) (b' : Option Nat), mm = s.length - i ∧ i ≤ s.length ∧ WB σ' W (l ++ sbsB (s.take i)) b' ∧ WStp W none b' S σ' ∧ rg = [(4, .ptr q 0), (6, .ptr W 0), (68, sv), (69, i64 s.length), (70, i64 i)]
theorem ris_of {T : Tbl} (h : lnOkT T) : RisL T ∧ (T.map (·.1)).Nodup := by
  have hl := ln_less (n := T.length) h
  have lt : ∀ {k : Nat} {y : ByteArray × Ln}, T[k]? = some y → k < T.length := fun h => (List.getElem?_eq_some_iff.1 h).1
  refine ⟨fun i j x y hij hx hy => lessB_asymm (hl j i x y hij (lt hy) hx hy), ?_⟩
  rw [List.nodup_iff_pairwise_ne, List.pairwise_iff_getElem]
  intro i j hi hj hij e
  simp only [List.length_map] at hi hj
  simp only [List.getElem_map] at e
  have := hl j i T[i] T[j] hij (by omega) (List.getElem?_eq_getElem hi) (List.getElem?_eq_getElem hj)
  rw [e, lessB_irrefl] at this; cases this
end Go.Proofs.YticefdfhcahlfaaDoor.AM

/- Encode, walked. -/
namespace Go.Proofs.YticefdfhcahlfaaDoor.AM
open Go.RowKit
set_option maxRecDepth 100000
set_option linter.unusedVariables false
set_option linter.unusedSimpArgs false

set_option maxHeartbeats 4000000 in
theorem encode_c {σ : St} {lv sv nv : AVal} {t : List Ld} {s : List SbV} {cs : List AVal} {T : Tbl} {ep last : Nat} (hr : TpR σ lv sv t s cs) (hI : SbI cs s) (hn : Rd 5 σ nv T.length (rws rwL T)) (hf : TFew t s) (hb : TBd ep last t s T) (Q : AVal → St → Prop)
    (hQ : ∀ v c σ', EnRel ep last t s T σ' v c → Grow σ σ' → Q (.tup [v, i64 (c : Nat)]) σ') : ACall Tryd.prog 26 [.agg [u64 (ep : Int), u64 (last : Int), lv, sv, nv]] σ Q := by
  refine ACall.of_compF hmx (fun a w => Tryd.call26 a w) Tryd.func26 cf26 (n := 1) (by decide) rfl ?_
  obtain ⟨o1, o2⟩ := hr.rl.one
  obtain ⟨o3, o4⟩ := hr.rs.one
  obtain ⟨o5, o6⟩ := hn.one
  have l1 := hr.rl.len
  have l2 := hr.rs.len
  simp [ac26, rs26, lk_cons, o1, o2, o3, o4, o5, o6]
  obtain ⟨S, hS⟩ : ∃ S : St, S = ⟨σ.mem.set σ.next (.cells 5 [u64 (ep : Int), u64 (last : Int), lv, sv, nv]), σ.next + 1⟩ := ⟨_, rfl⟩
  have gS : Grow σ S := ⟨by rw [hS]; exact Nat.le_succ _, fun a ha => by rw [hS]; simp [show ¬ a = σ.next by omega]⟩
  have nS : S.next = σ.next + 1 := by rw [hS]
  have mS : S.mem.get σ.next = some (.cells 5 [u64 (ep : Int), u64 (last : Int), lv, sv, nv]) := by rw [hS]; simp
  rw [← hS]
  refine table_c (hn.frame gS.1 gS.2) (by have := hb.bTl; omega) (fun x hx => (hb.bT x hx).1) _ (fun σ1 hno g1 => ?_) fun tt mp σ1 hok t1 hge g1 => ?_
  · have m1 := (g1.2 σ.next (by omega)).trans mS
    simp [lk_cons, m1]
    exact hQ .nilsl 23 σ1 (.inl ⟨rfl, rfl, fun e => hno e.1⟩) (gS.trans g1)
  have G1 := gS.trans g1
  have n1 := G1.1
  have n1' := g1.1
  have m1 := (g1.2 σ.next (by omega)).trans mS
  simp [lk_cons, m1]
  refine tpcheck_g ⟨hr.rl.frame G1.1 G1.2, hr.rs.frame G1.1 G1.2, hr.rc.frame G1.1 G1.2⟩ hf (ep : Int) (last : Int) o5 _ fun b hbk => ?_
  cases b with
  | false =>
    simp [lk_cons]
    exact hQ .nilsl 23 σ1 (.inl ⟨rfl, rfl, fun e => by have := hbk.2 e.2; cases this⟩) G1
  | true =>
    have htp := hbk.1 rfl
    have h64 := htp.1.1
    have h2 := htp.2.2.1
    have tl := t1.lt
    obtain ⟨W, hW⟩ : ∃ W, σ1.next = W := ⟨_, rfl⟩
    obtain ⟨S1, hS1⟩ : ∃ S1 : St, S1 = ⟨σ1.mem.set σ1.next (.cells 1 [.nilsl]), σ1.next + 1⟩ := ⟨_, rfl⟩
    have gS1 : Grow σ1 S1 := ⟨by rw [hS1]; exact Nat.le_succ _, fun a ha => by rw [hS1]; simp [show ¬ a = σ1.next by omega]⟩
    have nS1 : S1.next = σ1.next + 1 := by rw [hS1]
    have w0 : WB S1 W [] none := ⟨.nilsl, by rw [hS1, ← hW]; simp, GS.nil _, by simp, by omega⟩
    have mS1 := (gS1.2 σ.next (by omega)).trans m1
    have eW : ¬ σ.next = σ1.next := by omega
    simp [lk_cons, fillL, m1, eW, repL, storeL]
    obtain ⟨S2, hS2⟩ : ∃ S2 : St, S2 = ⟨(σ1.mem.set σ1.next (.cells 1 [.nilsl])).set (σ1.next + 1) (.cells 1 [u64 (ep : Int), u64 (last : Int)]), σ1.next + 1 + 1⟩ := ⟨_, rfl⟩
    have gS2 : Grow S1 S2 := ⟨by rw [hS1, hS2]; exact Nat.le_succ _, fun a ha => by rw [hS2, hS1]; simp [show ¬ a = σ1.next + 1 by rw [hS1] at ha; exact Nat.ne_of_lt ha]⟩
    have nS2 : S2.next = σ1.next + 2 := by rw [hS2]
    have mS2 : S2.mem.get (σ1.next + 1) = some (.cells 1 ([ep, last].map fun n : Nat => u64 (n : Int))) := by rw [hS2]; simp
    rw [← hS2, hW]
    have e2 : ∀ n : Nat, (2 : Nat) = [ep, last].length := fun _ => rfl
    rw [hW] at mS2
    refine puts_c (xs := [ep, last]) (t := true) (w0.grow gS2) (o := W + 1) (by omega) mS2 (by omega) (by simp) (by simp) (by simp) _ fun σ3 b3 h3 t3 => ?_
    simp only [List.nil_append] at h3
    have gW : ∀ {σ' : St} {b' : Option Nat}, WStp W none b' S2 σ' → ∀ a, a < σ1.next → σ'.mem.get a = σ1.mem.get a := fun q a ha => (q.keep a (by omega) (by omega) (by simp)).trans ((gS2.2 a (by omega)).trans (gS1.2 a ha))
    have gA : ∀ {σ' : St} {b' : Option Nat}, WStp W none b' S2 σ' → Grow σ σ' := fun q => ⟨by have := q.next; omega, fun a ha => (gW q a (by omega)).trans (G1.2 a ha)⟩
    have mA : ∀ {σ' : St} {b' : Option Nat}, WStp W none b' S2 σ' → σ'.mem.get σ.next = some (.cells 5 [u64 (ep : Int), u64 (last : Int), lv, sv, nv]) := fun q => (gW q σ.next (by omega)).trans m1
    have wl : IntKind.u8.wrap (t.length : Int) = t.length := by rw [IntWalk.u8_in]; omega
    have wl2 : IntKind.u8.wrap (s.length : Int) = s.length := by rw [IntWalk.u8_in]; omega
    have hnl : (numsB [ep, last]).length = 16 := numsB_len _
    simp [lk_cons, mA t3, ↓l1, wl]
    refine wu8_c h3 (n := t.length) (by omega) (by omega) _ fun σ4 b4 h4 t4 => ?_
    have t4 := t3.trans t4
    simp [lk_cons, mA t4, ↓l1]
    obtain ⟨L0, hL0⟩ : ∃ L0, numsB [ep, last] ++ beN 1 t.length = L0 := ⟨_, rfl⟩
    have hL0l : L0.length = 17 := by rw [← hL0, List.length_append, hnl, beN_len]
    rw [hL0] at h4
    refine wp_loop (ElJ W σ.next tt lv t L0 S2) t.length ?_ ?_
    · exact ⟨0, b4, rfl, Nat.zero_le _, by simpa [ldsB] using h4, t4, by simp [lk_cons]⟩
    rintro mm rg σ5 ⟨i, b5, rfl, hi, h5, s5, rfl⟩
    by_cases hlt : i < t.length
    · obtain ⟨x, hx⟩ : ∃ x, t[i]? = some x := ⟨_, List.getElem?_eq_getElem hlt⟩
      have hxm := List.mem_of_getElem? hx
      have w1 : IntKind.i64.wrap ((i : Int) + 1) = ((i + 1 : Nat) : Int) := by rw [IntWalk.i64_in] <;> omega
      have htk : t.take (i + 1) = t.take i ++ [x] := by rw [List.take_add_one, hx]; rfl
      obtain ⟨p, p1, p2, _⟩ := hr.rl.at hlt (ρ := σ5) (gA s5).2
      rw [(ldc_take hx).1] at p2
      obtain ⟨na, ea, ta, _⟩ := nat_of (hb.bl x hxm).1
      obtain ⟨nc, ec, tc, _⟩ := nat_of (hb.bl x hxm).2
      rw [ea, ec] at p2
      have hll := ldsB_len (t.take i)
      rw [List.length_take] at hll
      simp [lk_cons, hlt, ↓p1, ↓p2, storeL]
      obtain ⟨S5, hS5⟩ : ∃ S5 : St, S5 = ⟨(σ5.mem.set σ5.next (.cells 3 [.int .u64 0, .bool false, .int .u64 0])).set σ5.next (.cells 3 [u64 (na : Int), .bool x.f1, u64 (nc : Int)]), σ5.next + 1⟩ := ⟨_, rfl⟩
      have gS5 : Grow σ5 S5 := ⟨by rw [hS5]; exact Nat.le_succ _, fun a ha => by rw [hS5]; simp [show ¬ a = σ5.next by omega]⟩
      have nS5 : S5.next = σ5.next + 1 := by rw [hS5]
      have mS5 : S5.mem.get σ5.next = some (.cells 3 [u64 (na : Int), .bool x.f1, u64 (nc : Int)]) := by rw [hS5]; simp
      obtain ⟨hb5, hw5⟩ := h5.lt
      have mm5 : ∀ {σ' : St} {b' : Option Nat}, WStp W b5 b' S5 σ' → σ'.mem.get σ5.next = S5.mem.get σ5.next := fun q => q.keep σ5.next (by omega) (by omega) (fun e => by have := hb5 _ e; omega)
      have s5S : WStp W none b5 S2 S5 := s5.grow hb5 gS5 (by omega)
      rw [← hS5]
      refine wu64_c (h5.grow gS5) (by rw [List.length_append]; omega) _ fun σ6 b6 h6 t6 => ?_
      simp [lk_cons, mm5 t6, mS5]
      refine flag_c _ _ ?_
      simp [lk_cons]
      refine wu8_c h6 (n := if x.f1 then 1 else 0) (by split <;> decide) (by simp only [List.length_append, beN_len]; omega) _ fun σ7 b7 h7 t7 => ?_
      have t7 := t6.trans t7
      simp [lk_cons, mm5 t7, mS5]
      refine wu64_c h7 (by simp only [List.length_append, beN_len]; omega) _ fun σ8 b8 h8 t8 => ?_
      have t8 := t7.trans t8
      simp [lk_cons, w1]
      refine ⟨t.length - (i + 1), by omega, i + 1, b8, rfl, by omega, ?_, s5S.trans t8, rfl⟩
      rw [htk, ldsB_snoc, ldB, ta, tc]
      simpa [List.append_assoc] using h8
    have : i = t.length := by omega
    subst this
    rw [List.take_length] at h5
    have hll := ldsB_len t
    simp [lk_cons, mA s5, ↓l2, wl2]
    refine wu8_c h5 (n := s.length) (by omega) (by rw [List.length_append]; omega) _ fun σ6 b6 h6 t6 => ?_
    have t6 := s5.trans t6
    simp [lk_cons, mA t6, ↓l2]
    obtain ⟨L1, hL1⟩ : ∃ L1, L0 ++ ldsB t ++ beN 1 s.length = L1 := ⟨_, rfl⟩
    have hL1l : L1.length ≤ 2000 := by rw [← hL1]; simp only [List.length_append, beN_len]; omega
    rw [hL1] at h6
    refine wp_loop (EsJ W tt sv s L1 S2) s.length ?_ ?_
    · exact ⟨0, b6, rfl, Nat.zero_le _, by simpa [sbsB] using h6, t6, by simp [lk_cons]⟩
    rintro mm rg σ7 ⟨i, b7, rfl, hi, h7, s7, rfl⟩
    have sbl : ∀ j, (sbsB (s.take j)).length ≤ 170100 * j := fun j => by
      have gen : ∀ l : List SbV, (∀ x ∈ l, HSm x.h ∧ x.name.size ≤ 64) → (sbsB l).length ≤ 170100 * l.length := by
        intro l
        induction l with
        | nil => intro _; simp [sbsB]
        | cons x l ih =>
          intro hh
          have h1 := sbB_len (hh x (by simp)).1 (hh x (by simp)).2
          have h2 := ih fun y hy => hh y (by simp [hy])
          simp only [sbsB, List.map_cons, List.flatten_cons, List.length_append, List.length_cons] at h2 ⊢
          omega
      have h1 := gen (s.take j) fun x hx => by
        have hm := List.mem_of_mem_take hx
        obtain ⟨k, hk⟩ := List.getElem?_of_mem hm
        exact ⟨(hb.bs x hm).1, (htp.2.2.2 k (List.getElem?_eq_some_iff.1 hk).1 x hk).1.2⟩
      have : (s.take j).length ≤ j := by rw [List.length_take]; omega
      omega
    by_cases hlt : i < s.length
    · obtain ⟨x, hx⟩ : ∃ x, s[i]? = some x := ⟨_, List.getElem?_eq_getElem hlt⟩
      have hxm := List.mem_of_getElem? hx
      have hxc := htp.2.2.2 i hlt x hx
      have w1 : IntKind.i64.wrap ((i : Int) + 1) = ((i + 1 : Nat) : Int) := by rw [IntWalk.i64_in] <;> omega
      have htk : s.take (i + 1) = s.take i ++ [x] := by rw [List.take_add_one, hx]; rfl
      obtain ⟨p, p1, p2, _⟩ := hr.rs.at hlt (ρ := σ7) (gA s7).2
      obtain ⟨hv, c1, c2⟩ := hI.get hx
      rw [c2] at p2
      simp only [sbA] at p2
      have hv1 := c1.one
      have hsl := sbl i
      have hbx := hb.bs x hxm
      have hxn := hxc.1.2
      simp [lk_cons, hlt, ↓p1, ↓p2, storeL, hv1]
      obtain ⟨S7, hS7⟩ : ∃ S7 : St, S7 = ⟨(σ7.mem.set σ7.next (.cells 5 [.str ⟨#[]⟩, .int .u8 0, .int .u64 0, .int .u64 0, .nilsl])).set σ7.next (.cells 5 [.str x.name, .int .u8 (x.kind : Int), u64 x.ml, u64 x.me, hv]), σ7.next + 1⟩ := ⟨_, rfl⟩
      have gS7 : Grow σ7 S7 := ⟨by rw [hS7]; exact Nat.le_succ _, fun a ha => by rw [hS7]; simp [show ¬ a = σ7.next by omega]⟩
      have nS7 : S7.next = σ7.next + 1 := by rw [hS7]
      have mS7 : S7.mem.get σ7.next = some (.cells 5 [.str x.name, .int .u8 (x.kind : Int), u64 x.ml, u64 x.me, hv]) := by rw [hS7]; simp
      obtain ⟨hb7, hw7⟩ := h7.lt
      have mm7 : ∀ {σ' : St} {b' : Option Nat}, WStp W b7 b' S7 σ' → σ'.mem.get σ7.next = S7.mem.get σ7.next := fun q => q.keep σ7.next (by omega) (by omega) (fun e => by have := hb7 _ e; omega)
      have s7S : WStp W none b7 S2 S7 := s7.grow hb7 gS7 (by omega)
      rw [← hS7]
      refine wtext_c (h7.grow gS7) (by rw [List.length_append]; omega) (by omega) _ fun σ8 b8 h8 t8 => ?_
      simp [lk_cons, mm7 t8, mS7]
      refine wu8_c h8 (n := x.kind) hbx.2.2 (by simp only [List.length_append, beN_len]; simp; omega) _ fun σ9 b9 h9 t9 => ?_
      have t9 := t8.trans t9
      simp [lk_cons, mm7 t9, mS7]
      refine cwrite_c h9 c1 hbx.1 hbx.2.1.1 hbx.2.1.2 (by simp only [List.length_append, beN_len]; simp; omega) _ fun σa ba ha ta => ?_
      have ta := t9.trans ta
      simp [lk_cons, w1]
      refine ⟨s.length - (i + 1), by omega, i + 1, ba, rfl, by omega, ?_, s7S.trans ta, rfl⟩
      rw [htk, sbsB_snoc, sbB, txB]
      simpa [List.append_assoc] using ha
    have : i = s.length := by omega
    subst this
    rw [List.take_length] at h7
    have hsl := sbl s.length
    rw [List.take_length] at hsl
    simp [lk_cons]
    have t7 : TRep σ7 tt mp T := t1.frame (fun a ha => gW s7 a (by rcases ha with rfl | rfl <;> omega)) (by have := s7.next; omega)
    refine wwrite_g t7 h7 (by rw [List.length_append]; omega) hb.bTl hb.bT _ fun ys σ8 b8 py ry h8 t8 => ?_
    have t8 := s7.trans t8
    have hys : ys = T := RisL.uniq ry (ris_of hok).1 ((py.map _).nodup_iff.2 (ris_of hok).2) py
    subst hys
    have hTB : L1 ++ sbsB s ++ encT ys = tpB ep last t s ys := by
      rw [← hL1, ← hL0, tpB, Nat.mod_eq_of_lt (by omega), Nat.mod_eq_of_lt (by omega)]
      simp [numsB, List.append_assoc]
    rw [hTB] at h8
    have hlT := lnsB_len (T := dn ys) fun x hx => hb.bT x (List.mem_filter.1 hx).1
    have hdl := dn_len ys
    have htpl : (tpB ep last t s ys).length ≤ 2000000 := by
      rw [← hTB]
      simp only [List.length_append, encT, beN_len]
      have := hb.bTl
      omega
    simp [lk_cons]
    refine wdone_c h8 (by omega) _ fun σ9 v9 b9 h9 h10 h11 => ?_
    have hlen := h9.len
    have G9 : Grow σ σ9 := (gA t8).trans h11
    by_cases hc : (tpB ep last t s ys).length ≤ 3840
    · have hc' : ((tpB ep last t s ys).length : Int) ≤ 3840 := by omega
      simp [lk_cons, ↓hlen, hc, hc']
      exact hQ v9 0 σ9 (.inr ⟨⟨hok, htp⟩, .inr ⟨rfl, ⟨b9, RdB.ofGS h9⟩, hc⟩⟩) G9
    · have hc' : ¬ ((tpB ep last t s ys).length : Int) ≤ 3840 := by omega
      simp [lk_cons, ↓hlen, hc, hc']
      exact hQ .nilsl 3 σ9 (.inr ⟨⟨hok, htp⟩, .inl ⟨rfl, rfl, by omega⟩⟩) G9
end Go.Proofs.YticefdfhcahlfaaDoor.AM
