/- The abstract machine, part 3 of 3: a small machine of values, blocks and code, and the proof that the model does as it does. -/
import Derived.Test.YtopagbaokokjdaaAm2
import Derived.Sort.LoopGhostIn
import Derived.Deep.LoopGhost
import Derived.ChangeArms
import Derived.DataReads
import Derived.SizedLaws
import Derived.Carry
import Derived.Deep.Slices
import Derived.ChangeShapes
import Derived.WideShapes
/- The abstract machine: code and functions. -/
namespace Go.Proofs.Ytopagbaokokjdaa.AM
open Go.RowKit
set_option linter.unusedVariables false
set_option linter.unusedSimpArgs false

def notDefer (o : Oper) : Bool := match o.op with
  | .defer _ => false
  | _ => true
/-- No range over a function. -/
def ACode.noD : ACode → Bool
  | .rangef .. => false
  | .seq a b => a.noD && b.noD
  | .cond _ a b => a.noD && b.noD
  | .block _ a => a.noD
  | .loop _ a => a.noD
  | _ => true
/-- No range over a function. -/
def ACode.noR : ACode → Bool
  | .rangef .. => false
  | .seq a b => a.noR && b.noR
  | .cond _ a b => a.noR && b.noR
  | .block _ a => a.noR
  | .loop _ a => a.noR
  | _ => true

def comp (P : Program) (nt : Nat) (h : Hints) : Code → Option ACode
  | .skip => some .skip
  | .region id ops draw =>
    if draw then
      (h.perm.lookup id).bind fun perm => (listM (fun p : Nat × List Nat => (ops.toList[p.1]?).bind fun o => (compOper P nt ops.toList o).map fun a => (⟨p.1, a, p.2⟩ : Ent)) perm).bind fun es =>
        if (okEnts ops.toList es && ops.toList.all notDefer) = true then some (.dreg ((h.keep.lookup id).getD []) (es.map fun e => (e.a, e.rc))) else none
    else (listM (compOper P nt ops.toList) ops.toList).map (.reg ((h.keep.lookup id).getD []))
  | .seq a b => (comp P nt h a).bind fun a => (comp P nt h b).map fun b => .seq a b
  | .cond c a b => (compOpd c).bind fun c => (comp P nt h a).bind fun a => (comp P nt h b).map fun b => .cond c a b
  | .block id a => (comp P nt h a).map (.block id)
  | .loop a => (comp P nt h a).map (.loop (((firstReg a).bind fun i => h.lkeep.lookup i).getD []))
  | .exit id => some (.exit id)
  | .ret => some .ret
  | .rangeFunc f ps x y => match compOpd f, comp P nt h x, comp P nt h y with
    | some f, some x, some y => if ps.toList.all (fun p => decide (p < nt)) && x.noD && y.noD then some (.rangef f ps.toList x y) else some (.reg [] [⟨none, .op .stuck, none⟩])
    | _, _, _ => some (.reg [] [⟨none, .op .stuck, none⟩])
  | _ => none

section
variable {B : Nat}

def LiftP (nt : Nat) (B : Nat) (w0 : Root) (z : Bool) (ρ : Rho) (I : Imm) (σ : St) (T : AVal → St → Prop) (Q : Post) : Exit → Act → World → Prop
  | .normal, a, w => ∃ M, (z = true → M = []) ∧ OkM B w0 M ∧ Lift nt B (w0.mark M) ρ I σ (Q .normal) a w
  | .exit id, a, w => ∃ M, (z = true → M = []) ∧ OkM B w0 M ∧ Lift nt B (w0.mark M) ρ I σ (Q (.exit id)) a w
  | .ret, a, w => ∃ M, (z = true → M = []) ∧ OkM B w0 M ∧ Lift nt B (w0.mark M) ρ I σ (Q .ret) a w
  | .panic chain, a, w => ∃ M, (z = true → M = []) ∧ OkM B w0 M ∧ a.defers = (w0.mark M).ds ∧ LiftT B (w0.mark M) ρ I σ T chain w
  | _, _, _ => False

/-- The same where nothing is put off. -/
def LiftP0 (nt : Nat) (B : Nat) (w0 : Root) (ρ : Rho) (I : Imm) (σ : St) (T : AVal → St → Prop) (Q : Post) : Exit → Act → World → Prop
  | .normal, a, w => Lift nt B w0 ρ I σ (Q .normal) a w
  | .exit id, a, w => Lift nt B w0 ρ I σ (Q (.exit id)) a w
  | .ret, a, w => Lift nt B w0 ρ I σ (Q .ret) a w
  | .panic chain, a, w => a.defers = w0.ds ∧ LiftT B w0 ρ I σ T chain w
  | _, _, _ => False

variable {w0 : Root}
theorem LiftP.zero {nt : Nat} {ρ : Rho} {I : Imm} {σ : St} {T : AVal → St → Prop} {Q : Post} {e : Exit} {a : Act} {w : World} (h : LiftP nt B w0 true ρ I σ T Q e a w) : LiftP0 nt B w0 ρ I σ T Q e a w := by
  cases e <;> first
    | (obtain ⟨M, h1, _, h2⟩ := h; rw [h1 rfl, Root.mark_nil] at h2; exact h2)
    | exact h

theorem LiftP.ext {nt : Nat} {z : Bool} {ρ ρ1 : Rho} {I I1 : Imm} {σ σ1 : St} {T : AVal → St → Prop} {Q : Post} {e : Exit} {a : Act} {w : World} (ex : Ext ρ I σ ρ1 I1 σ1) (h : LiftP nt B w0 z ρ1 I1 σ1 T Q e a w) : LiftP nt B w0 z ρ I σ T Q e a w := by
  cases e <;> first
    | (obtain ⟨M, h0, h1, h2⟩ := h; exact ⟨M, h0, h1, Lift.ext ex h2⟩)
    | (obtain ⟨M, h0, h1, h2, h3⟩ := h; exact ⟨M, h0, h1, h2, h3.ext ex⟩)
    | exact h
/-- What came behind marks. -/
theorem LiftP.join {nt : Nat} {z : Bool} {M : List Nat} {ρ : Rho} {I : Imm} {σ : St} {T : AVal → St → Prop} {Q : Post} {e : Exit} {a : Act} {w : World} (hz : z = true → M = []) (hM : OkM B w0 M) (h : LiftP nt B (w0.mark M) z ρ I σ T Q e a w) : LiftP nt B w0 z ρ I σ T Q e a w := by
  cases e <;> first
    | (obtain ⟨N, h0, h1, h2⟩ := h; rw [Root.mark_mark] at h2; exact ⟨N ++ M, fun hh => by rw [h0 hh, hz hh]; rfl, hM.join h1, h2⟩)
    | (obtain ⟨N, h0, h1, h2, h3⟩ := h; rw [Root.mark_mark] at h2 h3; exact ⟨N ++ M, fun hh => by rw [h0 hh, hz hh]; rfl, hM.join h1, h2, h3⟩)
    | exact h
theorem LiftP.weak {nt : Nat} {z z' : Bool} {ρ : Rho} {I : Imm} {σ : St} {T : AVal → St → Prop} {Q : Post} {e : Exit} {a : Act} {w : World} (hz : z' = true → z = true) (h : LiftP nt B w0 z ρ I σ T Q e a w) : LiftP nt B w0 z' ρ I σ T Q e a w := by
  cases e <;> first
    | (obtain ⟨N, h0, h2⟩ := h; exact ⟨N, fun hh => h0 (hz hh), h2⟩)
    | exact h

theorem Lift.mono {nt : Nat} {ρ : Rho} {I : Imm} {σ : St} {Q Q' : Regs → St → Prop} {a : Act} {w : World} (h : Lift nt B w0 ρ I σ Q a w) (hq : ∀ r σ, Q r σ → Q' r σ) : Lift nt B w0 ρ I σ Q' a w := by
  obtain ⟨r, σ', ρ', I', h1, h2, h3, h4, h5, h6⟩ := h
  exact ⟨r, σ', ρ', I', h1, h2, h3, h4, h5, hq _ _ h6⟩

theorem Lift.norm {nt : Nat} {ρ : Rho} {I : Imm} {σ : St} {keep : List Nat} {Q : Regs → St → Prop} {a : Act} {w : World} (h : Lift nt B w0 ρ I σ (fun r σ => Q (norm keep r) σ) a w) : Lift nt B w0 ρ I σ Q a w := by
  obtain ⟨r, σ', ρ', I', h1, h2, h3, h4, h5, h6⟩ := h
  exact ⟨_, σ', ρ', I', h1, h2, h3, h4.norm keep, h5, h6⟩

theorem Lift.z0 {nt : Nat} {z : Bool} {ρ : Rho} {I : Imm} {σ : St} {Q : Regs → St → Prop} {a : Act} {w : World} (h : Lift nt B w0 ρ I σ Q a w) : ∃ M, (z = true → M = []) ∧ OkM B w0 M ∧ Lift nt B (w0.mark M) ρ I σ Q a w :=
  ⟨[], fun _ => rfl, OkM.nil _ _, by rw [Root.mark_nil]; exact h⟩

theorem bindP_regs {ρ : Rho} {I : Imm} : ∀ (ps : List Nat) (vs : List AVal) (cvs : List Value) (r : Regs) (tmps : Array Value), RegsRel ρ I r tmps → cvs.length = vs.length → CRel ρ I vs (fun j => cvs[j]?) → (∀ p ∈ ps, p < tmps.size) →
    RegsRel ρ I (bindP ps vs r) ((ps.zip cvs).foldl (fun tmps (t, a) => tmps.setIfInBounds t a) tmps)
  | [], _, _, r, tmps, hr, _, _, _ => by simpa [bindP] using hr
  | p :: ps, [], [], r, tmps, hr, _, _, _ => by simpa [bindP] using hr
  | p :: ps, v :: vs, c :: cvs, r, tmps, hr, hl, hc, hp => by
    simp only [CRel] at hc
    obtain ⟨⟨u, h1, h2⟩, h3⟩ := hc
    simp at h1; subst h1
    simp only [bindP, List.zip_cons_cons, List.foldl_cons]
    have h := hr.set (a := { tmps := tmps, defers := [] }) (d := some p) h2 (fun x hx => by cases hx; exact hp p (by simp))
    exact bindP_regs ps vs cvs ((p, v) :: r) (tmps.setIfInBounds p c) h (by simpa using hl) (by simpa using h3) (fun q hq => by simpa using hp q (by simp [hq]))
  | _ :: _, [], _ :: _, _, _, _, hl, _, _ => by simp at hl
  | _ :: _, _ :: _, [], _, _, _, hl, _, _ => by simp at hl

theorem fold_size (ps : List Nat) (cvs : List Value) : ∀ (l : List (Nat × Value)) (tmps : Array Value), (l.foldl (fun tmps (t, a) => tmps.setIfInBounds t a) tmps).size = tmps.size
  | [], _ => rfl
  | x :: l, tmps => by simp only [List.foldl_cons]; rw [fold_size ps cvs l]; simp

theorem noD_noR : ∀ {a : ACode}, a.noD = true → a.noR = true
  | .skip, _ | .reg .., _ | .dreg .., _ | .exit _, _ | .ret, _ => rfl
  | .rangef .., h => by cases h
  | .seq a b, h => by simp only [ACode.noD, ACode.noR, Bool.and_eq_true] at *; exact ⟨noD_noR h.1, noD_noR h.2⟩
  | .cond _ a b, h => by simp only [ACode.noD, ACode.noR, Bool.and_eq_true] at *; exact ⟨noD_noR h.1, noD_noR h.2⟩
  | .block _ a, h => by simp only [ACode.noD, ACode.noR] at *; exact noD_noR h
  | .loop _ a, h => by simp only [ACode.noD, ACode.noR] at *; exact noD_noR h

def CodeOk (Pg : Program) (nt : Nat) (B : Nat) (code : Code) (ac : ACode) : Prop :=
  ∀ (ro : Option Nat) (T : AVal → St → Prop) (Y : Nat → List AVal → St → (AVal → St → Prop) → Prop) (w0 : Root) (Q : Post) (r : Regs) (σ : St) (ρ : Rho) (I : Imm) (a : Act) (w : World), (ro = none ∨ ac.noD = true) →
    ac.wp ⟨Pg, T, Y⟩ Q r σ → RegsRel ρ I r a.tmps → Rel B w0 ρ I σ w → YOk ⟨Pg, T, Y⟩ B w0 ρ I → a.defers = w0.ds → a.tmps.size = nt → code.wpIn (wideR ro) 0 Pg (LiftP nt B w0 ac.noR ρ I σ T Q) a w

theorem loop_back {lp : Loop} (h1 : lp.state = .ready) (h2 : lp.pending = none) : ({ lp with state := .ready, pending := none } : Loop) = lp := by
  cases lp; simp only at h1 h2; subst h1; subst h2; rfl

/-- A range over a function. -/
theorem rangef_sound {Pg : Program} {nt : Nat} {x y : Code} {ax ay : ACode} (hx : CodeOk Pg nt B x ax) (hy : CodeOk Pg nt B y ay) (nx : ax.noD = true) (ny : ay.noD = true) {f : Operand} {f' : Opd} (hf : compOpd f = some f') {ps : Array Tmp} (hps : ∀ p ∈ ps.toList, p < nt) : CodeOk Pg nt B (.rangeFunc f ps x y) (.rangef f' ps.toList ax ay) := by
  intro ro T Y w0 Q r σ ρ I a w hro hw hr rl hY hd hs
  rcases hro with rfl | hro
  rotate_left
  · cases hro
  simp only [ACode.wp] at hw
  split at hw
  rotate_left
  · exact hw.elim
  rename_i g first caps hev
  refine wpIn_rangeFunc fun fn _ => ?_
  -- the record
  have he := run_enterLoop_outer (P := Pg) (w := w) fn a.tmps ps x y
  let lp : Loop := { state := .ready, pending := none, fn := fn, tmps := a.tmps, params := ps, assign := x, body := y, defers := w.heap.size }
  have hrec : lp = { state := .ready, pending := none, fn := fn, tmps := a.tmps, params := ps, assign := x, body := y, defers := w.heap.size } := rfl
  obtain ⟨hent, hcall⟩ := hw lp rfl rfl
  have r1 := rl.addMark
  have hBm : B ≤ w.heap.size := rl.base
  have hok : OkM B w0 [w.heap.size] := ⟨by simp, fun m hm => by rw [List.mem_singleton.1 hm]; exact ⟨fun h => by have := rl.low.mkLt h; omega, hBm⟩⟩
  obtain ⟨r2, e2⟩ := r1.newLoop lp
  have hsz : (w.alloc (.deferred (some []))).heap.size = w.heap.size + 1 := by simp
  rw [hsz] at r2 e2
  have hle : w0.le (w0.mark [w.heap.size]) := Root.le_mark _ _
  have hρa : (upd ρ σ.next ⟨w.heap.size + 1, 0, 0, 0⟩) σ.next = some ⟨w.heap.size + 1, 0, 0, 0⟩ := upd_self _ _ _
  -- the function
  have hfv := opd_sound rl.gok hr hf hev
  simp only [VRel] at hfv
  obtain ⟨xs', ys', f1, f2, f3, f4, f5⟩ := hfv
  have hargs : CRel (upd ρ σ.next ⟨w.heap.size + 1, 0, 0, 0⟩) I (first ++ [.yld σ.next] ++ caps) (fun j => (xs' ++ #[.func (.yield (w.heap.size + 1)) #[] #[]] ++ ys')[j]?) := CRel.mk fun j v hv => by
    have hrl := e2.rle r1
    by_cases hj : j < (first ++ [AVal.yld σ.next]).length
    · rw [List.getElem?_append_left hj] at hv
      rw [Array.getElem?_append_left (by simp at hj ⊢; omega)]
      by_cases hj2 : j < first.length
      · rw [List.getElem?_append_left hj2] at hv
        rw [Array.getElem?_append_left (by omega)]
        obtain ⟨u, u1, u2⟩ := f4.get j v hv
        exact ⟨u, u1, u2.mono hrl (ILe.refl _)⟩
      · rw [List.getElem?_append_right (by omega)] at hv
        rw [Array.getElem?_append_right (by omega)]
        have : j - first.length = 0 := by simp at hj; omega
        rw [this] at hv
        simp at hv; subst hv
        rw [f2, this]
        exact ⟨_, rfl, by simp only [VRel]; exact ⟨_, hρa, rfl⟩⟩
    · rw [List.getElem?_append_right (by omega)] at hv
      simp only [List.length_append] at hj hv
      rw [Array.getElem?_append_right (by simp at hj ⊢; omega)]
      obtain ⟨u, u1, u2⟩ := f5.get _ v hv
      refine ⟨u, ?_, u2.mono hrl (ILe.refl _)⟩
      have he : j - (xs' ++ #[Value.func (.yield (w.heap.size + 1)) #[] #[]]).size = j - (first.length + [AVal.yld σ.next].length) := by simp [f2]
      rw [he]; exact u1
  refine ⟨w.heap.size + 1, [{ target := .collected w.heap.size, args := #[] }], (w.alloc (.deferred (some []))).alloc (.loop lp), ⟨.fn (.func g) ys', xs' ++ #[.func (.yield (w.heap.size + 1)) #[] #[]]⟩, (w.alloc (.deferred (some []))).alloc (.loop lp), g, xs' ++ #[.func (.yield (w.heap.size + 1)) #[] #[]] ++ ys', (w.alloc (.deferred (some []))).alloc (.loop lp), he, ?_, fun _ _ => trivial, ?_, fun h => (by cases h), ?_⟩
  · have hcv : ∀ v, a.eval (.const v) = v := fun _ => rfl
    simp only [rangeCall, resolve, Sem.run_bind, f1, Deferred.ofValue, Sem.run_pure, Result.andThen_ok, List.map_toArray, List.map_cons, List.map_nil, hcv]
  · simp only [invoke]
    rw [hent _ _]
  · -- the rounds
    have hyok : YOk ⟨Pg, fun _ _ => False, roundY (ax.wp (Env.of Pg)) (ay.wp (Env.of Pg)) σ.next lp ps.toList r⟩ B (w0.mark [w.heap.size]) (upd ρ σ.next ⟨w.heap.size + 1, 0, 0, 0⟩) I := by
      intro w1 ρ1 I1 σ1 wz b vs cvs p K k0 k1 k2 rl1 hp hsz1 hvs hy1
      obtain ⟨rfl, hlen, hmem, hA⟩ := hy1
      have hp2 : p = ⟨w.heap.size + 1, 0, 0, 0⟩ := by
        have := k1 _ _ hρa
        rw [this] at hp
        exact (Option.some.inj hp).symm
      subst hp2
      obtain ⟨hb0, hb1⟩ := rl1.blk _ _ _ hp hmem
      have hsp : cvs.size = lp.params.size := by rw [hsz1, hlen]; simp [hrec]
      refine ⟨_, _, _, _, run_yield hb1 hsp, ?_⟩
      have hrle := (e2.rle r1).trans k1
      have hregs : RegsRel ρ1 I1 (bindP ps.toList vs r) ((lp.params.zip cvs).foldl (fun tmps (t, a) => tmps.setIfInBounds t a) lp.tmps) := by
        have h := bindP_regs (ρ := ρ1) (I := I1) ps.toList vs cvs.toList r a.tmps (fun t v hv => let ⟨cv, a1, a2⟩ := hr t v hv; ⟨cv, a1, a2.mono hrle k2⟩) (by simpa using hsz1) (by simpa using hvs) (fun p hp => by rw [hs]; exact hps p hp)
        rw [← Array.foldl_toList, Array.toList_zip]
        exact h
      have hsize : ((lp.params.zip cvs).foldl (fun tmps (t, a) => tmps.setIfInBounds t a) lp.tmps).size = nt := by
        rw [← Array.foldl_toList, fold_size [] []]
        exact hs
      have W1 := hx (some (w.heap.size + 1)) (fun _ _ => False) (fun _ _ _ _ => False) { w1 with ds := [] } _ (bindP ps.toList vs r) σ1 ρ1 I1 { tmps := (lp.params.zip cvs).foldl (fun tmps (t, a) => tmps.setIfInBounds t a) lp.tmps, defers := [] } wz (.inr nx) hA hregs (rl1.atDs []) (YOk.of _ _ _ _ _) rfl hsize
      refine roundIn_of_wpIn trivial (wpIn_mono W1 ?_)
      intro e a1 wz1 hl
      cases e with
      | normal =>
        obtain ⟨M, hM0, hM, r3, σ3, ρ3, I3, g1, g2, g3, g4, g5, _, g6, g7⟩ := hl
        obtain rfl := hM0 (noD_noR nx)
        rw [Root.mark_nil] at g1 g3
        have hp3 : ρ3 σ.next = some ⟨w.heap.size + 1, 0, 0, 0⟩ := g5.rle rl1 _ _ hp
        obtain ⟨c1, c2, c3⟩ := g3.ofDs.setLoop (l' := { lp with state := .busy }) hp3 g6
        refine ⟨_, run_beginRound c1 rfl, ?_⟩
        have W2 := hy (some (w.heap.size + 1)) (fun _ _ => False) (fun _ _ _ _ => False) { w1 with ds := [] } _ r3 _ ρ3 I3 a1 _ (.inr ny) g7 g4 (c2.atDs []) (YOk.of _ _ _ _ _) g1 g2
        refine wpIn_mono W2 ?_
        intro e a2 wz2 hl
        have fin : ∀ (ex : AExit) (jump : Option Code) (bv : Bool) (l' : Loop), bv = jump.isNone → l' = { lp with state := if jump.isNone then .ready else .done, pending := jump } →
            (∃ M, (ay.noR = true → M = []) ∧ OkM B { w1 with ds := [] } M ∧ Lift nt B (Root.mark { w1 with ds := [] } M) ρ3 I3 ⟨σ3.mem.set σ.next (.loop { lp with state := .busy }), σ3.next⟩ (fun r s => s.mem.get σ.next = some (.loop { lp with state := .busy }) ∧ K (.bool bv) ⟨s.mem.set σ.next (.loop l'), s.next⟩) a2 wz2) →
            ∃ v w', (Instr.endRound (w.heap.size + 1) jump).run Pg wz2 = .ok v w' ∧ RetOf B w1 ρ1 I1 σ1 K (.returned v) w' := by
          rintro ex jump bv l' rfl rfl ⟨M, hM0, hM, r4, σ4, ρ4, I4, j1, j2, j3, j4, j5, j6, j7⟩
          obtain rfl := hM0 (noD_noR ny)
          rw [Root.mark_nil] at j1 j3
          have hp4 : ρ4 σ.next = some ⟨w.heap.size + 1, 0, 0, 0⟩ := j5.rle c2 _ _ hp3
          obtain ⟨d1, d2, d3⟩ := j3.ofDs.setLoop (l' := { lp with state := if jump.isNone then .ready else .done, pending := jump }) hp4 j6
          refine ⟨_, _, run_endRound jump d1, .bool jump.isNone, _, ρ4, I4, _, rfl, by simp only [VRel], d2, ((g5.trans c3).trans j5).trans d3, j7⟩
        cases e with
        | normal => exact fin .normal none true lp rfl (by rfl) hl
        | ret => exact fin .ret (some .ret) false { lp with state := .done, pending := some .ret } rfl rfl hl
        | exit id => exact fin (.exit id) (some (.exit id)) false { lp with state := .done, pending := some (.exit id) } rfl rfl hl
        | goto l => exact (hl : False).elim
        | panic c =>
          obtain ⟨_, _, _, _, hl⟩ := hl
          obtain ⟨_, _, _, _, _, _, _, _, _, hl⟩ := hl
          exact hl
        | outgrown => exact (hl : False).elim
      | ret =>
        obtain ⟨M, hM0, hM, r3, σ3, ρ3, I3, g1, g2, g3, g4, g5, g6, _⟩ := hl
        cases g6
      | exit id =>
        obtain ⟨M, hM0, hM, r3, σ3, ρ3, I3, g1, g2, g3, g4, g5, g6, _⟩ := hl
        cases g6
      | goto l => exact (hl : False).elim
      | panic c =>
        obtain ⟨_, _, _, _, hl⟩ := hl
        obtain ⟨_, _, _, _, _, _, _, _, _, hl⟩ := hl
        exact hl
      | outgrown => exact (hl : False).elim
    have hc := hcall B (w0.mark [w.heap.size]) _ I _ (xs' ++ #[.func (.yield (w.heap.size + 1)) #[] #[]] ++ ys') r2 hyok (by simp [f2, f3]; omega) hargs
    refine callsIn_wideR.2 (hc.mono ?_)
    rintro e w3 (⟨v, σ3, ρ3, I3, cv, rfl, g1, g2, g3, lq, h1, h2, h3⟩ | ⟨chain, rfl, hh⟩)
    rotate_left
    · obtain ⟨_, _, _, _, _, _, _, _, _, hl⟩ := hh
      exact hl.elim
    · have hp3 : ρ3 σ.next = some ⟨w.heap.size + 1, 0, 0, 0⟩ := g3.rle r2 _ _ hρa
      obtain ⟨d1, d2, d3⟩ := g2.setLoop (l' := { lq with state := .exhausted }) hp3 h1
      have d4 := d2.del σ.next
      have d5 : Ext ρ3 I3 ⟨σ3.mem.set σ.next (.loop { lq with state := .exhausted }), σ3.next⟩ ρ3 I3 ⟨(σ3.mem.set σ.next (.loop { lq with state := .exhausted })).del σ.next, σ3.next⟩ := Ext.del hp3
      have d6 : Rel B (w0.mark [w.heap.size]) ρ3 I3 ⟨σ3.mem.del σ.next, σ3.next⟩ (w3.putObj (w.heap.size + 1) (.loop { lq with state := .exhausted })) := by
        refine d4.memEq fun x => ?_
        simp only [Mem.get_del, Mem.get_set]
        split <;> rfl
      have hx2 : Ext ρ I σ ρ3 I3 ⟨σ3.mem.del σ.next, σ3.next⟩ := by
        have h := (e2.trans g3).trans (d3.trans d5)
        refine ⟨h.rho, h.imm, h.next, fun a ha hn => ?_⟩
        rw [← h.keep a ha hn]
        simp only [Mem.get_del, Mem.get_set]
        split <;> rfl
      have hregs : RegsRel ρ3 I3 r a.tmps := hr.ext hx2 rl
      have lift : ∀ ex, Q ex r ⟨σ3.mem.del σ.next, σ3.next⟩ → ∃ M, ((ACode.rangef f' ps.toList ax ay).noR = true → M = []) ∧ OkM B w0 M ∧ Lift nt B (w0.mark M) ρ I σ (Q ex) { tmps := a.tmps, defers := [{ target := .collected w.heap.size, args := #[] }] ++ a.defers } (w3.putObj (w.heap.size + 1) (.loop { lq with state := .exhausted })) :=
        fun ex hq => ⟨[w.heap.size], fun h => (by cases h), hok, r, _, ρ3, I3, by rw [hd]; rfl, hs, d6, hregs, hx2, hq⟩
      obtain ⟨jp, hjp⟩ : ∃ j, lq.pending = j := ⟨_, rfl⟩
      have hrun := run_endLoop (P := Pg) d1 h2
      refine ⟨jp, _, hrun.trans (by rw [hjp]), ?_⟩
      rw [hjp] at h3
      cases jp with
      | none => rw [hjp] at lift; exact lift .normal h3
      | some c =>
        rw [hjp] at lift
        cases c <;> simp only [afterQ] at h3
        · rename_i id; exact wpIn_exit (lift (.exit id) h3)
        · exact wpIn_ret (lift .ret h3)

theorem code_soundR {Pg : Program} (hmx : Pg.follows .mixedOrders = true) {nt : Nat} {h : Hints} : ∀ (code : Code) (ac : ACode), comp Pg nt h code = some ac → CodeOk Pg nt B code ac := by
  intro code
  induction code with
  | skip =>
    intro ac hc ro T Y w0 Q r σ ρ I a w hro hw hr rl hY hd hs
    simp only [comp, Option.some.injEq] at hc; subst hc
    exact wpIn_skip (Lift.z0 ⟨r, σ, ρ, I, hd, hs, rl, hr, Ext.refl _ _ _, hw⟩)
  | region id ops draw =>
    intro ac hc ro T Y w0 Q r σ ρ I a w hro hw hr rl hY hd hs
    simp only [comp] at hc
    have pan : ∀ {z : Bool} (c : List PanicEntry) (a : Act) (w : World), a.defers = w0.ds → LiftT B w0 ρ I σ T c w → LiftP nt B w0 z ρ I σ T Q (.panic c) a w := fun c a w hd hl => ⟨[], fun _ => rfl, OkM.nil _ _, by rw [Root.mark_nil]; exact hd, by rw [Root.mark_nil]; exact hl⟩
    cases draw with
    | true =>
      simp only [if_true, Option.bind_eq_some_iff, Option.ite_none_right_eq_some, Option.some.injEq] at hc
      obtain ⟨perm, hp, es, hes, hok, rfl⟩ := hc
      obtain ⟨l1, l2⟩ := listM_get hes
      simp only [Bool.and_eq_true] at hok
      have hnd : ∀ (i : Nat) (o : Oper) (c : Call), ops[i]? = some o → o.op ≠ .defer c := fun i o c ho he => by
        have := List.all_eq_true.1 hok.2 o (List.mem_of_getElem? (i := i) (by rw [Array.getElem?_toList]; exact ho))
        simp [notDefer, he] at this
      refine dreg_soundIn (P := Env.mute ⟨Pg, T, Y⟩) (es := es) (fun _ _ _ _ h => h) hmx hok.1 hnd (fun ⟨_, _, h⟩ => h) (fun p e he => ?_) (Q := fun r σ => Q .normal (norm ((h.keep.lookup id).getD []) r) σ) (by simpa only [ACode.wp] using hw) hr rl hd hs (fun a w hl => Lift.z0 (hl.norm : Lift nt B w0 ρ I σ (Q .normal) a w)) (fun c a w hd hl => pan c a w hd hl)
      obtain ⟨x, _, hx⟩ := l2 p e he
      simp only [Option.bind_eq_some_iff, Option.map_eq_some_iff] at hx
      obtain ⟨o, ho, a', ha, rfl⟩ := hx
      exact ⟨o, ho, ha⟩
    | false =>
      simp only [Bool.false_eq_true, if_false, Option.map_eq_some_iff] at hc
      obtain ⟨l, hl, rfl⟩ := hc
      simp only [ACode.wp] at hw
      exact wpIn_region_list (rwp_soundIn (P := ⟨Pg, T, Y⟩) ops.toList l r σ ρ I a w _ hl hw hr rl hY hd hs (fun a w hl => Lift.z0 (hl.norm : Lift nt B w0 ρ I σ (Q .normal) a w)) (fun c a w hd hl => pan c a w hd hl))
  | seq x y ihx ihy =>
    intro ac hc ro T Y w0 Q r σ ρ I a w hro hw hr rl hY hd hs
    simp only [comp, Option.bind_eq_some_iff, Option.map_eq_some_iff] at hc
    obtain ⟨ax, h1, ay, h2, rfl⟩ := hc
    simp only [ACode.noD, Bool.and_eq_true] at hro
    simp only [ACode.wp] at hw
    have zx : (ACode.seq ax ay).noR = true → ax.noR = true := fun h => by simp only [ACode.noR, Bool.and_eq_true] at h; exact h.1
    have zy : (ACode.seq ax ay).noR = true → ay.noR = true := fun h => by simp only [ACode.noR, Bool.and_eq_true] at h; exact h.2
    refine wpIn_seq (wpIn_mono (ihx ax h1 ro T Y w0 _ r σ ρ I a w (hro.imp id And.left) hw hr rl hY hd hs) ?_)
    intro e a' w' hl
    have hl := hl.weak zx
    cases e with
    | normal =>
      obtain ⟨M, hM0, hM, r', σ', ρ', I', g1, g2, g3, g4, g5, g6⟩ := hl
      exact wpIn_mono (ihy ay h2 ro T Y _ Q r' σ' ρ' I' a' w' (hro.imp id And.right) g6 g4 g3 (hY.mono (Root.le_mark _ _) (g5.rle rl) g5.imm) g1 g2) fun e a w hh => (hh.weak zy |>.ext g5).join hM0 hM
    | exit id => exact hl
    | ret => exact hl
    | goto l => exact hl
    | panic c => exact hl
    | outgrown => exact hl
  | cond c x y ihx ihy =>
    intro ac hc ro T Y w0 Q r σ ρ I a w hro hw hr rl hY hd hs
    simp only [comp, Option.bind_eq_some_iff, Option.map_eq_some_iff] at hc
    obtain ⟨c', h0, ax, h1, ay, h2, rfl⟩ := hc
    simp only [ACode.noD, Bool.and_eq_true] at hro
    simp only [ACode.wp] at hw
    have zx : (ACode.cond c' ax ay).noR = true → ax.noR = true := fun h => by simp only [ACode.noR, Bool.and_eq_true] at h; exact h.1
    have zy : (ACode.cond c' ax ay).noR = true → ay.noR = true := fun h => by simp only [ACode.noR, Bool.and_eq_true] at h; exact h.2
    split at hw
    · rename_i t ht
      have hv := opd_sound rl.gok hr h0 ht
      simp only [VRel] at hv
      refine wpIn_cond hv ?_
      cases t
      · exact wpIn_mono (ihy ay h2 ro T Y w0 Q r σ ρ I a w (hro.imp id And.right) (by simpa using hw) hr rl hY hd hs) fun _ _ _ hl => hl.weak zy
      · exact wpIn_mono (ihx ax h1 ro T Y w0 Q r σ ρ I a w (hro.imp id And.left) (by simpa using hw) hr rl hY hd hs) fun _ _ _ hl => hl.weak zx
    · exact hw.elim
  | block id x ih =>
    intro ac hc ro T Y w0 Q r σ ρ I a w hro hw hr rl hY hd hs
    simp only [comp, Option.map_eq_some_iff] at hc
    obtain ⟨ax, h1, rfl⟩ := hc
    simp only [ACode.noD] at hro
    simp only [ACode.wp] at hw
    refine wpIn_block (wpIn_mono (ih ax h1 ro T Y w0 _ r σ ρ I a w hro hw hr rl hY hd hs) ?_)
    intro e a' w' hl
    cases e with
    | normal => exact hl
    | exit j =>
      simp only [Exit.inBlock]
      obtain ⟨M, hM0, hM, hl⟩ := hl
      by_cases hj : j = id
      · rw [if_pos hj]
        exact ⟨M, hM0, hM, Lift.mono hl fun r σ hq => by simpa [hj] using hq⟩
      · rw [if_neg hj]
        exact ⟨M, hM0, hM, Lift.mono hl fun r σ hq => by simpa [hj] using hq⟩
    | ret => exact hl
    | goto l => exact hl
    | panic c => exact hl
    | outgrown => exact hl
  | loop x ih =>
    intro ac hc ro T Y w0 Q r σ ρ I a w hro hw hr rl hY hd hs
    simp only [comp, Option.map_eq_some_iff] at hc
    obtain ⟨ax, h1, rfl⟩ := hc
    simp only [ACode.noD] at hro
    simp only [ACode.wp] at hw
    obtain ⟨J, n, hJ, hround⟩ := hw
    refine wpIn_loop_ghost (fun m a w => ∃ M, (ax.noR = true → M = []) ∧ OkM B w0 M ∧ Lift nt B (w0.mark M) ρ I σ (J m) a w) n (Lift.z0 ⟨_, σ, ρ, I, hd, hs, rl, hr.norm _, Ext.refl _ _ _, hJ⟩) ?_
    rintro m a' w' ⟨M, hM0, hM, r', σ', ρ', I', g1, g2, g3, g4, g5, g6⟩
    refine wpIn_mono (ih ax h1 ro T Y _ _ r' σ' ρ' I' a' w' hro (hround m r' σ' g6) g4 g3 (hY.mono (Root.le_mark _ _) (g5.rle rl) g5.imm) g1 g2) ?_
    intro e a2 w2 hl
    have hl := (hl.ext g5).join hM0 hM
    cases e with
    | normal =>
      obtain ⟨M2, hz2, hM2, r2, σ2, ρ2, I2, k1, k2, k3, k4, k5, m', hm, hj⟩ := hl
      exact ⟨m', hm, M2, hz2, hM2, _, σ2, ρ2, I2, k1, k2, k3, k4.norm _, k5, hj⟩
    | exit j => exact hl
    | ret => exact hl
    | goto l => exact hl
    | panic c => exact hl
    | outgrown => exact hl
  | exit id =>
    intro ac hc ro T Y w0 Q r σ ρ I a w hro hw hr rl hY hd hs
    simp only [comp, Option.some.injEq] at hc; subst hc
    exact wpIn_exit (Lift.z0 ⟨r, σ, ρ, I, hd, hs, rl, hr, Ext.refl _ _ _, hw⟩)
  | ret =>
    intro ac hc ro T Y w0 Q r σ ρ I a w hro hw hr rl hY hd hs
    simp only [comp, Option.some.injEq] at hc; subst hc
    exact wpIn_ret (Lift.z0 ⟨r, σ, ρ, I, hd, hs, rl, hr, Ext.refl _ _ _, hw⟩)
  | rangeFunc f ps x y ihx ihy =>
    intro ac hc
    have stuck : CodeOk Pg nt B (.rangeFunc f ps x y) (.reg [] [⟨none, .op .stuck, none⟩]) := by
      intro ro T Y w0 Q r σ ρ I a w hro hw hr rl hY hd hs
      simp [ACode.wp, rwp, AIns.wp, AOp.mapM, evalV] at hw
    simp only [comp] at hc
    split at hc
    · rename_i f' ax ay h1 h2 h3
      split at hc
      · rename_i hok
        injection hc with hc; subst hc
        simp only [Bool.and_eq_true] at hok
        exact rangef_sound (ihx ax h2) (ihy ay h3) hok.1.2 hok.2 h1 (fun p hp => by simpa using List.all_eq_true.1 hok.1.1 p hp)
      · injection hc with hc; subst hc; exact stuck
    · injection hc with hc; subst hc; exact stuck
  | scope x _ => intro ac hc; simp [comp] at hc
  | label l => intro ac hc; simp [comp] at hc
  | goto l => intro ac hc; simp [comp] at hc
  | refuse l => intro ac hc; simp [comp] at hc

theorem code_sound {P : Env} (hmx : P.prog.follows .mixedOrders = true) {nt : Nat} {h : Hints} (code : Code) (ac : ACode) (hc : comp P.prog nt h code = some ac) (Q : Post) (r : Regs) (σ : St) (ρ : Rho) (I : Imm) (a : Act) (w : World)
    (hz : ac.noR = true) (hw : ac.wp P Q r σ) (hr : RegsRel ρ I r a.tmps) (rl : Rel B w0 ρ I σ w) (hY : YOk P B w0 ρ I) (hd : a.defers = w0.ds) (hs : a.tmps.size = nt) : code.wp P.prog (LiftP0 nt B w0 ρ I σ P.thr Q) a w :=
  wpIn_wide.1 (wpIn_mono (code_soundR hmx code ac hc none P.thr P.yld w0 Q r σ ρ I a w (.inl rfl) hw hr rl hY hd hs) fun _ _ _ hl => (hl.weak (fun _ => hz)).zero)

end

section
variable {P : Env} {B : Nat} {w0 : Root}

/-! ### Functions -/

inductive ARes where
  | t (n : Nat)
  | c1 (n : Nat)
  | cn (n k : Nat)

def compRes (P : Program) : ResultVar → Option ARes
  | .tmp t => some (.t t)
  | .cell a ty => (P.underlying ty).bind fun d => if isAggD d then (P.info? ty).map fun i => .cn a i.size else some (.c1 a)

def resOne (r : Regs) (σ : St) : ARes → Option AVal
  | .t n => r.lookup n
  | .c1 n => (r.lookup n).bind (load1 σ)
  | .cn n k => (r.lookup n).bind fun x => (loadL σ k x).map .agg

def resA (r : Regs) (σ : St) (rs : List ARes) : Option AVal :=
  (listM (resOne r σ) rs).map fun
    | [v] => v
    | vs => .tup vs

def argR : Nat → List AVal → Regs
  | _, [] => []
  | n, v :: vs => (n, v) :: argR (n + 1) vs

def retPost (rs : List ARes) (Q : AVal → St → Prop) : Post := fun e r σ => match e with
  | .exit _ => False
  | _ => match resA r σ rs with
    | some v => Q v σ
    | none => False

theorem resOne_sound {ρ : Rho} {I : Imm} {σ : St} {w : World} {r : Regs} {tmps : Array Value} (hr : RegsRel ρ I r tmps) (rl : Rel B w0 ρ I σ w) {x : ResultVar} {x' : ARes} {v : AVal} (hc : compRes P.prog x = some x') (hv : resOne r σ x' = some v) :
    ∃ cv, (match x with
      | .tmp t => pure (tmps.getD t undef)
      | .cell a t => do loadVar t (← asAddr (tmps.getD a undef)) : Sem Value).run P.prog w = .ok cv w ∧ VRel ρ I v cv := by
  have get : ∀ n u, r.lookup n = some u → VRel ρ I u (tmps.getD n undef) := by
    intro n u hu
    obtain ⟨cv, h1, h2⟩ := hr n u hu
    rw [Array.getD_eq_getD_getElem?, h1]; exact h2
  cases x with
  | tmp t =>
    simp only [compRes, Option.some.injEq] at hc; subst hc
    exact ⟨_, rfl, get t v hv⟩
  | cell a ty =>
    simp only [compRes, Option.bind_eq_some_iff] at hc
    obtain ⟨d, hd, hc⟩ := hc
    have addr : ∀ {u : AVal} {cs : List AVal}, PCells σ u = some cs → VRel ρ I u (tmps.getD a undef) → (loadVar ty (match tmps.getD a undef with | .pointer (some x) => x | _ => ⟨0, 0, none⟩)).run P.prog w = (do loadVar ty (← asAddr (tmps.getD a undef)) : Sem Value).run P.prog w ∧ (Instr.loadAt ty (tmps.getD a undef)).run P.prog w = (do loadVar ty (← asAddr (tmps.getD a undef)) : Sem Value).run P.prog w := by
      intro u cs hcs hu
      obtain ⟨ad, h1, _, _⟩ := rl.pcells hcs hu
      rw [h1]
      exact ⟨by simp [asAddr], by simp [asAddr, Instr.loadAt, Instr.sureAddr]⟩
    split at hc
    · rename_i ha
      simp only [Option.map_eq_some_iff] at hc
      obtain ⟨i, hi, rfl⟩ := hc
      simp only [resOne, Option.bind_eq_some_iff, Option.map_eq_some_iff] at hv
      obtain ⟨u, hu, cs, hl, rfl⟩ := hv
      obtain ⟨cs', p1, _, _⟩ := loadL_pcells hl
      obtain ⟨cv, g1, g2⟩ := ldn_sound (P := P.prog) rl hl (get a u hu) ty d hd ha i hi rfl
      exact ⟨cv, by rw [← (addr p1 (get a u hu)).2]; exact g1, g2⟩
    · rename_i ha
      injection hc with hc; subst hc
      simp only [resOne, Option.bind_eq_some_iff] at hv
      obtain ⟨u, hu, hl⟩ := hv
      obtain ⟨cs', p1, _⟩ := load1_pcells hl
      obtain ⟨cv, g1, g2⟩ := ld1_sound (P := P.prog) rl hl (get a u hu) ty d hd (by simpa using ha)
      exact ⟨cv, by rw [← (addr p1 (get a u hu)).2]; exact g1, g2⟩

theorem res_sound {ρ : Rho} {I : Imm} {σ : St} {w : World} {r : Regs} {tmps : Array Value} (hr : RegsRel ρ I r tmps) (rl : Rel B w0 ρ I σ w) {fn : Func} {rs : List ARes} {v : AVal} (hc : listM (compRes P.prog) fn.results.toList = some rs) (hv : resA r σ rs = some v) :
    ∃ cv, (results fn tmps).run P.prog w = .ok cv w ∧ VRel ρ I v cv := by
  simp only [resA, Option.map_eq_some_iff] at hv
  obtain ⟨vs, hvs, hv⟩ := hv
  have key : ∀ (l : List ResultVar) (rs : List ARes) (vs : List AVal), listM (compRes P.prog) l = some rs → listM (resOne r σ) rs = some vs →
      ∃ cvs : List Value, cvs.length = vs.length ∧ CRel ρ I vs (fun j => cvs[j]?) ∧ (l.mapM fun
        | .tmp t => pure (tmps.getD t undef)
        | .cell a t => do loadVar t (← asAddr (tmps.getD a undef)) : Sem (List Value)).run P.prog w = .ok cvs w := by
    intro l
    induction l with
    | nil =>
      intro rs vs h1 h2
      simp only [listM, Option.some.injEq] at h1; subst h1
      simp only [listM, Option.some.injEq] at h2; subst h2
      exact ⟨[], rfl, trivial, by simp⟩
    | cons x l ih =>
      intro rs vs h1 h2
      simp only [listM, Option.bind_eq_some_iff, Option.map_eq_some_iff] at h1
      obtain ⟨x', h3, rs', h4, rfl⟩ := h1
      simp only [listM, Option.bind_eq_some_iff, Option.map_eq_some_iff] at h2
      obtain ⟨u, h5, us, h6, rfl⟩ := h2
      obtain ⟨cv, g1, g2⟩ := resOne_sound (P := P.prog) hr rl h3 h5
      obtain ⟨cvs, g3, g4, g5⟩ := ih rs' us h4 h6
      refine ⟨cv :: cvs, by simp [g3], ?_, ?_⟩
      · simp only [CRel]; exact ⟨⟨cv, by simp, g2⟩, by simpa using g4⟩
      · simp only [List.mapM_cons, Sem.run_bind, g1, Result.andThen_ok, g5, Sem.run_pure]
  obtain ⟨cvs, g1, g2, g3⟩ := key _ rs vs hc hvs
  have hrun : (results fn tmps).run P.prog w = .ok (if h : cvs.toArray.size = 1 then cvs.toArray[0] else .tuple cvs.toArray) w := by
    simp only [results, Sem.run_bind, Array.mapM_eq_mapM_toList, Sem.run_map, Sem.run_pure]
    exact congrArg (fun x : Result (List Value) => (x.andThen fun a w' => Result.ok a.toArray w').andThen fun a w' => Result.ok (if h : a.size = 1 then a[0] else Value.tuple a) w') g3
  rw [hrun]
  match vs, hv, g1, g2 with
  | [u], hv, g1, g2 =>
    match cvs, g1, g2 with
    | [cu], _, g2 =>
      subst hv
      simp only [CRel] at g2
      obtain ⟨⟨x, hx, hx2⟩, _⟩ := g2
      simp at hx; subst hx
      exact ⟨cu, by simp, hx2⟩
  | [], hv, g1, g2 =>
    subst hv
    refine ⟨.tuple cvs.toArray, ?_, by simp only [VRel]; exact ⟨_, rfl, by simpa using g1, trivial⟩⟩
    rw [dif_neg (by simp [g1])]
  | u :: u' :: us, hv, g1, g2 =>
    subst hv
    refine ⟨.tuple cvs.toArray, ?_, by simp only [VRel]; exact ⟨_, rfl, by simpa using g1, by simpa using g2⟩⟩
    rw [dif_neg (by simp [g1])]

theorem argR_lookup : ∀ (args : List AVal) (n t : Nat) (v : AVal), (argR n args).lookup t = some v → n ≤ t ∧ args[t - n]? = some v
  | [], n, t, v, h => by simp [argR] at h
  | x :: xs, n, t, v, h => by
    simp only [argR, List.lookup] at h
    by_cases e : t = n
    · subst e; simp at h; subst h; exact ⟨Nat.le_refl _, by simp⟩
    · have : (t == n) = false := by simpa using e
      rw [this] at h
      obtain ⟨h1, h2⟩ := argR_lookup xs (n + 1) t v h
      refine ⟨by omega, ?_⟩
      have : t - n = (t - (n + 1)) + 1 := by omega
      rw [this, List.getElem?_cons_succ]; exact h2

theorem ACall.of_body (hmx : P.prog.follows .mixedOrders = true) {f : FuncId} {fn : Func} {code : Code} {ac : ACode} {rs : List ARes} {h : Hints} {args : List AVal} {σ : St} {Q : AVal → St → Prop} (hent : Enterable P.prog f) (hf : P.prog.funcs[f]? = some fn) (hb : fn.body = some code)
    (hc : comp P.prog fn.ntmps h code = some ac) (hrs : listM (compRes P.prog) fn.results.toList = some rs) (hn : args.length ≤ fn.ntmps) (hw : ac.wp P (retPost rs Q) (argR 0 args) σ) : ACall P f args σ Q := by
  refine ⟨hent, fun B w0 ρ I w cargs rl hY hsz hargs => (callsIn_wide (n := 0)).1 (callsIn_of_wp_marks hf hb trivial ?_)⟩
  refine wpIn_mono (code_soundR (B := B) hmx code ac hc none P.thr P.yld { w0 with ds := [] } _ _ σ ρ I _ w (.inl rfl) hw ?_ (rl.atDs []) (hY.mono (.ds _ _) (.refl _) (.refl _)) rfl ?_) ?_
  · intro t v hv
    obtain ⟨_, h2⟩ := argR_lookup args 0 t v hv
    rw [Nat.sub_zero] at h2
    obtain ⟨u, h3, h4⟩ := hargs.get t v h2
    have hlt := (Array.getElem?_eq_some_iff.1 h3).1
    exact ⟨u, by rw [Array.getElem?_append_left hlt]; exact h3, h4⟩
  · simp; omega
  · intro e a w' hl
    have key : (∃ M, (ac.noR = true → M = []) ∧ OkM B { w0 with ds := [] } M ∧ Lift fn.ntmps B (Root.mark { w0 with ds := [] } M) ρ I σ (fun r σ => match resA r σ rs with | some v => Q v σ | none => False) a w') →
        LeavesInM Fence.wide 0 P.prog fn a.tmps (fun e w' => RetOf B w0 ρ I σ Q e w' ∨ ∃ chain, e = .panicked chain ∧ LiftT B w0 ρ I σ P.thr chain w') a.defers .returning w' := by
      rintro ⟨M, _, hM, r, σ', ρ', I', g1, g2, g3, g4, g5, g6⟩
      rw [g1]
      refine leaves_marks (by simp) rfl M w' hM g3 fun w2 g3 => ?_
      split at g6
      · rename_i v hv
        obtain ⟨cv, k1, k2⟩ := res_sound (P := P) g4 g3.ofDs hrs hv
        exact ⟨cv, k1, .inl ⟨v, σ', ρ', I', cv, rfl, k2, g3.ofDs, g5, g6⟩⟩
      · exact g6.elim
    cases e with
    | normal => exact key hl
    | ret => exact key hl
    | exit id =>
      obtain ⟨M, _, hM, r, σ', ρ', I', g1, g2, g3, g4, g5, g6⟩ := hl
      exact g6.elim
    | goto l => exact (hl : False).elim
    | panic c =>
      obtain ⟨M, _, hM, hd, v, σ', ρ', I', cv, g1, g2, g3, g4, g5⟩ := hl
      show LeavesInM _ _ _ _ _ _ _ _ _
      rw [hd]
      refine leaves_marks (by simp) rfl M w' hM g3 fun w2 g3 => ?_
      exact .inr ⟨c, rfl, v, σ', ρ', I', cv, g1, g2, g3.ofDs, g4, g5⟩
    | outgrown => exact (hl : False).elim

/-- A function's code and results. -/
def compF (P : Program) (fn : Func) (h : Hints) : Option (ACode × List ARes) :=
  fn.body.bind fun c => (comp P fn.ntmps h c).bind fun ac => (listM (compRes P) fn.results.toList).map fun rs => (ac, rs)

theorem ACall.of_compF (hmx : P.prog.follows .mixedOrders = true) {f : FuncId} {fn : Func} {ac : ACode} {rs : List ARes} {h : Hints} (hent : Enterable P.prog f) (hf : P.prog.funcs[f]? = some fn) (hc : compF P.prog fn h = some (ac, rs)) {n : Nat} (hn : n ≤ fn.ntmps) {args : List AVal} {σ : St} {Q : AVal → St → Prop} (hl : args.length = n)
    (hw : ac.wp P (retPost rs Q) (argR 0 args) σ) : ACall P f args σ Q := by
  simp only [compF, Option.bind_eq_some_iff, Option.map_eq_some_iff] at hc
  obtain ⟨c, h1, ac', h2, rs', h3, h4⟩ := hc
  cases h4
  exact ACall.of_body hmx hent hf h1 h2 h3 (by omega) hw

end
end Go.Proofs.Ytopagbaokokjdaa.AM

/- A law's arguments vls the abstract machine's values; what the machine says of a law, said of the world. -/
namespace Go.Proofs.Ytopagbaokokjdaa.AM
open Go.RowKit Go.ChangeShapes Go.WideShapes
set_option linter.unusedVariables false
set_option linter.unusedSimpArgs false

def immOf (w : World) : Imm := fun k => match w.heap[k]? with
  | some (.cells c _ _) => some c
  | _ => none

theorem icell_immOf (w : World) (a : Addr) : icell (immOf w) a = w.cell? a := by
  unfold icell immOf World.cell?
  cases h : w.heap[a.block]? with
  | none => simp
  | some o => cases o <;> simp

/-- What a variable that never changes holds. -/
def gl (g : Nat) : List AVal := ((gloRaw g).getD []).map fun (n : Nat) => AVal.int .u8 (n : Int)

abbrev σ0 : St := ⟨⟨[]⟩, 0⟩
abbrev ρ0 : Rho := fun _ => none

theorem rel0 (w : World) (hG : GOk (immOf w)) : Rel w.heap.size ⟨w, fun _ => True, [], fun _ => False⟩ ρ0 (immOf w) σ0 w where
  low := ⟨Below.refl _ _, fun b h => h.elim, Nat.le_refl _⟩
  base := Nat.le_refl _
  blk a p b h := by cases h
  inj a a' p p' b b' h := by cases h
  imm' := ⟨(fun b c h => by
    unfold immOf at h
    split at h
    · rename_i c' e fr hh; cases h; exact ⟨e, fr, hh⟩
    · cases h), hG⟩
  sep a p b h := by cases h
  new a p b h := by cases h
  lt a p h := by cases h
  dom a _ := rfl
  memdom a _ := rfl
  ilow _ _ _ _ := trivial

theorem law_of_acall {P : Program} {f : FuncId} {args : List AVal} (h : ACall P f args σ0 fun v _ => v = .bool true) {W : World} {cargs : Array Value} (hs : cargs.size = args.length) (ha : CRel ρ0 (immOf W) args (fun j => cargs[j]?)) (hG : GOk (immOf W) := by first | assumption | (intro g cs h; simp [gloTab, gloRaw] at h; done)) :
    Calls P f cargs W fun e W' => e = .returned (.bool true) ∧ Below W.heap.size W W' :=
  (h.calls _ _ _ _ W cargs (rel0 W hG) hs ha).mono fun e w' ⟨v, σ', ρ', I', cv, h1, h2, h3, h4, h5⟩ => by
    subst h5
    simp only [VRel] at h2; subst h2
    exact ⟨h1, h3.low.below⟩

/-- All weights of a datum are within the form's reach. -/
def WOk {H : Type} (P : Program) (t : TypeId) (d : DataW H) : Prop := ∀ n ∈ d.weights P t, n ≤ reachBytes

/-- Whatever reads vls a datum of type t is such cells. -/
def Opens (P : Program) (t : TypeId) (ok : List AVal → Prop) : Prop :=
  ∀ (H : Type) (enc : TypeId × Value → H) (w : World) (base : Nat) (spare : Nat → Bool) (held : Bool) (fuel : Nat) (cs : List Value) (x : DataW H × List MemPlace),
    DataW.trod enc P w base spare held fuel t cs = some x → WOk P t x.1 → ∃ vls : List AVal, vls.length = cs.length ∧ vls.all AVal.one = true ∧ CRel ρ0 (immOf w) vls (fun j => cs[j]?) ∧ ok vls

section
variable {P : Program} {t : TypeId}

theorem opens_int {k : IntKind} (ht : P.underlying t = some (.int k)) : Opens P t (fun vls => ∃ n, vls = [.int k n] ∧ (Lit.int k n).wf = true) := by
  intro H enc w base spare held fuel cs x h _
  obtain ⟨n, rfl, _, hw⟩ := DataW.trod_int ht h
  exact ⟨[.int k n], rfl, rfl, by simp [CRel, VRel], n, rfl, hw⟩

theorem opens_bool (ht : P.underlying t = some .bool) : Opens P t (fun vls => ∃ b, vls = [.bool b]) := by
  intro H enc w base spare held fuel cs x h _
  obtain ⟨n, rfl, _⟩ := DataW.trod_bool ht h
  exact ⟨[.bool n], rfl, rfl, by simp [CRel, VRel], n, rfl⟩

theorem opens_string (ht : P.underlying t = some .string) : Opens P t (fun vls => ∃ s : ByteArray, vls = [.str s] ∧ s.size ≤ 140737488351232) := by
  intro H enc w base spare held fuel cs x h hw
  obtain ⟨s, rfl, rfl, _⟩ := DataW.trod_string ht h
  refine ⟨[.str s], rfl, rfl, by simp [CRel, VRel], s, rfl, ?_⟩
  have := hw s.data.toList.length (by simp [DataW.weights])
  rw [Array.length_toList] at this
  exact this

/-- Fields from the offset o on. -/
def OpensF (P : Program) (n : Nat) (fs : List Field) (o : Nat) (ok : List AVal → Prop) : Prop :=
  ∀ (H : Type) (enc : TypeId × Value → H) (w : World) (base : Nat) (spare : Nat → Bool) (held : Bool) (m : Nat) (cs : List Value) (ys : List (DataW H × List MemPlace)), cs.length = n → ys.length = fs.length →
    (∀ (i : Nat) (f : Field), fs[i]? = some f → DataW.trod enc P w base spare held m f.type ((cs.drop (f.offset - o)).take (P.cellsOf f.type)) = ys[i]?) →
    (∀ m ∈ DataW.weightsEach P (fs.map (·.type)) (ys.map (·.1)), m ≤ reachBytes) → ∃ vls : List AVal, vls.length = cs.length ∧ vls.all AVal.one = true ∧ CRel ρ0 (immOf w) vls (fun j => cs[j]?) ∧ ok vls

theorem opensF_one {n : Nat} {f : Field} {o : Nat} {ok : List AVal → Prop} (h : Opens P f.type ok) (ho : f.offset = o) (hc : P.cellsOf f.type = n) : OpensF P n [f] o ok := by
  intro H enc w base spare held m cs ys hl hy hf hw
  match ys, hy with
  | [y], _ =>
    have h1 := hf 0 f rfl
    rw [ho, Nat.sub_self, List.drop_zero, hc, List.take_of_length_le (by omega)] at h1
    exact h H enc w base spare held m cs y h1 (fun m hm => hw m (by simp [DataW.weightsEach, hm]))

theorem CRel.append {ρ : Rho} {I : Imm} {vls bs : List AVal} {cs : List Value} (h1 : CRel ρ I vls (fun j => (cs.take vls.length)[j]?)) (h2 : CRel ρ I bs (fun j => (cs.drop vls.length)[j]?)) : CRel ρ I (vls ++ bs) (fun j => cs[j]?) := by
  refine CRel.mk fun j v hv => ?_
  by_cases hj : j < vls.length
  · rw [List.getElem?_append_left hj] at hv
    obtain ⟨u, k1, k2⟩ := h1.get j v hv
    exact ⟨u, by rw [List.getElem?_take, if_pos hj] at k1; exact k1, k2⟩
  · rw [List.getElem?_append_right (by omega)] at hv
    obtain ⟨u, k1, k2⟩ := h2.get _ v hv
    exact ⟨u, by rw [List.getElem?_drop, show vls.length + (j - vls.length) = j by omega] at k1; exact k1, k2⟩

theorem opensF_cons {n m : Nat} {f : Field} {fs : List Field} {o : Nat} {ok ok' : List AVal → Prop} (h : Opens P f.type ok) (ho : f.offset = o) (hc : P.cellsOf f.type = n)
    (hle : (fs.all fun g => decide (o + n ≤ g.offset)) = true) (hr : OpensF P m fs (o + n) ok') : OpensF P (n + m) (f :: fs) o (fun x => ∃ a b, x = a ++ b ∧ ok a ∧ ok' b) := by
  intro H enc w base spare held k cs ys hl hy hf hw
  match ys, hy with
  | y :: ys, hy =>
    have h1 := hf 0 f rfl
    rw [ho, Nat.sub_self, List.drop_zero, hc] at h1
    obtain ⟨a, ha1, ha2, ha3, hoa⟩ := h H enc w base spare held k _ y h1 (fun m hm => hw m (by simp [DataW.weightsEach, hm]))
    obtain ⟨b, hb1, hb2, hb3, hob⟩ := hr H enc w base spare held k (cs.drop n) ys (by rw [List.length_drop]; omega) (by simpa using hy) (fun i g hg => by
      have h2 := hf (i + 1) g (by simpa using hg)
      have h3 := of_decide_eq_true (List.all_eq_true.1 hle g (List.mem_of_getElem? hg))
      rw [List.drop_drop, show n + (g.offset - (o + n)) = g.offset - o by omega]
      simpa using h2) (fun m hm => hw m (by simp [DataW.weightsEach, hm]))
    have han : a.length = n := by rw [ha1, List.length_take]; omega
    refine ⟨a ++ b, by rw [List.length_append, han, hb1, List.length_drop]; omega, by rw [List.all_append, ha2, hb2]; rfl, CRel.append (by rw [han]; exact ha3) (by rw [han]; exact hb3), a, b, rfl, hoa, hob⟩

theorem opens_struct {fs : Array Field} {n : Nat} (ht : P.underlying t = some (.struct fs)) (hc : P.cellsOf t = n) {ok : List AVal → Prop} (h : OpensF P n fs.toList 0 ok) : Opens P t ok := by
  intro H enc w base spare held fuel cs x hx hw
  obtain ⟨ys, m, _, rfl, hl, hyl, hf⟩ := DataW.trod_struct ht hx
  exact h H enc w base spare held m cs ys (by rw [hl, hc]) (by simpa using hyl) (fun i f hif => by
    have := hf i f (by simpa using hif)
    simpa using this) (fun m hm => hw m (by simp only [DataW.weights, ht]; exact hm))

theorem list_of {α : Type} {n : Nat} {p : Nat → α → Prop} (h : ∀ i, i < n → ∃ x, p i x) : ∃ l : List α, l.length = n ∧ ∀ i x, l[i]? = some x → p i x := by
  induction n with
  | zero => exact ⟨[], rfl, fun i x hx => by simp at hx⟩
  | succ n ih =>
    obtain ⟨l, hl, hp⟩ := ih fun i hi => h i (by omega)
    obtain ⟨y, hy⟩ := h n (by omega)
    refine ⟨l ++ [y], by simp [hl], fun i x hx => ?_⟩
    rcases Nat.lt_or_ge i l.length with hlt | hge
    · rw [List.getElem?_append_left hlt] at hx; exact hp i x hx
    · rw [List.getElem?_append_right hge] at hx
      have hi : i - l.length = 0 := by
        rcases Nat.eq_zero_or_pos (i - l.length) with h0 | h0
        · exact h0
        · rw [List.getElem?_eq_none (by simp; omega)] at hx; cases hx
      rw [hi] at hx
      simp only [List.getElem?_cons_zero, Option.some.injEq] at hx
      subst hx
      have : i = n := by omega
      subst this; exact hy

theorem weightsAll_mem {H : Type} {e : TypeId} : ∀ {l : List (DataW H)} {i : Nat} {d : DataW H}, l[i]? = some d → ∀ m ∈ d.weights P e, m ∈ DataW.weightsAll P e l
  | d0 :: l, 0, d, h, m, hm => by
    simp only [List.getElem?_cons_zero, Option.some.injEq] at h
    subst h
    simp [DataW.weightsAll, hm]
  | d0 :: l, i + 1, d, h, m, hm => by
    simp only [List.getElem?_cons_succ] at h
    simp only [DataW.weightsAll, List.mem_append]
    exact .inr (weightsAll_mem h m hm)

theorem flatten_get {α : Type} {n : Nat} : ∀ {xs : List (List α)}, (∀ x ∈ xs, x.length = n) → ∀ j, xs.flatten[j]? = if 0 < n then (xs[j / n]?).bind fun x => x[j % n]? else none
  | [], _, j => by simp
  | x :: xs, h, j => by
    have hx := h x (by simp)
    by_cases hn : 0 < n
    · rw [if_pos hn, List.flatten_cons]
      by_cases hj : j < n
      · rw [List.getElem?_append_left (by omega), Nat.div_eq_of_lt hj, Nat.mod_eq_of_lt hj]; simp
      · rw [List.getElem?_append_right (by omega), hx, flatten_get (fun y hy => h y (by simp [hy])), if_pos hn]
        have : j / n = (j - n) / n + 1 := by rw [Nat.div_eq_sub_div hn (by omega)]
        rw [this, List.getElem?_cons_succ, ← Nat.mod_eq_sub_mod (by omega)]
    · have hn0 : n = 0 := by omega
      rw [if_neg hn]
      have : (x :: xs).flatten = [] := by
        rw [List.flatten_eq_nil_iff]
        intro y hy
        exact List.eq_nil_of_length_eq_zero (by rw [h y hy, hn0])
      rw [this]; simp

theorem length_flatten {α : Type} {n : Nat} : ∀ {xs : List (List α)}, (∀ x ∈ xs, x.length = n) → xs.flatten.length = xs.length * n
  | [], _ => by simp
  | x :: xs, h => by rw [List.flatten_cons, List.length_append, h x (by simp), length_flatten (fun y hy => h y (by simp [hy])), List.length_cons, Nat.add_mul]; omega

/-- A slice: nil, or one that does not change. -/
theorem opens_slice {e : TypeId} {n b : Nat} {ok : List AVal → Prop} (ht : P.underlying t = some (.slice e)) (hc : P.cellsOf e = n) (hb : P.bytesOf e = b) (h : Opens P e ok) :
    Opens P t (fun vls => vls = [.nilsl] ∨ ∃ xs : List (List AVal), vls = [.isl xs.flatten xs.length false] ∧ (∀ x ∈ xs, x.length = n ∧ ok x) ∧ xs.length ≤ 9223372036854775807 ∧ xs.length * b ≤ 140737488351232) := by
  intro H enc w base spare held fuel cs x hx hw
  rcases DataW.trod_slice ht hx with ⟨rfl, rfl⟩ | ⟨a, len, cap, elems, rest, m, _, rfl, rfl, hbb, hl, hm, hlen, hel, _, _⟩
  · exact ⟨[.nilsl], rfl, rfl, by simp [CRel, VRel], .inl rfl⟩
  · have hel' : ∀ i, i < len → ∃ y : List AVal, y.length = n ∧ y.all AVal.one = true ∧ CRel ρ0 (immOf w) y (fun j => w.cell? (a.add (i * n + j))) ∧ ok y := by
      intro i hi
      have h1 := hel i hi
      rw [List.getElem?_eq_getElem (by omega)] at h1
      obtain ⟨c, h2, h3⟩ := Option.bind_eq_some_iff.1 h1
      obtain ⟨_, hcl, hcc⟩ := World.cells?_some h2
      obtain ⟨y, hy1, hy2, hy3, hoy⟩ := h H enc w base spare held m c _ h3 (fun m hm' => hw m (by
        simp only [DataW.weights, ht, List.mem_cons, List.mem_append]
        refine .inr (.inl (weightsAll_mem (i := i) ?_ m hm'))
        rw [List.getElem?_map, List.getElem?_eq_getElem (by omega)]; rfl))
      refine ⟨y, by rw [hy1, hcl, hc], hy2, hy3.congr fun j hj => ?_, hoy⟩
      have h4 := hcc j (by rw [← hcl, ← hy1]; exact hj)
      rw [Go.Deep.add_add, hc] at h4
      exact h4.symm
    obtain ⟨xs, hxl, hp⟩ := list_of hel'
    have hall : ∀ x ∈ xs, x.length = n := fun x hx => by
      obtain ⟨i, hi⟩ := List.mem_iff_getElem?.1 hx
      exact (hp i x hi).1
    have h5 := hw _ (by simp only [DataW.weights, ht, List.mem_cons]; exact .inl rfl)
    rw [List.length_map, List.length_map, hlen] at h5
    refine ⟨[.isl xs.flatten xs.length false], rfl, rfl, ?_, .inr ⟨xs, rfl, fun x hx => ?_, ?_, ?_⟩⟩
    · simp only [CRel, VRel]
      refine ⟨⟨_, rfl, a, cap, by rw [hxl], by omega, by omega, (fun hh => by cases hh), ?_, ?_⟩, trivial⟩
      · rw [List.all_eq_true]; intro y hy
        obtain ⟨l, hl1, hl2⟩ := List.mem_flatten.1 hy
        obtain ⟨i, hi⟩ := List.mem_iff_getElem?.1 hl1
        exact List.all_eq_true.1 (hp i l hi).2.1 y hl2
      · refine CRel.mk fun j v hv => ?_
        rw [flatten_get hall] at hv
        split at hv
        · rename_i hn
          obtain ⟨x, hx1, hx2⟩ := Option.bind_eq_some_iff.1 hv
          obtain ⟨_, _, h6, _⟩ := hp _ x hx1
          obtain ⟨u, h7, h8⟩ := h6.get _ v hx2
          refine ⟨u, ?_, h8⟩
          rw [icell_immOf, ← h7]
          congr 2
          rw [Nat.mul_comm]; exact (Nat.div_add_mod j n).symm
        · cases hv
    · obtain ⟨i, hi⟩ := List.mem_iff_getElem?.1 hx
      exact ⟨(hp i x hi).1, (hp i x hi).2.2.2⟩
    · unfold maxLen at hm; omega
    · rw [hxl, ← hb]
      exact Nat.le_trans (Nat.mul_le_mul_right _ (Nat.le_add_right _ _)) h5

/-- Of the row's weights: one argument's. -/
theorem wok_of {H : Type} {ts : List TypeId} {ds : List (DataW H)} (hsz : (DataW.weightsEach P ts ds).all (· ≤ reachBytes) = true) {j : Nat} {d : DataW H} (ht : ts[j]? = some t) (hd : ds[j]? = some d) : WOk P t d := fun n hn => by
  simpa using List.all_eq_true.1 hsz _ (DataW.weights_mem_each ht hd n hn)

/-- An argument of one cell. -/
theorem top_one {H : Type} {enc : TypeId × Value → H} {w : World} {base : Nat} {spare : Nat → Bool} {held : Bool} {ok : List AVal → Prop} {v : Value} {d : DataW H} {ps : List MemPlace} (hO : Opens P t ok) (hv : v.cells = #[v]) (h : DataW.Trod enc P w base spare held t v d ps) (hw : WOk P t d) :
    ∃ a, ok [a] ∧ VRel ρ0 (immOf w) a v := by
  obtain ⟨fuel, hf⟩ := h
  rw [hv] at hf
  obtain ⟨vls, h1, h2, h3, h4⟩ := hO H enc w base spare held fuel _ _ hf hw
  match vls, h1 with
  | [a], _ =>
    simp only [CRel] at h3
    obtain ⟨⟨u, h5, h6⟩, _⟩ := h3
    simp at h5; subst h5
    exact ⟨a, h4, h6⟩

/-- A struct. -/
theorem top_agg {H : Type} {enc : TypeId × Value → H} {w : World} {base : Nat} {spare : Nat → Bool} {held : Bool} {ok : List AVal → Prop} {arr : Array Value} {d : DataW H} {ps : List MemPlace} (hO : Opens P t ok) (h : DataW.Trod enc P w base spare held t (.agg arr) d ps) (hw : WOk P t d) :
    ∃ vls, ok vls ∧ VRel ρ0 (immOf w) (.agg vls) (.agg arr) := by
  obtain ⟨fuel, hf⟩ := h
  obtain ⟨vls, h1, h2, h3, h4⟩ := hO H enc w base spare held fuel _ _ hf hw
  refine ⟨vls, h4, ?_⟩
  simp only [VRel]
  exact ⟨arr, rfl, by simpa [Value.cells] using h1.symm, h2, by simpa [Value.cells] using h3⟩

end
end Go.Proofs.Ytopagbaokokjdaa.AM

/- Closed runs of the abstract machine: what is computed from given values alone. -/
namespace Go.Proofs.Ytopagbaokokjdaa.AM
set_option linter.unusedVariables false
set_option linter.unusedSimpArgs false

mutual
def AVal.same : AVal → AVal → Bool
  | .int k n, .int k' n' => decide (k = k') && decide (n = n')
  | .bool a, .bool b => a == b
  | .str a, .str b => decide (a = b)
  | .ptr a o, .ptr a' o' => decide (a = a') && decide (o = o')
  | .nilp, .nilp => true
  | .iptr cs, .iptr cs' => sameL cs cs'
  | .sl a o l c t, .sl a' o' l' c' t' => decide (a = a') && decide (o = o') && decide (l = l') && decide (c = c') && t == t'
  | .nilsl, .nilsl => true
  | .isl cs l t, .isl cs' l' t' => sameL cs cs' && decide (l = l') && t == t'
  | .map a, .map b => decide (a = b)
  | .nilmap, .nilmap => true
  | .nilfn, .nilfn => true
  | .niliface, .niliface => true
  | .agg cs, .agg cs' => sameL cs cs'
  | .tup cs, .tup cs' => sameL cs cs'
  | _, _ => false
def sameL : List AVal → List AVal → Bool
  | [], [] => true
  | x :: xs, y :: ys => AVal.same x y && sameL xs ys
  | _, _ => false
end

mutual
theorem AVal.same_eq : ∀ (x y : AVal), AVal.same x y = true → x = y
  | x, y, h => by
    cases x <;> cases y <;> simp only [AVal.same, Bool.and_eq_true, decide_eq_true_eq, beq_iff_eq, Bool.false_eq_true] at h <;> (try exact h.elim) <;> (try rfl)
    all_goals first
      | (obtain ⟨rfl, rfl⟩ := h; rfl)
      | (subst h; rfl)
      | (rw [sameL_eq _ _ h])
      | (obtain ⟨⟨⟨⟨rfl, rfl⟩, rfl⟩, rfl⟩, rfl⟩ := h; rfl)
      | (obtain ⟨⟨h, rfl⟩, rfl⟩ := h; rw [sameL_eq _ _ h])
theorem sameL_eq : ∀ (x y : List AVal), sameL x y = true → x = y
  | [], [], _ => rfl
  | x :: xs, [], h => by simp [sameL] at h
  | [], y :: ys, h => by simp [sameL] at h
  | x :: xs, y :: ys, h => by
    simp only [sameL, Bool.and_eq_true] at h
    rw [AVal.same_eq x y h.1, sameL_eq xs ys h.2]
end

abbrev CallF := FuncId → List AVal → St → Option (AVal × St)

def execI (cf : CallF) (i : AIns) (r : Regs) (σ : St) : Option (AVal × St) :=
  match i with
  | .op o => (o.mapM (evalOpd r)).bind (evalV σ)
  | .pick c a b => match evalOpd r c with
    | some (.bool t) => (if t then evalOpd r a else evalOpd r b).map (·, σ)
    | _ => none
  | .call f args => match evalOpd r f with
    | some (.fn f first caps) => match listM (evalOpd r) args with
      | some vs => cf f (first ++ vs ++ caps) σ
      | none => none
    | _ => none
  | .next x => match (evalOpd r x).bind (nextC σ) with
    | some [p] => some p
    | _ => none
  | .panic _ => none

def execR (cf : CallF) : List AOper → Regs → St → Option (Regs × St)
  | [], r, σ => some (r, σ)
  | o :: rest, r, σ => match o.guard with
    | none => match execI cf o.ins r σ with
      | some (v, σ') => execR cf rest (setR r o.dst v) σ'
      | none => none
    | some (t, want) => match r.lookup t with
      | some (.bool b) => if b = want then match execI cf o.ins r σ with
          | some (v, σ') => execR cf rest (setR r o.dst v) σ'
          | none => none
        else execR cf rest (delU r o.dst) σ
      | some (.tup []) => execR cf rest (delU r o.dst) σ
      | _ => none

def histB (i : AIns) (r : Regs) (σ : St) (σ' : St) : Bool :=
  match i with
  | .op o => match o.mapM (evalOpd r) with
    | some av => match evalV σ' av, evalV σ av with
      | some (x, _), some (y, _) => AVal.same x y
      | _, _ => false
    | none => true
  | _ => true

def againB (h : List (St → Bool)) (σ : St) : List Nat → Bool
  | [] => true
  | i :: is => (match h[i]? with
    | some p => p σ
    | none => false) && againB h σ is

def execD (cf : CallF) : List (AOper × List Nat) → Regs → St → List (St → Bool) → Option (Regs × St)
  | [], r, σ, _ => some (r, σ)
  | p :: rest, r, σ, h => match p.1.guard with
    | none => match execI cf p.1.ins r σ with
      | some (v, σ') => if againB h σ' p.2 then execD cf rest (setR r p.1.dst v) σ' (h ++ [histB p.1.ins r σ]) else none
      | none => none
    | some (t, want) => match r.lookup t with
      | some (.bool b) => if b = want then match execI cf p.1.ins r σ with
          | some (v, σ') => if againB h σ' p.2 then execD cf rest (setR r p.1.dst v) σ' (h ++ [histB p.1.ins r σ]) else none
          | none => none
        else execD cf rest (delU r p.1.dst) σ (h ++ [fun _ : St => true])
      | _ => none

def loopF (body : Regs → St → Option (AExit × Regs × St)) (keep : List Nat) : Nat → Regs → St → Option (AExit × Regs × St)
  | 0, _, _ => none
  | n + 1, r, σ => match body (norm keep r) σ with
    | some (.normal, r', σ') => loopF body keep n r' σ'
    | x => x

def execC (cf : CallF) (F : Nat) : ACode → Regs → St → Option (AExit × Regs × St)
  | .skip, r, σ => some (.normal, r, σ)
  | .reg keep ops, r, σ => (execR cf ops r σ).map fun x => (.normal, norm keep x.1, x.2)
  | .dreg keep ops, r, σ => (execD cf ops r σ []).map fun x => (.normal, norm keep x.1, x.2)
  | .seq a b, r, σ => match execC cf F a r σ with
    | some (.normal, r', σ') => execC cf F b r' σ'
    | x => x
  | .cond c a b, r, σ => match evalOpd r c with
    | some (.bool true) => execC cf F a r σ
    | some (.bool false) => execC cf F b r σ
    | _ => none
  | .block id a, r, σ => match execC cf F a r σ with
    | some (.exit j, r', σ') => if j = id then some (.normal, r', σ') else some (.exit j, r', σ')
    | x => x
  | .loop keep a, r, σ => loopF (execC cf F a) keep F r σ
  | .exit id, r, σ => some (.exit id, r, σ)
  | .ret, r, σ => some (.ret, r, σ)
  | .rangef .., _, _ => none

abbrev Tab := FuncId → Option (ACode × List ARes × Nat)

def callT (T : Tab) (F : Nat) : Nat → CallF
  | 0 => fun _ _ _ => none
  | d + 1 => fun f args σ => match T f with
    | some (ac, rs, n) => if args.length = n then match execC (callT T F d) F ac (argR 0 args) σ with
        | some (.exit _, _, _) => none
        | some (_, r, σ') => (resA r σ' rs).map (·, σ')
        | none => none
      else none
    | none => none

def TabOk (P : Program) (T : Tab) : Prop := P.follows .mixedOrders = true ∧ ∀ f x, T f = some x → ∃ fn h, Enterable P f ∧ P.funcs[f]? = some fn ∧ compF P fn h = some (x.1, x.2.1) ∧ x.2.2 ≤ fn.ntmps

def CfOk (P : Program) (cf : CallF) : Prop := ∀ f args σ v σ', cf f args σ = some (v, σ') → ∀ Q : AVal → St → Prop, Q v σ' → ACall P f args σ Q

variable {P : Program} {cf : CallF}

theorem execI_wp (hcf : CfOk P cf) {i : AIns} {r : Regs} {σ σ' : St} {v : AVal} (h : execI cf i r σ = some (v, σ')) {Q : AVal → St → Prop} (hq : Q v σ') : i.wp P r σ Q := by
  cases i with
  | op o =>
    simp only [execI] at h
    simp only [AIns.wp, h]; exact hq
  | pick c a b =>
    simp only [execI] at h
    simp only [AIns.wp]
    split at h
    · rename_i t ht
      try simp only [ht]
      cases hx : (if t then evalOpd r a else evalOpd r b) with
      | none => rw [hx] at h; cases h
      | some x =>
        rw [hx] at h
        simp only [Option.map_some, Option.some.injEq, Prod.mk.injEq] at h
        obtain ⟨rfl, rfl⟩ := h
        exact hq
    · cases h
  | call f args =>
    simp only [execI] at h
    simp only [AIns.wp]
    split at h
    · rename_i g xs ys hf
      try simp only [hf]
      split at h
      · rename_i vs hvs
        try simp only [hvs]
        exact hcf _ _ _ _ _ h _ hq
      · cases h
    · cases h
  | next x =>
    simp only [execI] at h
    simp only [AIns.wp]
    split at h
    · rename_i p hp
      cases h
      rw [hp]
      intro q hq2
      simp only [List.mem_singleton] at hq2
      subst hq2
      exact hq
    · cases h
  | panic x => simp only [execI] at h; cases h

theorem execR_wp (hcf : CfOk P cf) : ∀ {ops : List AOper} {r r' : Regs} {σ σ' : St}, execR cf ops r σ = some (r', σ') → ∀ {Q : Regs → St → Prop}, Q r' σ' → rwp P ops r σ Q
  | [], r, r', σ, σ', h, Q, hq => by
    simp only [execR, Option.some.injEq, Prod.mk.injEq] at h
    obtain ⟨rfl, rfl⟩ := h
    exact hq
  | o :: rest, r, r', σ, σ', h, Q, hq => by
    simp only [execR] at h
    simp only [rwp]
    split at h
    · rename_i hg
      try simp only [hg]
      split at h
      · rename_i v σ1 h1
        exact execI_wp hcf h1 (execR_wp hcf h hq)
      · cases h
    · rename_i t want hg
      try simp only [hg]
      split at h
      · rename_i b hb
        try simp only [hb]
        split at h
        · rename_i hbw
          rw [if_pos hbw]
          split at h
          · rename_i v σ1 h1
            exact execI_wp hcf h1 (execR_wp hcf h hq)
          · cases h
        · rename_i hbw
          rw [if_neg hbw]
          exact execR_wp hcf h hq
      · rename_i hb
        try simp only [hb]
        exact execR_wp hcf h hq
      · cases h

theorem histB_of {i : AIns} {r : Regs} {σ σ' : St} (h : histB i r σ σ' = true) : histOf i r σ σ' := by
  cases i with
  | op o =>
    simp only [histB] at h
    try simp only [histOf]
    split at h
    · rename_i av hav
      try simp only [hav]
      split at h
      · rename_i x s y s' hx hy
        rw [hx, hy, AVal.same_eq _ _ h]; rfl
      · cases h
    · rename_i hn
      try simp only [hn]
  | pick c a b => trivial
  | panic x => trivial
  | call f args => trivial
  | next x => trivial

theorem againB_of {hb : List (St → Bool)} {h : Hist} (hl : h.length = hb.length) (hh : ∀ (i : Nat) (p : St → Bool) (q : St → Prop), hb[i]? = some p → h[i]? = some q → ∀ σ, p σ = true → q σ) {σ : St} : ∀ {is : List Nat}, againB hb σ is = true → again h σ is
  | [], _ => trivial
  | i :: is, hx => by
    simp only [againB, Bool.and_eq_true] at hx
    refine ⟨?_, againB_of hl hh hx.2⟩
    have h1 := hx.1
    split at h1
    · rename_i p hp
      have hlt := (List.getElem?_eq_some_iff.1 hp).1
      rw [← hl] at hlt
      rw [List.getElem?_eq_getElem hlt]
      exact hh i p _ hp (List.getElem?_eq_getElem hlt) σ h1
    · cases h1

theorem snoc_ok {hb : List (St → Bool)} {h : Hist} {p : St → Bool} {q : St → Prop} (hl : h.length = hb.length) (hh : ∀ (i : Nat) (p : St → Bool) (q : St → Prop), hb[i]? = some p → h[i]? = some q → ∀ σ, p σ = true → q σ) (hpq : ∀ σ, p σ = true → q σ) :
    (h ++ [q]).length = (hb ++ [p]).length ∧ ∀ (i : Nat) (p' : St → Bool) (q' : St → Prop), (hb ++ [p])[i]? = some p' → (h ++ [q])[i]? = some q' → ∀ σ, p' σ = true → q' σ := by
  refine ⟨by simp [hl], fun i p' q' h1 h2 => ?_⟩
  by_cases hi : i < hb.length
  · rw [List.getElem?_append_left hi] at h1
    rw [List.getElem?_append_left (by omega)] at h2
    exact hh i p' q' h1 h2
  · rw [List.getElem?_append_right (by omega)] at h1 h2
    rw [hl] at h2
    cases hk : i - hb.length with
    | zero =>
      rw [hk] at h1 h2
      simp only [List.getElem?_cons_zero, Option.some.injEq] at h1 h2
      subst h1; subst h2; exact hpq
    | succ k => rw [hk] at h1; simp at h1

theorem execD_wp (hcf : CfOk P cf) : ∀ {ops : List (AOper × List Nat)} {r r' : Regs} {σ σ' : St} {hb : List (St → Bool)} {hs : Hist}, execD cf ops r σ hb = some (r', σ') → hs.length = hb.length → (∀ (i : Nat) (p : St → Bool) (q : St → Prop), hb[i]? = some p → hs[i]? = some q → ∀ σ, p σ = true → q σ) → ∀ {Q : Regs → St → Prop}, Q r' σ' → dwp P ops r σ hs Q
  | [], r, r', σ, σ', hb, hs, h, hl, hh, Q, hq => by
    simp only [execD, Option.some.injEq, Prod.mk.injEq] at h
    obtain ⟨rfl, rfl⟩ := h
    exact hq
  | o :: rest, r, r', σ, σ', hb, hs, h, hl, hh, Q, hq => by
    simp only [execD] at h
    simp only [dwp]
    split at h
    · rename_i hg
      try simp only [hg]
      split at h
      · rename_i v σ1 h1
        split at h
        · rename_i hag
          have k := snoc_ok hl hh (p := histB o.1.ins r σ) (q := histOf o.1.ins r σ) fun _ => histB_of
          exact execI_wp hcf h1 ⟨againB_of hl hh hag, execD_wp hcf h k.1 k.2 hq⟩
        · cases h
      · cases h
    · rename_i t want hg
      try simp only [hg]
      split at h
      · rename_i b hb'
        try simp only [hb']
        split at h
        · rename_i hbw
          rw [if_pos hbw]
          split at h
          · rename_i v σ1 h1
            split at h
            · rename_i hag
              have k := snoc_ok hl hh (p := histB o.1.ins r σ) (q := histOf o.1.ins r σ) fun _ => histB_of
              exact execI_wp hcf h1 ⟨againB_of hl hh hag, execD_wp hcf h k.1 k.2 hq⟩
            · cases h
          · cases h
        · rename_i hbw
          rw [if_neg hbw]
          have k := snoc_ok hl hh (p := fun _ : St => true) (q := fun _ : St => True) fun _ _ => trivial
          exact execD_wp hcf h k.1 k.2 hq
      · cases h

theorem wp_mono' {P : Env} : ∀ {ac : ACode} {Q Q' : Post} {r : Regs} {σ : St}, ac.wp P Q r σ → (∀ e r σ, Q e r σ → Q' e r σ) → ac.wp P Q' r σ := by
  have hi : ∀ {P : Env} (i : AIns) (r : Regs) (σ : St) (Q Q' : AVal → St → Prop), i.wp P r σ Q → (∀ v σ, Q v σ → Q' v σ) → i.wp P r σ Q' := by
    intro P i r σ Q Q' h hq
    cases i with
    | op o => simp only [AIns.wp] at h ⊢; split at h <;> simp_all
    | pick c a b =>
      simp only [AIns.wp] at h ⊢
      split at h
      · split at h
        · simp_all
        · exact h.elim
      · exact h.elim
    | call f args =>
      simp only [AIns.wp] at h ⊢
      split at h
      · rename_i g xs ys hf
        split at h
        · rename_i vs hvs; exact h.mono hq
        · exact h.elim
      · split at h
        · obtain ⟨K, h1, h2⟩ := h; exact ⟨K, h1, fun v σ hk => hq _ _ (h2 v σ hk)⟩
        · exact h.elim
      · exact h.elim
    | next x =>
      simp only [AIns.wp] at h ⊢
      split at h
      · exact fun p hp => hq _ _ (h p hp)
      · exact h.elim
    | panic x => simp only [AIns.wp] at h ⊢; exact h
  have hr : ∀ (ops : List AOper) (r : Regs) (σ : St) (Q Q' : Regs → St → Prop), rwp P ops r σ Q → (∀ v σ, Q v σ → Q' v σ) → rwp P ops r σ Q' := by
    intro ops
    induction ops with
    | nil => intro r σ Q Q' h hq; exact hq _ _ h
    | cons o rest ih =>
      intro r σ Q Q' h hq
      simp only [rwp] at h ⊢
      split at h
      · rename_i hg; exact hi _ _ _ _ _ h fun v σ h => ih _ _ _ _ h hq
      · split at h
        · rename_i hb
          split at h
          · rename_i hbw; simp only [if_pos hbw]; exact hi _ _ _ _ _ h fun v σ h => ih _ _ _ _ h hq
          · rename_i hbw; simp only [if_neg hbw]; exact ih _ _ _ _ h hq
        · exact ih _ _ _ _ h hq
        · exact h.elim
  have hd : ∀ {P : Env} (ops : List (AOper × List Nat)) (r : Regs) (σ : St) (hs : Hist) (Q Q' : Regs → St → Prop), dwp P ops r σ hs Q → (∀ v σ, Q v σ → Q' v σ) → dwp P ops r σ hs Q' := by
    intro P ops
    induction ops with
    | nil => intro r σ hs Q Q' h hq; exact hq _ _ h
    | cons o rest ih =>
      intro r σ hs Q Q' h hq
      simp only [dwp] at h ⊢
      split at h
      · rename_i hg; exact hi _ _ _ _ _ h fun v σ h => ⟨h.1, ih _ _ _ _ _ h.2 hq⟩
      · split at h
        · rename_i hb
          split at h
          · rename_i hbw; simp only [if_pos hbw]; exact hi _ _ _ _ _ h fun v σ h => ⟨h.1, ih _ _ _ _ _ h.2 hq⟩
          · rename_i hbw; simp only [if_neg hbw]; exact ih _ _ _ _ _ h hq
        · exact ih _ _ _ _ _ h hq
        · exact h.elim
  intro ac
  induction ac with
  | skip => intro Q Q' r σ h hq; exact hq _ _ _ h
  | reg keep ops => intro Q Q' r σ h hq; exact hr _ _ _ _ _ h fun r σ h => hq _ _ _ h
  | dreg keep ops => intro Q Q' r σ h hq; exact hd _ _ _ _ _ _ h fun r σ h => hq _ _ _ h
  | seq a b iha ihb =>
    intro Q Q' r σ h hq
    refine iha h fun e r σ h => ?_
    cases e with
    | normal => exact ihb h hq
    | exit _ => exact hq _ _ _ h
    | ret => exact hq _ _ _ h
  | cond c a b iha ihb =>
    intro Q Q' r σ h hq
    simp only [ACode.wp] at h ⊢
    split at h
    · rename_i t ht
      cases t
      · exact ihb h hq
      · exact iha h hq
    · exact h.elim
  | block id a iha =>
    intro Q Q' r σ h hq
    refine iha h fun e r σ h => ?_
    cases e with
    | normal => exact hq _ _ _ h
    | exit j =>
      simp only at h ⊢
      split at h
      · rename_i hj; rw [if_pos hj]; exact hq _ _ _ h
      · rename_i hj; rw [if_neg hj]; exact hq _ _ _ h
    | ret => exact hq _ _ _ h
  | loop keep a iha =>
    intro Q Q' r σ h hq
    obtain ⟨J, n, h1, h2⟩ := h
    refine ⟨J, n, h1, fun m r σ hj => iha (h2 m r σ hj) fun e r σ h => ?_⟩
    cases e with
    | normal => exact h
    | exit _ => exact hq _ _ _ h
    | ret => exact hq _ _ _ h
  | exit id => intro Q Q' r σ h hq; exact hq _ _ _ h
  | ret => intro Q Q' r σ h hq; exact hq _ _ _ h
  | rangef f ps a b _ _ =>
    intro Q Q' r σ h hq
    simp only [ACode.wp] at h ⊢
    split at h
    · intro lp h1 h2
      refine (h lp h1 h2).mono fun v σ' ⟨lq, k1, k2, k3⟩ => ⟨lq, k1, k2, ?_⟩
      revert k3
      cases lq.pending with
      | none => exact fun k3 => hq _ _ _ k3
      | some c => cases c <;> first | exact fun k3 => hq _ _ _ k3 | exact fun k3 => k3
    · exact h.elim

theorem execC_wp (hcf : CfOk P cf) {F : Nat} : ∀ {ac : ACode} {r r' : Regs} {σ σ' : St} {e : AExit}, execC cf F ac r σ = some (e, r', σ') → ∀ {Q : Post}, Q e r' σ' → ac.wp P Q r σ := by
  intro ac
  induction ac with
  | skip =>
    intro r r' σ σ' e h Q hq
    simp only [execC, Option.some.injEq, Prod.mk.injEq] at h
    obtain ⟨rfl, rfl, rfl⟩ := h
    exact hq
  | reg keep ops =>
    intro r r' σ σ' e h Q hq
    simp only [execC, Option.map_eq_some_iff, Prod.mk.injEq] at h
    obtain ⟨x, hx, rfl, rfl, rfl⟩ := h
    exact execR_wp hcf hx hq
  | dreg keep ops =>
    intro r r' σ σ' e h Q hq
    simp only [execC, Option.map_eq_some_iff, Prod.mk.injEq] at h
    obtain ⟨x, hx, rfl, rfl, rfl⟩ := h
    exact execD_wp hcf hx rfl (fun i p q hp => by simp at hp) hq
  | seq a b iha ihb =>
    intro r r' σ σ' e h Q hq
    simp only [execC] at h
    simp only [ACode.wp]
    split at h
    · rename_i r1 σ1 h1
      exact iha h1 (ihb h hq)
    · rename_i hne
      refine iha h ?_
      cases e with
      | normal => exact absurd h (by intro h; exact hne _ _ h)
      | exit _ => exact hq
      | ret => exact hq
  | cond c a b iha ihb =>
    intro r r' σ σ' e h Q hq
    simp only [execC] at h
    simp only [ACode.wp]
    split at h
    · rename_i hc; simp only [hc, if_true]; exact iha h hq
    · rename_i hc; simp only [hc, Bool.false_eq_true, if_false]; exact ihb h hq
    · cases h
  | block id a iha =>
    intro r r' σ σ' e h Q hq
    simp only [execC] at h
    simp only [ACode.wp]
    split at h
    · rename_i j r1 σ1 h1
      refine iha h1 ?_
      simp only
      split at h
      · rename_i hj
        simp only [Option.some.injEq, Prod.mk.injEq] at h
        obtain ⟨rfl, rfl, rfl⟩ := h
        rw [if_pos hj]; exact hq
      · rename_i hj
        simp only [Option.some.injEq, Prod.mk.injEq] at h
        obtain ⟨rfl, rfl, rfl⟩ := h
        rw [if_neg hj]; exact hq
    · rename_i hne
      refine iha h ?_
      cases e with
      | normal => exact hq
      | exit j => exact absurd h (by intro h; exact hne _ _ _ h)
      | ret => exact hq
  | loop keep a iha =>
    intro r r' σ σ' e h Q hq
    simp only [execC] at h
    simp only [ACode.wp]
    have key : ∀ n r, loopF (execC cf F a) keep n r σ = some (e, r', σ') → True := fun _ _ _ => trivial
    refine ⟨fun n r1 σ1 => ∃ r0, r1 = norm keep r0 ∧ loopF (execC cf F a) keep n r0 σ1 = some (e, r', σ'), F, ⟨r, rfl, h⟩, ?_⟩
    rintro m r1 σ1 ⟨r0, rfl, hm⟩
    cases m with
    | zero => simp [loopF] at hm
    | succ m =>
      simp only [loopF] at hm
      split at hm
      · rename_i r2 σ2 h2
        exact iha h2 ⟨m, Nat.lt_succ_self m, r2, rfl, hm⟩
      · rename_i hne
        refine iha hm ?_
        cases e with
        | normal => exact absurd hm (by intro hm; exact hne _ _ hm)
        | exit _ => exact hq
        | ret => exact hq
  | rangef f ps a b _ _ => intro r r' σ σ' e h; simp [execC] at h
  | exit id =>
    intro r r' σ σ' e h Q hq
    simp only [execC, Option.some.injEq, Prod.mk.injEq] at h
    obtain ⟨rfl, rfl, rfl⟩ := h
    exact hq
  | ret =>
    intro r r' σ σ' e h Q hq
    simp only [execC, Option.some.injEq, Prod.mk.injEq] at h
    obtain ⟨rfl, rfl, rfl⟩ := h
    exact hq

theorem callT_ok {T : Tab} (hT : TabOk P T) {F : Nat} : ∀ d, CfOk P (callT T F d)
  | 0 => fun f args σ v σ' h => by simp [callT] at h
  | d + 1 => fun f args σ v σ' h Q hq => by
    simp only [callT] at h
    split at h
    · rename_i ac rs n hf
      split at h
      · rename_i hn
        obtain ⟨fn, hh, h1, h2, h3, h4⟩ := hT.2 f _ hf
        refine ACall.of_compF hT.1 h1 h2 h3 h4 hn ?_
        split at h
        · cases h
        · rename_i e r σ1 hx he
          refine execC_wp (callT_ok hT d) he ?_
          simp only [Option.map_eq_some_iff, Prod.mk.injEq] at h
          obtain ⟨u, hu, rfl, rfl⟩ := h
          cases e with
          | normal => simp only [retPost, hu]; exact hq
          | exit j => exact (hx _ rfl).elim
          | ret => simp only [retPost, hu]; exact hq
        · cases h
      · cases h
    · cases h

abbrev TabL := List (FuncId × ACode × List ARes × Nat)

def look : TabL → Tab
  | [], _ => none
  | (g, x) :: l, f => if f = g then some x else look l f

theorem tab_nil (h : P.follows .mixedOrders = true) : TabOk P (look []) := ⟨h, fun f x hx => by cases hx⟩

theorem tab_cons {l : TabL} (hl : TabOk P (look l)) {f : FuncId} {fn : Func} {ac : ACode} {rs : List ARes} {h : Hints} {n : Nat} (hent : Enterable P f) (hf : P.funcs[f]? = some fn) (hc : compF P fn h = some (ac, rs)) (hn : n ≤ fn.ntmps) : TabOk P (look ((f, ac, rs, n) :: l)) := by
  refine ⟨hl.1, fun g x hx => ?_⟩
  simp only [look] at hx
  split at hx
  · rename_i hg; subst hg
    injection hx with hx; subst hx
    exact ⟨fn, h, hent, hf, hc, hn⟩
  · exact hl.2 g x hx

theorem ACall.of_run {T : Tab} (hT : TabOk P T) (F d : Nat) {f : FuncId} {args : List AVal} {σ : St} {v : AVal} {σ' : St} (h : callT T F d f args σ = some (v, σ')) {Q : AVal → St → Prop} (hq : Q v σ') : ACall P f args σ Q :=
  callT_ok hT d f args σ v σ' h Q hq

end Go.Proofs.Ytopagbaokokjdaa.AM

/- What a call may leave out: a call that neither is given memory nor gives any leaves the abstract memory as it was. -/
namespace Go.Proofs.Ytopagbaokokjdaa.AM
open Go.RowKit
set_option linter.unusedVariables false
set_option linter.unusedSimpArgs false

mutual
/-- All blocks that it names are below n. -/
def AVal.upto (n : Nat) : AVal → Bool
  | .ptr a _ => decide (a < n)
  | .iptr cs => uptoL n cs
  | .sl a _ _ _ _ => decide (a < n)
  | .isl cs _ _ => uptoL n cs
  | .map a => decide (a < n)
  | .yld a => decide (a < n)
  | .fn _ xs ys => uptoL n xs && uptoL n ys
  | .iface _ v => AVal.upto n v
  | .agg cs => uptoL n cs
  | .tup vs => uptoL n vs
  | _ => true
def uptoL (n : Nat) : List AVal → Bool
  | [] => true
  | v :: vs => AVal.upto n v && uptoL n vs
end

mutual
/-- It holds no memory at all. -/
def AVal.flat : AVal → Bool
  | .ptr .. => false
  | .iptr _ => false
  | .sl .. => false
  | .isl .. => false
  | .map _ => false
  | .yld _ => false
  | .fn _ xs ys => flatL xs && flatL ys
  | .iface _ v => AVal.flat v
  | .agg cs => flatL cs
  | .tup vs => flatL vs
  | _ => true
def flatL : List AVal → Bool
  | [] => true
  | v :: vs => AVal.flat v && flatL vs
end

section
variable {ρ ρ' : Rho} {I I' : Imm} {n : Nat}

mutual
theorem VRel.agree (h : ∀ a, a < n → ρ' a = ρ a) : (v : AVal) → (cv : Value) → v.upto n = true → VRel ρ I v cv → VRel ρ' I v cv
  | .ptr a o, cv, hu, hv => by
    simp only [AVal.upto, decide_eq_true_eq] at hu
    simp only [VRel] at hv ⊢; rw [h a hu]; exact hv
  | .iptr cs, cv, hu, hv => by
    simp only [AVal.upto] at hu
    simp only [VRel] at hv ⊢
    obtain ⟨ad, h1, h2, h3⟩ := hv
    exact ⟨ad, h1, h2, CRel.agree h cs _ hu h3⟩
  | .sl a o len cap t, cv, hu, hv => by
    simp only [AVal.upto, decide_eq_true_eq] at hu
    simp only [VRel] at hv ⊢; rw [h a hu]; exact hv
  | .isl cs len t, cv, hu, hv => by
    simp only [AVal.upto] at hu
    simp only [VRel] at hv ⊢
    obtain ⟨ad, c, h1, h2, h3, h4, h5, h6⟩ := hv
    exact ⟨ad, c, h1, h2, h3, h4, h5, CRel.agree h cs _ hu h6⟩
  | .map a, cv, hu, hv => by
    simp only [AVal.upto, decide_eq_true_eq] at hu
    simp only [VRel] at hv ⊢; rw [h a hu]; exact hv
  | .yld a, cv, hu, hv => by
    simp only [AVal.upto, decide_eq_true_eq] at hu
    simp only [VRel] at hv ⊢; rw [h a hu]; exact hv
  | .fn f xs ys, cv, hu, hv => by
    simp only [AVal.upto, Bool.and_eq_true] at hu
    simp only [VRel] at hv ⊢
    obtain ⟨x, y, h1, h2, h3, h4, h5⟩ := hv
    exact ⟨x, y, h1, h2, h3, CRel.agree h xs _ hu.1 h4, CRel.agree h ys _ hu.2 h5⟩
  | .iface t x, cv, hu, hv => by
    simp only [AVal.upto] at hu
    simp only [VRel] at hv ⊢
    obtain ⟨x', h1, h2⟩ := hv
    exact ⟨x', h1, VRel.agree h x x' hu h2⟩
  | .agg cs, cv, hu, hv => by
    simp only [AVal.upto] at hu
    simp only [VRel] at hv ⊢
    obtain ⟨x', h1, h2, h3, h4⟩ := hv
    exact ⟨x', h1, h2, h3, CRel.agree h cs _ hu h4⟩
  | .tup cs, cv, hu, hv => by
    simp only [AVal.upto] at hu
    simp only [VRel] at hv ⊢
    obtain ⟨x', h1, h2, h3⟩ := hv
    exact ⟨x', h1, h2, CRel.agree h cs _ hu h3⟩
  | .int k m, cv, _, hv => by simp only [VRel] at hv ⊢; exact hv
  | .bool b, cv, _, hv => by simp only [VRel] at hv ⊢; exact hv
  | .str s, cv, _, hv => by simp only [VRel] at hv ⊢; exact hv
  | .nilp, cv, _, hv => by simp only [VRel] at hv ⊢; exact hv
  | .nilsl, cv, _, hv => by simp only [VRel] at hv ⊢; exact hv
  | .nilmap, cv, _, hv => by simp only [VRel] at hv ⊢; exact hv
  | .nilfn, cv, _, hv => by simp only [VRel] at hv ⊢; exact hv
  | .niliface, cv, _, hv => by simp only [VRel] at hv ⊢; exact hv
theorem CRel.agree (h : ∀ a, a < n → ρ' a = ρ a) : (cs : List AVal) → (f : Nat → Option Value) → uptoL n cs = true → CRel ρ I cs f → CRel ρ' I cs f
  | [], f, _, _ => trivial
  | c :: cs, f, hu, hv => by
    simp only [uptoL, Bool.and_eq_true] at hu
    simp only [CRel] at hv ⊢
    obtain ⟨⟨u, h1, h2⟩, h3⟩ := hv
    exact ⟨⟨u, h1, VRel.agree h c u hu.1 h2⟩, CRel.agree h cs _ hu.2 h3⟩
end

mutual
theorem VRel.upto (h : ∀ a, n ≤ a → ρ a = none) : (v : AVal) → (cv : Value) → VRel ρ I v cv → v.upto n = true
  | .ptr a o, cv, hv => by
    simp only [VRel] at hv
    obtain ⟨p, h1, _⟩ := hv
    simp only [AVal.upto, decide_eq_true_eq]
    exact Nat.lt_of_not_le fun hle => by rw [h a hle] at h1; cases h1
  | .iptr cs, cv, hv => by
    simp only [VRel] at hv
    obtain ⟨ad, h1, h2, h3⟩ := hv
    simp only [AVal.upto]; exact CRel.uptoL h cs _ h3
  | .sl a o len cap t, cv, hv => by
    simp only [VRel] at hv
    obtain ⟨p, _, _, h1, _⟩ := hv
    simp only [AVal.upto, decide_eq_true_eq]
    exact Nat.lt_of_not_le fun hle => by rw [h a hle] at h1; cases h1
  | .isl cs len t, cv, hv => by
    simp only [VRel] at hv
    obtain ⟨ad, c, h1, h2, h3, h4, h5, h6⟩ := hv
    simp only [AVal.upto]; exact CRel.uptoL h cs _ h6
  | .map a, cv, hv => by
    simp only [VRel] at hv
    obtain ⟨p, h1, _⟩ := hv
    simp only [AVal.upto, decide_eq_true_eq]
    exact Nat.lt_of_not_le fun hle => by rw [h a hle] at h1; cases h1
  | .yld a, cv, hv => by
    simp only [VRel] at hv
    obtain ⟨p, h1, _⟩ := hv
    simp only [AVal.upto, decide_eq_true_eq]
    exact Nat.lt_of_not_le fun hle => by rw [h a hle] at h1; cases h1
  | .fn f xs ys, cv, hv => by
    simp only [VRel] at hv
    obtain ⟨x, y, h1, h2, h3, h4, h5⟩ := hv
    simp only [AVal.upto, Bool.and_eq_true]
    exact ⟨CRel.uptoL h xs _ h4, CRel.uptoL h ys _ h5⟩
  | .iface t x, cv, hv => by
    simp only [VRel] at hv
    obtain ⟨x', h1, h2⟩ := hv
    simp only [AVal.upto]; exact VRel.upto h x x' h2
  | .agg cs, cv, hv => by
    simp only [VRel] at hv
    obtain ⟨x', h1, h2, h3, h4⟩ := hv
    simp only [AVal.upto]; exact CRel.uptoL h cs _ h4
  | .tup cs, cv, hv => by
    simp only [VRel] at hv
    obtain ⟨x', h1, h2, h3⟩ := hv
    simp only [AVal.upto]; exact CRel.uptoL h cs _ h3
  | .int k m, cv, _ => rfl
  | .bool b, cv, _ => rfl
  | .str s, cv, _ => rfl
  | .nilp, cv, _ => rfl
  | .nilsl, cv, _ => rfl
  | .nilmap, cv, _ => rfl
  | .nilfn, cv, _ => rfl
  | .niliface, cv, _ => rfl
theorem CRel.uptoL (h : ∀ a, n ≤ a → ρ a = none) : (cs : List AVal) → (f : Nat → Option Value) → CRel ρ I cs f → uptoL n cs = true
  | [], f, _ => rfl
  | c :: cs, f, hv => by
    simp only [CRel] at hv
    obtain ⟨⟨u, h1, h2⟩, h3⟩ := hv
    simp only [uptoL, Bool.and_eq_true]
    exact ⟨VRel.upto h c u h2, CRel.uptoL h cs _ h3⟩
end

mutual
theorem VRel.flat : (v : AVal) → (cv : Value) → v.flat = true → VRel ρ I v cv → VRel ρ' I' v cv
  | .ptr a o, cv, hu, hv => by simp [AVal.flat] at hu
  | .iptr cs, cv, hu, hv => by simp [AVal.flat] at hu
  | .sl a o len cap t, cv, hu, hv => by simp [AVal.flat] at hu
  | .isl cs len t, cv, hu, hv => by simp [AVal.flat] at hu
  | .map a, cv, hu, hv => by simp [AVal.flat] at hu
  | .yld a, cv, hu, hv => by simp [AVal.flat] at hu
  | .fn f xs ys, cv, hu, hv => by
    simp only [AVal.flat, Bool.and_eq_true] at hu
    simp only [VRel] at hv ⊢
    obtain ⟨x, y, h1, h2, h3, h4, h5⟩ := hv
    exact ⟨x, y, h1, h2, h3, CRel.flat xs _ hu.1 h4, CRel.flat ys _ hu.2 h5⟩
  | .iface t x, cv, hu, hv => by
    simp only [AVal.flat] at hu
    simp only [VRel] at hv ⊢
    obtain ⟨x', h1, h2⟩ := hv
    exact ⟨x', h1, VRel.flat x x' hu h2⟩
  | .agg cs, cv, hu, hv => by
    simp only [AVal.flat] at hu
    simp only [VRel] at hv ⊢
    obtain ⟨x', h1, h2, h3, h4⟩ := hv
    exact ⟨x', h1, h2, h3, CRel.flat cs _ hu h4⟩
  | .tup cs, cv, hu, hv => by
    simp only [AVal.flat] at hu
    simp only [VRel] at hv ⊢
    obtain ⟨x', h1, h2, h3⟩ := hv
    exact ⟨x', h1, h2, CRel.flat cs _ hu h3⟩
  | .int k m, cv, _, hv => by simp only [VRel] at hv ⊢; exact hv
  | .bool b, cv, _, hv => by simp only [VRel] at hv ⊢; exact hv
  | .str s, cv, _, hv => by simp only [VRel] at hv ⊢; exact hv
  | .nilp, cv, _, hv => by simp only [VRel] at hv ⊢; exact hv
  | .nilsl, cv, _, hv => by simp only [VRel] at hv ⊢; exact hv
  | .nilmap, cv, _, hv => by simp only [VRel] at hv ⊢; exact hv
  | .nilfn, cv, _, hv => by simp only [VRel] at hv ⊢; exact hv
  | .niliface, cv, _, hv => by simp only [VRel] at hv ⊢; exact hv
theorem CRel.flat : (cs : List AVal) → (f : Nat → Option Value) → flatL cs = true → CRel ρ I cs f → CRel ρ' I' cs f
  | [], f, _, _ => trivial
  | c :: cs, f, hu, hv => by
    simp only [flatL, Bool.and_eq_true] at hu
    simp only [CRel] at hv ⊢
    obtain ⟨⟨u, h1, h2⟩, h3⟩ := hv
    exact ⟨⟨u, h1, VRel.flat c u hu.1 h2⟩, CRel.flat cs _ hu.2 h3⟩
end

theorem BRel.agree {N : Nat} (h : ∀ a, a < N → ρ' a = ρ a) {ρ0 : Rho} {I0 : Imm} {w0 w : World} {p0 p : Place} {b : Blk} (h0 : ∀ a, N ≤ a → ρ0 a = none) (hb0 : BRel ρ0 I0 w0 p0 b) (hb : BRel ρ I w p b) : BRel ρ' I w p b := by
  cases b with
  | cells es vals =>
    obtain ⟨_, _, _, c0, _, _, _, _, _, g⟩ := hb0
    obtain ⟨k1, k2, k3, c, e, fr, k4, k5, k6, k7⟩ := hb
    exact ⟨k1, k2, k3, c, e, fr, k4, k5, k6, CRel.agree h _ _ (CRel.uptoL h0 _ _ g) k7⟩
  | ro es vals =>
    obtain ⟨_, _, c0, _, g⟩ := hb0
    obtain ⟨k1, k2, c, k3, k4⟩ := hb
    exact ⟨k1, k2, c, k3, CRel.agree h _ _ (CRel.uptoL h0 _ _ g) k4⟩
  | map clock ents =>
    obtain ⟨a0, _, _, g⟩ := hb0
    obtain ⟨a, k1, k2, k3⟩ := hb
    refine ⟨a, k1, k2, fun j x hx => ?_⟩
    obtain ⟨m, m1, m2, m3, m4⟩ := k3 j x hx
    obtain ⟨_, _, _, g2, g3⟩ := g j x hx
    exact ⟨m, m1, m2, VRel.agree h _ _ (VRel.upto h0 _ _ g2) m3, VRel.agree h _ _ (VRel.upto h0 _ _ g3) m4⟩
  | loop l => exact hb
  | iter m since seen last =>
    obtain ⟨_, _, _, g⟩ := hb0
    obtain ⟨k0, cm, k1, k2⟩ := hb
    refine ⟨k0, cm, k1, ?_⟩
    rcases k2 with k2 | ⟨a, pm, k3, k4, k5⟩
    · exact .inl k2
    · rcases g with ⟨g1, _⟩ | ⟨a', pm', g1, g2, _⟩
      · rw [g1] at k3; cases k3
      · rw [g1] at k3; cases k3
        exact .inr ⟨_, pm, g1, by rw [h _ (Nat.lt_of_not_le fun hle => by rw [h0 _ hle] at g2; cases g2)]; exact k4, k5⟩

end

/-- What was there is as it was. -/
def Old (σ σ' : St) : Prop := ∀ a, a < σ.next → σ'.mem.get a = σ.mem.get a

section
variable {P : Program} {B : Nat} {w0 : Root} {w w' : World} {ρ ρ' : Rho} {I I' : Imm} {σ σ' : St}

/-- What is new is left out. -/
theorem Rel.scrub (rl : Rel B w0 ρ I σ w) (rl' : Rel B w0 ρ' I' σ' w') (ex : Ext ρ I σ ρ' I' σ') (ho : Old σ σ') : Rel B w0 ρ I' σ w' where
  low := rl'.low
  base := rl'.base
  blk a p b h1 h2 := by
    have ha := rl.mlt h2
    refine BRel.agree (N := σ.next) (fun x hx => (ex.rho x hx).symm) rl.dom (rl.blk a p b h1 h2) (rl'.blk a p b (by rw [ex.rho a ha]; exact h1) (by rw [ho a ha]; exact h2))
  inj a a' p p' b b' h1 h2 h3 h4 := by
    have ha := rl.mlt h3
    have ha' := rl.mlt h4
    exact rl'.inj a a' p p' b b' (by rw [ex.rho a ha]; exact h1) (by rw [ex.rho a' ha']; exact h2) (by rw [ho a ha]; exact h3) (by rw [ho a' ha']; exact h4)
  imm' := rl'.imm'
  sep a p b h1 h2 := by
    have ha := rl.mlt h2
    exact rl'.sep a p b (by rw [ex.rho a ha]; exact h1) (by rw [ho a ha]; exact h2)
  new a p b h1 h2 := by
    have ha := rl.mlt h2
    exact rl'.new a p b (by rw [ex.rho a ha]; exact h1) (by rw [ho a ha]; exact h2)
  lt a p h1 := rl'.lt a p (by rw [ex.rho a (rl.rlt h1)]; exact h1)
  dom := rl.dom
  memdom := rl.memdom
  ilow := rl'.ilow

theorem ACall.scrub {f : FuncId} {args : List AVal} {Q : AVal → St → Prop} (h : ACall P f args σ fun v σ' => v.upto σ.next = true ∧ Old σ σ' ∧ Q v σ) : ACall P f args σ Q := by
  refine ACall.ofCalls h.1 fun B w0 ρ I w cargs rl h1 h2 => (h.calls B w0 ρ I w cargs rl h1 h2).mono ?_
  rintro e w' ⟨v, σ', ρ', I', cv, rfl, hv, rl', ex, hu, ho, hq⟩
  refine ⟨v, σ, ρ, I', cv, rfl, VRel.agree (fun a ha => (ex.rho a ha).symm) _ _ hu hv, rl.scrub rl' ex ho, ⟨fun _ _ => rfl, ex.imm, Nat.le_refl _, fun _ _ _ => rfl⟩, hq⟩

theorem Rel.below (rl : Rel B w0 ρ I σ w) (h : Below w.heap.size w w') (h6 : w.drawn ≤ w'.drawn := by exact Nat.le_refl _) : Rel B w0 ρ I σ w' where
  low := ⟨rl.low.below.trans (h.mono rl.base), fun b hb => (h.block b (rl.low.mkLt hb)).trans (rl.low.mks b hb), Nat.le_trans rl.low.drawn h6⟩
  base := Nat.le_trans rl.base h.size
  blk a p b h1 h2 := (rl.blk a p b h1 h2).world (RLe.refl _) (ILe.refl _) (h.block _ (rl.lt a p h1))
  inj := rl.inj
  imm' := ⟨fun b c hb => by
    obtain ⟨e, fr, hh⟩ := rl.imm b c hb
    exact ⟨e, fr, by rw [h.block _ (rl.immlt hb)]; exact hh⟩, rl.gok⟩
  sep := rl.sep
  new := rl.new
  lt a p h1 := Nat.lt_of_lt_of_le (rl.lt a p h1) h.size
  dom := rl.dom
  memdom := rl.memdom
  ilow := rl.ilow

theorem Rel.empty (rl : Rel B w0 ρ I σ w) : Rel w.heap.size ⟨w, fun b => (I b).isSome, [], fun _ => False⟩ ρ0 I σ0 w where
  low := ⟨Below.refl _ _, fun b h => h.elim, Nat.le_refl _⟩
  base := Nat.le_refl _
  blk a p b h := by cases h
  inj a a' p p' b b' h := by cases h
  imm' := rl.imm'
  sep a p b h := by cases h
  new a p b h := by cases h
  lt a p h := by cases h
  dom a _ := rfl
  memdom a _ := rfl
  ilow b c h _ := by show (I b).isSome = true; rw [h]; rfl

/-- What is computed from unchanging values in an empty memory is computed in any. -/
theorem ACall.frame {f : FuncId} {args : List AVal} {Q : AVal → St → Prop} (h : ACall P f args σ0 fun v _ => v.flat = true ∧ Q v σ) (ha : uptoL 0 args = true) : ACall P f args σ Q := by
  refine ACall.ofCalls h.1 fun B w0 ρ I w cargs rl h1 h2 => (h.calls w.heap.size _ ρ0 I w cargs rl.empty h1 (CRel.agree (n := 0) (fun a ha => by omega) _ _ ha h2)).mono ?_
  rintro e w' ⟨v, σ', ρ', I', cv, rfl, hv, rl', ex, hu, hq⟩
  exact ⟨v, σ, ρ, I, cv, rfl, VRel.flat _ _ hu hv, rl.below rl'.low.below rl'.low.drawn, Ext.refl _ _ _, hq⟩

end
end Go.Proofs.Ytopagbaokokjdaa.AM

/- The abstract machine's code, step by step: what remains to be done stands as a word, until its turn comes. -/
namespace Go.Proofs.Ytopagbaokokjdaa.AM
set_option linter.unusedVariables false
set_option linter.unusedSimpArgs false

section
variable {P : Env}

def seqK (P : Env) (b : ACode) (Q : Post) : Post := fun e r σ => match e with
  | .normal => b.wp P Q r σ
  | e => Q e r σ
def blockK (id : Nat) (Q : Post) : Post := fun e r σ => match e with
  | .exit j => if j = id then Q .normal r σ else Q (.exit j) r σ
  | e => Q e r σ
def regK (keep : List Nat) (Q : Post) : Regs → St → Prop := fun r σ => Q .normal (norm keep r) σ
def condK (P : Env) (a b : ACode) (Q : Post) (r : Regs) (σ : St) : Option AVal → Prop
  | some (.bool t) => if t then a.wp P Q r σ else b.wp P Q r σ
  | _ => False
def stepK (P : Env) (rest : List AOper) (d : Option Nat) (r : Regs) (Q : Regs → St → Prop) : Option (AVal × St) → Prop
  | some (v, σ') => rwp P rest (setR r d v) σ' Q
  | none => False
def retK (P : Env) (rest : List AOper) (d : Option Nat) (r : Regs) (Q : Regs → St → Prop) : AVal → St → Prop := fun v σ' => rwp P rest (setR r d v) σ' Q
def callK (P : Env) (rest : List AOper) (d : Option Nat) (r : Regs) (σ : St) (Q : Regs → St → Prop) : Option AVal → Option (List AVal) → Prop
  | some (.fn f first caps), some vs => ACall P f (first ++ vs ++ caps) σ (retK P rest d r Q)
  | some (.yld a), some vs => ∃ K, P.yld a vs σ K ∧ ∀ v σ, K v σ → retK P rest d r Q v σ
  | _, _ => False
def pickK (P : Env) (rest : List AOper) (d : Option Nat) (r : Regs) (σ : St) (Q : Regs → St → Prop) (a b : Opd) : Option AVal → Prop
  | some (.bool true) => stepK P rest d r Q ((evalOpd r a).map (·, σ))
  | some (.bool false) => stepK P rest d r Q ((evalOpd r b).map (·, σ))
  | _ => False
def guardK (P : Env) (o : AOper) (want : Bool) (rest : List AOper) (r : Regs) (σ : St) (Q : Regs → St → Prop) : Option AVal → Prop
  | some (.bool b) => if b = want then rwp P (⟨o.dst, o.ins, none⟩ :: rest) r σ Q else rwp P rest (delU r o.dst) σ Q
  | some (.tup []) => rwp P rest (delU r o.dst) σ Q
  | _ => False

/-- A range over the function g. -/
def rangeW (P : Env) (g : FuncId) (first caps : List AVal) (ps : List Nat) (a b : ACode) (Q : Post) (r : Regs) (σ : St) : Prop :=
  ∀ lp : Loop, lp.state = .ready → lp.pending = none →
    ACall ⟨P.prog, fun _ _ => False, roundY (a.wp (Env.of P.prog)) (b.wp (Env.of P.prog)) σ.next lp ps r⟩ g (first ++ [.yld σ.next] ++ caps) ⟨σ.mem.set σ.next (.loop lp), σ.next + 1⟩
      (fun _ σ' => ∃ lq, σ'.mem.get σ.next = some (.loop lq) ∧ lq.state ≠ .busy ∧ afterQ Q r ⟨σ'.mem.del σ.next, σ'.next⟩ lq.pending)
def rangeK (P : Env) (ps : List Nat) (a b : ACode) (Q : Post) (r : Regs) (σ : St) : Option AVal → Prop
  | some (.fn g first caps) => rangeW P g first caps ps a b Q r σ
  | _ => False
@[simp] theorem rangeK_some (ps : List Nat) (a b : ACode) (Q : Post) (r : Regs) (σ : St) (g : FuncId) (first caps : List AVal) : rangeK P ps a b Q r σ (some (.fn g first caps)) = rangeW P g first caps ps a b Q r σ := Eq.trans rfl rfl
@[simp] theorem wp_rangef (f : Opd) (ps : List Nat) (a b : ACode) (Q : Post) (r : Regs) (σ : St) : ACode.wp P (.rangef f ps a b) Q r σ = rangeK P ps a b Q r σ (evalOpd r f) := by
  simp only [ACode.wp, rangeK, rangeW]
  cases evalOpd r f with
  | none => rfl
  | some v => cases v <;> rfl
@[simp] theorem wp_skip (Q : Post) (r : Regs) (σ : St) : ACode.wp P .skip Q r σ = Q .normal r σ := Eq.trans rfl rfl
@[simp] theorem wp_ret (Q : Post) (r : Regs) (σ : St) : ACode.wp P .ret Q r σ = Q .ret r σ := Eq.trans rfl rfl
@[simp] theorem wp_exit (Q : Post) (id : Nat) (r : Regs) (σ : St) : ACode.wp P (.exit id) Q r σ = Q (.exit id) r σ := Eq.trans rfl rfl
@[simp] theorem wp_seq (a b : ACode) (Q : Post) (r : Regs) (σ : St) : ACode.wp P (.seq a b) Q r σ = a.wp P (seqK P b Q) r σ := Eq.trans rfl rfl
@[simp] theorem wp_block (id : Nat) (a : ACode) (Q : Post) (r : Regs) (σ : St) : ACode.wp P (.block id a) Q r σ = a.wp P (blockK id Q) r σ := Eq.trans rfl rfl
@[simp] theorem wp_cond (c : Opd) (a b : ACode) (Q : Post) (r : Regs) (σ : St) : ACode.wp P (.cond c a b) Q r σ = condK P a b Q r σ (evalOpd r c) := Eq.trans rfl rfl
@[simp] theorem wp_reg (keep : List Nat) (ops : List AOper) (Q : Post) (r : Regs) (σ : St) : ACode.wp P (.reg keep ops) Q r σ = rwp P ops r σ (regK keep Q) := Eq.trans rfl rfl
@[simp] theorem seqK_normal (b : ACode) (Q : Post) (r : Regs) (σ : St) : seqK P b Q .normal r σ = b.wp P Q r σ := Eq.trans rfl rfl
@[simp] theorem seqK_exit (b : ACode) (Q : Post) (j : Nat) (r : Regs) (σ : St) : seqK P b Q (.exit j) r σ = Q (.exit j) r σ := Eq.trans rfl rfl
@[simp] theorem seqK_ret (b : ACode) (Q : Post) (r : Regs) (σ : St) : seqK P b Q .ret r σ = Q .ret r σ := Eq.trans rfl rfl
@[simp] theorem blockK_normal (i : Nat) (Q : Post) (r : Regs) (σ : St) : blockK i Q .normal r σ = Q .normal r σ := Eq.trans rfl rfl
@[simp] theorem blockK_exit (i j : Nat) (Q : Post) (r : Regs) (σ : St) : blockK i Q (.exit j) r σ = if j = i then Q .normal r σ else Q (.exit j) r σ := Eq.trans rfl rfl
@[simp] theorem blockK_ret (i : Nat) (Q : Post) (r : Regs) (σ : St) : blockK i Q .ret r σ = Q .ret r σ := Eq.trans rfl rfl
@[simp] theorem regK_app (keep : List Nat) (Q : Post) (r : Regs) (σ : St) : regK keep Q r σ = Q .normal (norm keep r) σ := Eq.trans rfl rfl
@[simp] theorem condK_true (a b : ACode) (Q : Post) (r : Regs) (σ : St) : condK P a b Q r σ (some (.bool true)) = a.wp P Q r σ := Eq.trans rfl rfl
@[simp] theorem condK_false (a b : ACode) (Q : Post) (r : Regs) (σ : St) : condK P a b Q r σ (some (.bool false)) = b.wp P Q r σ := Eq.trans rfl rfl
@[simp] theorem stepK_some (rest : List AOper) (d : Option Nat) (r : Regs) (Q : Regs → St → Prop) (v : AVal) (σ : St) : stepK P rest d r Q (some (v, σ)) = rwp P rest (setR r d v) σ Q := Eq.trans rfl rfl
@[simp] theorem stepK_none (rest : List AOper) (d : Option Nat) (r : Regs) (Q : Regs → St → Prop) : stepK P rest d r Q none = False := Eq.trans rfl rfl
@[simp] theorem retK_app (rest : List AOper) (d : Option Nat) (r : Regs) (Q : Regs → St → Prop) (v : AVal) (σ : St) : retK P rest d r Q v σ = rwp P rest (setR r d v) σ Q := Eq.trans rfl rfl
@[simp] theorem callK_yld (rest : List AOper) (d : Option Nat) (r : Regs) (σ : St) (Q : Regs → St → Prop) (a : Nat) (vs : List AVal) : callK P rest d r σ Q (some (.yld a)) (some vs) = ∃ K, P.yld a vs σ K ∧ ∀ v σ, K v σ → retK P rest d r Q v σ := Eq.trans rfl rfl
@[simp] theorem callK_some (rest : List AOper) (d : Option Nat) (r : Regs) (σ : St) (Q : Regs → St → Prop) (f : FuncId) (xs vs ys : List AVal) : callK P rest d r σ Q (some (.fn f xs ys)) (some vs) = ACall P f (xs ++ vs ++ ys) σ (retK P rest d r Q) := Eq.trans rfl rfl
@[simp] theorem pickK_true (rest : List AOper) (d : Option Nat) (r : Regs) (σ : St) (Q : Regs → St → Prop) (a b : Opd) : pickK P rest d r σ Q a b (some (.bool true)) = stepK P rest d r Q ((evalOpd r a).map (·, σ)) := Eq.trans rfl rfl
@[simp] theorem pickK_false (rest : List AOper) (d : Option Nat) (r : Regs) (σ : St) (Q : Regs → St → Prop) (a b : Opd) : pickK P rest d r σ Q a b (some (.bool false)) = stepK P rest d r Q ((evalOpd r b).map (·, σ)) := Eq.trans rfl rfl
@[simp] theorem guardK_tt (o : AOper) (rest : List AOper) (r : Regs) (σ : St) (Q : Regs → St → Prop) : guardK P o true rest r σ Q (some (.bool true)) = rwp P (⟨o.dst, o.ins, none⟩ :: rest) r σ Q := Eq.trans rfl rfl
@[simp] theorem guardK_ff (o : AOper) (rest : List AOper) (r : Regs) (σ : St) (Q : Regs → St → Prop) : guardK P o false rest r σ Q (some (.bool false)) = rwp P (⟨o.dst, o.ins, none⟩ :: rest) r σ Q := Eq.trans rfl rfl
@[simp] theorem guardK_tf (o : AOper) (rest : List AOper) (r : Regs) (σ : St) (Q : Regs → St → Prop) : guardK P o true rest r σ Q (some (.bool false)) = rwp P rest (delU r o.dst) σ Q := Eq.trans rfl rfl
@[simp] theorem guardK_ft (o : AOper) (rest : List AOper) (r : Regs) (σ : St) (Q : Regs → St → Prop) : guardK P o false rest r σ Q (some (.bool true)) = rwp P rest (delU r o.dst) σ Q := Eq.trans rfl rfl
@[simp] theorem guardK_u (o : AOper) (want : Bool) (rest : List AOper) (r : Regs) (σ : St) (Q : Regs → St → Prop) : guardK P o want rest r σ Q (some (.tup [])) = rwp P rest (delU r o.dst) σ Q := Eq.trans rfl rfl
@[simp] theorem rwp_nil (r : Regs) (σ : St) (Q : Regs → St → Prop) : rwp P [] r σ Q = Q r σ := Eq.trans rfl rfl
@[simp] theorem rwp_op (d : Option Nat) (o : AOp Opd) (rest : List AOper) (r : Regs) (σ : St) (Q : Regs → St → Prop) : rwp P (⟨d, .op o, none⟩ :: rest) r σ Q = stepK P rest d r Q ((o.mapM (evalOpd r)).bind (evalV σ)) := by
  simp only [rwp, AIns.wp, stepK]
  cases (o.mapM (evalOpd r)).bind (evalV σ) <;> rfl
@[simp] theorem rwp_pick (d : Option Nat) (c a b : Opd) (rest : List AOper) (r : Regs) (σ : St) (Q : Regs → St → Prop) : rwp P (⟨d, .pick c a b, none⟩ :: rest) r σ Q = pickK P rest d r σ Q a b (evalOpd r c) := by
  simp only [rwp, AIns.wp]
  cases evalOpd r c with
  | none => rfl
  | some v =>
    cases v <;> first | rfl | skip
    rename_i t
    cases t
    · simp only [pickK, stepK, Bool.false_eq_true, if_false]; cases evalOpd r b <;> rfl
    · simp only [pickK, stepK, if_true]; cases evalOpd r a <;> rfl
@[simp] theorem rwp_call (d : Option Nat) (f : Opd) (args : List Opd) (rest : List AOper) (r : Regs) (σ : St) (Q : Regs → St → Prop) : rwp P (⟨d, .call f args, none⟩ :: rest) r σ Q = callK P rest d r σ Q (evalOpd r f) (listM (evalOpd r) args) := by
  simp only [rwp, AIns.wp]
  cases evalOpd r f with
  | none => rfl
  | some v => cases v <;> first | rfl | (cases listM (evalOpd r) args <;> rfl)
def nextK (P : Env) (rest : List AOper) (d : Option Nat) (r : Regs) (Q : Regs → St → Prop) : Option (List (AVal × St)) → Prop
  | some l => ∀ p ∈ l, rwp P rest (setR r d p.1) p.2 Q
  | none => False
@[simp] theorem nextK_some (rest : List AOper) (d : Option Nat) (r : Regs) (Q : Regs → St → Prop) (l : List (AVal × St)) : nextK P rest d r Q (some l) = ∀ p ∈ l, rwp P rest (setR r d p.1) p.2 Q := Eq.trans rfl rfl
@[simp] theorem rwp_next (d : Option Nat) (x : Opd) (rest : List AOper) (r : Regs) (σ : St) (Q : Regs → St → Prop) : rwp P (⟨d, .next x, none⟩ :: rest) r σ Q = nextK P rest d r Q ((evalOpd r x).bind (nextC σ)) := by
  simp only [rwp, AIns.wp, nextK]
  cases (evalOpd r x).bind (nextC σ) <;> rfl
def panicK (P : Env) (σ : St) : Option AVal → Prop
  | some (.iface t v) => P.thr (.iface t v) σ
  | _ => False
@[simp] theorem panicK_some (σ : St) (t : TypeId) (v : AVal) : panicK P σ (some (.iface t v)) = P.thr (.iface t v) σ := Eq.trans rfl rfl
@[simp] theorem rwp_panic (d : Option Nat) (x : Opd) (rest : List AOper) (r : Regs) (σ : St) (Q : Regs → St → Prop) : rwp P (⟨d, .panic x, none⟩ :: rest) r σ Q = panicK P σ (evalOpd r x) := by
  simp only [rwp, AIns.wp, panicK]
  rfl
@[simp] theorem rwp_guard (d : Option Nat) (i : AIns) (t : Nat) (want : Bool) (rest : List AOper) (r : Regs) (σ : St) (Q : Regs → St → Prop) : rwp P (⟨d, i, some (t, want)⟩ :: rest) r σ Q = guardK P ⟨d, i, none⟩ want rest r σ Q (r.lookup t) := by
  simp only [rwp, guardK]
  cases List.lookup t r with
  | none => rfl
  | some v => cases v <;> first | rfl | (rename_i vs; cases vs <;> rfl)

def loopK (keep : List Nat) (J : Nat → Regs → St → Prop) (m : Nat) (Q : Post) : Post := fun e r σ => match e with
  | .normal => ∃ m', m' < m ∧ J m' (norm keep r) σ
  | e => Q e r σ
@[simp] theorem loopK_normal (keep : List Nat) (J : Nat → Regs → St → Prop) (m : Nat) (Q : Post) (r : Regs) (σ : St) : loopK keep J m Q .normal r σ = ∃ m', m' < m ∧ J m' (norm keep r) σ := Eq.trans rfl rfl
@[simp] theorem loopK_exit (keep : List Nat) (J : Nat → Regs → St → Prop) (m : Nat) (Q : Post) (j : Nat) (r : Regs) (σ : St) : loopK keep J m Q (.exit j) r σ = Q (.exit j) r σ := Eq.trans rfl rfl
@[simp] theorem loopK_ret (keep : List Nat) (J : Nat → Regs → St → Prop) (m : Nat) (Q : Post) (r : Regs) (σ : St) : loopK keep J m Q .ret r σ = Q .ret r σ := Eq.trans rfl rfl
theorem wp_loop {keep : List Nat} {a : ACode} {Q : Post} {r : Regs} {σ : St} (J : Nat → Regs → St → Prop) (n : Nat) (h0 : J n (norm keep r) σ) (hs : ∀ m r σ, J m r σ → a.wp P (loopK keep J m Q) r σ) : ACode.wp P (.loop keep a) Q r σ :=
  ⟨J, n, h0, hs⟩

/-! ### The same in an order of one's own -/

def dstepK (P : Env) (rest : List (AOper × List Nat)) (d : Option Nat) (rc : List Nat) (hs : Hist) (h : St → Prop) (r : Regs) (Q : Regs → St → Prop) : Option (AVal × St) → Prop
  | some (v, σ') => again hs σ' rc ∧ dwp P rest (setR r d v) σ' (hs ++ [h]) Q
  | none => False
def dretK (P : Env) (rest : List (AOper × List Nat)) (d : Option Nat) (rc : List Nat) (hs : Hist) (r : Regs) (Q : Regs → St → Prop) : AVal → St → Prop := fun v σ' => again hs σ' rc ∧ dwp P rest (setR r d v) σ' (hs ++ [fun _ => True]) Q
def dcallK (P : Env) (rest : List (AOper × List Nat)) (d : Option Nat) (rc : List Nat) (hs : Hist) (r : Regs) (σ : St) (Q : Regs → St → Prop) : Option AVal → Option (List AVal) → Prop
  | some (.fn f first caps), some vs => ACall P f (first ++ vs ++ caps) σ (dretK P rest d rc hs r Q)
  | some (.yld a), some vs => ∃ K, P.yld a vs σ K ∧ ∀ v σ, K v σ → dretK P rest d rc hs r Q v σ
  | _, _ => False
def dpickK (P : Env) (rest : List (AOper × List Nat)) (d : Option Nat) (rc : List Nat) (hs : Hist) (r : Regs) (σ : St) (Q : Regs → St → Prop) (a b : Opd) : Option AVal → Prop
  | some (.bool true) => dstepK P rest d rc hs (fun _ => True) r Q ((evalOpd r a).map (·, σ))
  | some (.bool false) => dstepK P rest d rc hs (fun _ => True) r Q ((evalOpd r b).map (·, σ))
  | _ => False
def dguardK (P : Env) (o : AOper) (rc : List Nat) (want : Bool) (rest : List (AOper × List Nat)) (hs : Hist) (r : Regs) (σ : St) (Q : Regs → St → Prop) : Option AVal → Prop
  | some (.bool b) => if b = want then dwp P ((⟨o.dst, o.ins, none⟩, rc) :: rest) r σ hs Q else dwp P rest (delU r o.dst) σ (hs ++ [fun _ : St => True]) Q
  | some (.tup []) => dwp P rest (delU r o.dst) σ (hs ++ [fun _ : St => True]) Q
  | _ => False

@[simp] theorem wp_dreg (keep : List Nat) (ops : List (AOper × List Nat)) (Q : Post) (r : Regs) (σ : St) : ACode.wp P (.dreg keep ops) Q r σ = dwp P.mute ops r σ [] (regK keep Q) := Eq.trans rfl rfl
@[simp] theorem dstepK_some (rest : List (AOper × List Nat)) (d : Option Nat) (rc : List Nat) (hs : Hist) (h : St → Prop) (r : Regs) (Q : Regs → St → Prop) (v : AVal) (σ : St) : dstepK P rest d rc hs h r Q (some (v, σ)) = (again hs σ rc ∧ dwp P rest (setR r d v) σ (hs ++ [h]) Q) := Eq.trans rfl rfl
@[simp] theorem dstepK_none (rest : List (AOper × List Nat)) (d : Option Nat) (rc : List Nat) (hs : Hist) (h : St → Prop) (r : Regs) (Q : Regs → St → Prop) : dstepK P rest d rc hs h r Q none = False := Eq.trans rfl rfl
@[simp] theorem dretK_app (rest : List (AOper × List Nat)) (d : Option Nat) (rc : List Nat) (hs : Hist) (r : Regs) (Q : Regs → St → Prop) (v : AVal) (σ : St) : dretK P rest d rc hs r Q v σ = (again hs σ rc ∧ dwp P rest (setR r d v) σ (hs ++ [fun _ => True]) Q) := Eq.trans rfl rfl
@[simp] theorem dcallK_some (rest : List (AOper × List Nat)) (d : Option Nat) (rc : List Nat) (hs : Hist) (r : Regs) (σ : St) (Q : Regs → St → Prop) (f : FuncId) (xs vs ys : List AVal) : dcallK P rest d rc hs r σ Q (some (.fn f xs ys)) (some vs) = ACall P f (xs ++ vs ++ ys) σ (dretK P rest d rc hs r Q) := Eq.trans rfl rfl
@[simp] theorem dpickK_true (rest : List (AOper × List Nat)) (d : Option Nat) (rc : List Nat) (hs : Hist) (r : Regs) (σ : St) (Q : Regs → St → Prop) (a b : Opd) : dpickK P rest d rc hs r σ Q a b (some (.bool true)) = dstepK P rest d rc hs (fun _ => True) r Q ((evalOpd r a).map (·, σ)) := Eq.trans rfl rfl
@[simp] theorem dpickK_false (rest : List (AOper × List Nat)) (d : Option Nat) (rc : List Nat) (hs : Hist) (r : Regs) (σ : St) (Q : Regs → St → Prop) (a b : Opd) : dpickK P rest d rc hs r σ Q a b (some (.bool false)) = dstepK P rest d rc hs (fun _ => True) r Q ((evalOpd r b).map (·, σ)) := Eq.trans rfl rfl
@[simp] theorem dguardK_tt (o : AOper) (rc : List Nat) (rest : List (AOper × List Nat)) (hs : Hist) (r : Regs) (σ : St) (Q : Regs → St → Prop) : dguardK P o rc true rest hs r σ Q (some (.bool true)) = dwp P ((⟨o.dst, o.ins, none⟩, rc) :: rest) r σ hs Q := Eq.trans rfl rfl
@[simp] theorem dguardK_ff (o : AOper) (rc : List Nat) (rest : List (AOper × List Nat)) (hs : Hist) (r : Regs) (σ : St) (Q : Regs → St → Prop) : dguardK P o rc false rest hs r σ Q (some (.bool false)) = dwp P ((⟨o.dst, o.ins, none⟩, rc) :: rest) r σ hs Q := Eq.trans rfl rfl
@[simp] theorem dguardK_tf (o : AOper) (rc : List Nat) (rest : List (AOper × List Nat)) (hs : Hist) (r : Regs) (σ : St) (Q : Regs → St → Prop) : dguardK P o rc true rest hs r σ Q (some (.bool false)) = dwp P rest (delU r o.dst) σ (hs ++ [fun _ : St => True]) Q := Eq.trans rfl rfl
@[simp] theorem dguardK_ft (o : AOper) (rc : List Nat) (rest : List (AOper × List Nat)) (hs : Hist) (r : Regs) (σ : St) (Q : Regs → St → Prop) : dguardK P o rc false rest hs r σ Q (some (.bool true)) = dwp P rest (delU r o.dst) σ (hs ++ [fun _ : St => True]) Q := Eq.trans rfl rfl
@[simp] theorem dguardK_u (o : AOper) (rc : List Nat) (want : Bool) (rest : List (AOper × List Nat)) (hs : Hist) (r : Regs) (σ : St) (Q : Regs → St → Prop) : dguardK P o rc want rest hs r σ Q (some (.tup [])) = dwp P rest (delU r o.dst) σ (hs ++ [fun _ : St => True]) Q := Eq.trans rfl rfl
@[simp] theorem dwp_nil (r : Regs) (σ : St) (hs : Hist) (Q : Regs → St → Prop) : dwp P [] r σ hs Q = Q r σ := Eq.trans rfl rfl
/-- What an operation gave, if it gives that again. -/
def readK (av : Option (AOp AVal)) (was : Option AVal) : St → Prop := fun σ' => match av with
  | some av => (evalV σ' av).map (·.1) = was
  | none => True
theorem dwp_op (d : Option Nat) (o : AOp Opd) (rc : List Nat) (rest : List (AOper × List Nat)) (r : Regs) (σ : St) (hs : Hist) (Q : Regs → St → Prop) :
    dwp P ((⟨d, .op o, none⟩, rc) :: rest) r σ hs Q = dstepK P rest d rc hs (histOf (.op o) r σ) r Q ((o.mapM (evalOpd r)).bind (evalV σ)) := by
  simp only [dwp, AIns.wp, dstepK]
  cases (o.mapM (evalOpd r)).bind (evalV σ) <;> rfl
theorem histOf_op (o : AOp Opd) (r : Regs) (σ : St) : histOf (.op o) r σ = readK (o.mapM (evalOpd r)) (((o.mapM (evalOpd r)).bind (evalV σ)).map (·.1)) := by
  funext σ'
  simp only [histOf, readK]
  cases o.mapM (evalOpd r) <;> rfl
@[simp] theorem readK_some (av : AOp AVal) (was : Option AVal) (σ : St) : readK (some av) was σ = ((evalV σ av).map (·.1) = was) := Eq.trans rfl rfl
@[simp] theorem dwp_op' (d : Option Nat) (o : AOp Opd) (rc : List Nat) (rest : List (AOper × List Nat)) (r : Regs) (σ : St) (hs : Hist) (Q : Regs → St → Prop) :
    dwp P ((⟨d, .op o, none⟩, rc) :: rest) r σ hs Q = dstepK P rest d rc hs (readK (o.mapM (evalOpd r)) (((o.mapM (evalOpd r)).bind (evalV σ)).map (·.1))) r Q ((o.mapM (evalOpd r)).bind (evalV σ)) := by
  rw [dwp_op, histOf_op]
@[simp] theorem dwp_pick (d : Option Nat) (c a b : Opd) (rc : List Nat) (rest : List (AOper × List Nat)) (r : Regs) (σ : St) (hs : Hist) (Q : Regs → St → Prop) : dwp P ((⟨d, .pick c a b, none⟩, rc) :: rest) r σ hs Q = dpickK P rest d rc hs r σ Q a b (evalOpd r c) := by
  simp only [dwp, AIns.wp]
  have hh : histOf (.pick c a b) r σ = fun _ => True := Eq.trans rfl rfl
  rw [hh]
  cases evalOpd r c with
  | none => rfl
  | some v =>
    cases v <;> first | rfl | skip
    rename_i t
    cases t
    · simp only [dpickK, dstepK, Bool.false_eq_true, if_false]; cases evalOpd r b <;> rfl
    · simp only [dpickK, dstepK, if_true]; cases evalOpd r a <;> rfl
@[simp] theorem dwp_call (d : Option Nat) (f : Opd) (args : List Opd) (rc : List Nat) (rest : List (AOper × List Nat)) (r : Regs) (σ : St) (hs : Hist) (Q : Regs → St → Prop) : dwp P ((⟨d, .call f args, none⟩, rc) :: rest) r σ hs Q = dcallK P rest d rc hs r σ Q (evalOpd r f) (listM (evalOpd r) args) := by
  simp only [dwp, AIns.wp]
  have hh : histOf (.call f args) r σ = fun _ => True := Eq.trans rfl rfl
  rw [hh]
  cases evalOpd r f with
  | none => rfl
  | some v => cases v <;> first | rfl | (cases listM (evalOpd r) args <;> rfl)
@[simp] theorem dwp_panic (d : Option Nat) (x : Opd) (rc : List Nat) (rest : List (AOper × List Nat)) (r : Regs) (σ : St) (hs : Hist) (Q : Regs → St → Prop) : dwp P ((⟨d, .panic x, none⟩, rc) :: rest) r σ hs Q = panicK P σ (evalOpd r x) := by
  simp only [dwp, AIns.wp, panicK]
  rfl
@[simp] theorem dwp_guard (d : Option Nat) (i : AIns) (t : Nat) (want : Bool) (rc : List Nat) (rest : List (AOper × List Nat)) (r : Regs) (σ : St) (hs : Hist) (Q : Regs → St → Prop) : dwp P ((⟨d, i, some (t, want)⟩, rc) :: rest) r σ hs Q = dguardK P ⟨d, i, none⟩ rc want rest hs r σ Q (r.lookup t) := by
  simp only [dwp, dguardK]
  cases List.lookup t r with
  | none => rfl
  | some v => cases v <;> first | rfl | (rename_i vs; cases vs <;> rfl)

@[simp] theorem again_nil (h : Hist) (σ : St) : again h σ [] = True := Eq.trans rfl rfl
def histK (σ : St) : Option (St → Prop) → Prop
  | some p => p σ
  | none => False
@[simp] theorem histK_some (σ : St) (p : St → Prop) : histK σ (some p) = p σ := Eq.trans rfl rfl
@[simp] theorem again_cons (h : Hist) (σ : St) (i : Nat) (is : List Nat) : again h σ (i :: is) = (histK σ h[i]? ∧ again h σ is) := by
  simp only [again]
  cases h[i]? <;> rfl

def resK (rs : List ARes) (Q : AVal → St → Prop) (σ : St) : Option AVal → Prop
  | some v => Q v σ
  | none => False
@[simp] theorem resK_some (rs : List ARes) (Q : AVal → St → Prop) (σ : St) (v : AVal) : resK rs Q σ (some v) = Q v σ := Eq.trans rfl rfl
@[simp] theorem resK_none (rs : List ARes) (Q : AVal → St → Prop) (σ : St) : resK rs Q σ none = False := Eq.trans rfl rfl
@[simp] theorem retPost_normal (rs : List ARes) (Q : AVal → St → Prop) (r : Regs) (σ : St) : retPost rs Q .normal r σ = resK rs Q σ (resA r σ rs) := by
  simp only [retPost]; cases resA r σ rs <;> rfl
@[simp] theorem retPost_ret (rs : List ARes) (Q : AVal → St → Prop) (r : Regs) (σ : St) : retPost rs Q .ret r σ = resK rs Q σ (resA r σ rs) := by
  simp only [retPost]; cases resA r σ rs <;> rfl

theorem lk_cons (t k : Nat) (v : AVal) (l : Regs) : List.lookup t ((k, v) :: l) = if t = k then some v else List.lookup t l := by
  simp only [List.lookup]
  by_cases h : t = k
  · simp [h]
  · have : (t == k) = false := by simpa using h
    rw [this, if_neg h]
@[simp] theorem norm_nil (r : Regs) : norm [] r = [] := Eq.trans rfl rfl
def consK (k : Nat) (l : Regs) : Option AVal → Regs
  | some v => (k, v) :: l
  | none => l
@[simp] theorem consK_some (k : Nat) (l : Regs) (v : AVal) : consK k l (some v) = (k, v) :: l := Eq.trans rfl rfl
@[simp] theorem consK_none (k : Nat) (l : Regs) : consK k l none = l := Eq.trans rfl rfl
@[simp] theorem norm_cons (k : Nat) (ks : List Nat) (r : Regs) : norm (k :: ks) r = consK k (norm ks r) (r.lookup k) := by
  simp only [norm, List.filterMap_cons]
  cases r.lookup k <;> rfl
@[simp] theorem setR_some (r : Regs) (d : Nat) (v : AVal) : setR r (some d) v = (d, v) :: r := Eq.trans rfl rfl
@[simp] theorem setR_none (r : Regs) (v : AVal) : setR r none v = r := Eq.trans rfl rfl
@[simp] theorem delU_some (r : Regs) (d : Nat) : delU r (some d) = (d, .tup []) :: r := Eq.trans rfl rfl
@[simp] theorem delU_none (r : Regs) : delU r none = r := Eq.trans rfl rfl
@[simp] theorem delR_none (r : Regs) : delR r none = r := Eq.trans rfl rfl
@[simp] theorem delR_nil (d : Nat) : delR [] (some d) = [] := Eq.trans rfl rfl
@[simp] theorem delR_cons (d k : Nat) (v : AVal) (r : Regs) : delR ((k, v) :: r) (some d) = if k = d then delR r (some d) else (k, v) :: delR r (some d) := by
  simp only [delR, List.filter_cons]
  by_cases h : k = d <;> simp [h]
@[simp] theorem evalOpd_t (r : Regs) (n : Nat) : evalOpd r (.t n) = r.lookup n := Eq.trans rfl rfl
@[simp] theorem evalOpd_c (r : Regs) (v : AVal) : evalOpd r (.c v) = some v := Eq.trans rfl rfl
@[simp] theorem listM_nil {α β : Type} (f : α → Option β) : listM f [] = some [] := Eq.trans rfl rfl
@[simp] theorem listM_cons {α β : Type} (f : α → Option β) (x : α) (xs : List α) : listM f (x :: xs) = (f x).bind fun y => (listM f xs).map (y :: ·) := Eq.trans rfl rfl
@[simp] theorem resA_one (r : Regs) (σ : St) (x : ARes) : resA r σ [x] = resOne r σ x := by
  simp only [resA, listM]; cases resOne r σ x <;> rfl
@[simp] theorem resA_many (r : Regs) (σ : St) (x y : ARes) (l : List ARes) : resA r σ (x :: y :: l) = (listM (resOne r σ) (x :: y :: l)).map .tup := by
  simp only [resA, listM]
  cases resOne r σ x with
  | none => rfl
  | some a =>
    cases resOne r σ y with
    | none => rfl
    | some b => cases listM (resOne r σ) l <;> rfl
@[simp] theorem resA_none (r : Regs) (σ : St) : resA r σ [] = some (.tup []) := Eq.trans rfl rfl
@[simp] theorem resOne_t (r : Regs) (σ : St) (n : Nat) : resOne r σ (.t n) = r.lookup n := Eq.trans rfl rfl
@[simp] theorem resOne_c1 (r : Regs) (σ : St) (n : Nat) : resOne r σ (.c1 n) = (r.lookup n).bind (load1 σ) := Eq.trans rfl rfl
@[simp] theorem resOne_cn (r : Regs) (σ : St) (n k : Nat) : resOne r σ (.cn n k) = (r.lookup n).bind fun x => (loadL σ k x).map .agg := Eq.trans rfl rfl
@[simp] theorem argR_nil (n : Nat) : argR n [] = [] := Eq.trans rfl rfl
@[simp] theorem argR_cons (n : Nat) (v : AVal) (vs : List AVal) : argR n (v :: vs) = (n, v) :: argR (n + 1) vs := Eq.trans rfl rfl

@[simp] theorem cellsOf_int (k : IntKind) (n : Int) : cellsOf (.int k n) = [.int k n] := Eq.trans rfl rfl
@[simp] theorem one_int (k : IntKind) (n : Int) : AVal.one (.int k n) = true := Eq.trans rfl rfl
@[simp] theorem cellsOf_bool (b : Bool) : cellsOf (.bool b) = [.bool b] := Eq.trans rfl rfl
@[simp] theorem one_bool (b : Bool) : AVal.one (.bool b) = true := Eq.trans rfl rfl
@[simp] theorem cellsOf_str (s : ByteArray) : cellsOf (.str s) = [.str s] := Eq.trans rfl rfl
@[simp] theorem one_str (s : ByteArray) : AVal.one (.str s) = true := Eq.trans rfl rfl
@[simp] theorem cellsOf_ptr (a o : Nat) : cellsOf (.ptr a o) = [.ptr a o] := Eq.trans rfl rfl
@[simp] theorem one_ptr (a o : Nat) : AVal.one (.ptr a o) = true := Eq.trans rfl rfl
@[simp] theorem cellsOf_nilp  : cellsOf (.nilp) = [.nilp] := Eq.trans rfl rfl
@[simp] theorem one_nilp  : AVal.one (.nilp) = true := Eq.trans rfl rfl
@[simp] theorem cellsOf_iptr (cs : List AVal) : cellsOf (.iptr cs) = [.iptr cs] := Eq.trans rfl rfl
@[simp] theorem one_iptr (cs : List AVal) : AVal.one (.iptr cs) = true := Eq.trans rfl rfl
@[simp] theorem cellsOf_sl (a o l c : Nat) (t : Bool) : cellsOf (.sl a o l c t) = [.sl a o l c t] := Eq.trans rfl rfl
@[simp] theorem one_sl (a o l c : Nat) (t : Bool) : AVal.one (.sl a o l c t) = true := Eq.trans rfl rfl
@[simp] theorem cellsOf_nilsl  : cellsOf (.nilsl) = [.nilsl] := Eq.trans rfl rfl
@[simp] theorem one_nilsl  : AVal.one (.nilsl) = true := Eq.trans rfl rfl
@[simp] theorem cellsOf_isl (cs : List AVal) (l : Nat) (t : Bool) : cellsOf (.isl cs l t) = [.isl cs l t] := Eq.trans rfl rfl
@[simp] theorem one_isl (cs : List AVal) (l : Nat) (t : Bool) : AVal.one (.isl cs l t) = true := Eq.trans rfl rfl
@[simp] theorem cellsOf_map (a : Nat) : cellsOf (.map a) = [.map a] := Eq.trans rfl rfl
@[simp] theorem one_map (a : Nat) : AVal.one (.map a) = true := Eq.trans rfl rfl
@[simp] theorem cellsOf_nilmap  : cellsOf (.nilmap) = [.nilmap] := Eq.trans rfl rfl
@[simp] theorem one_nilmap  : AVal.one (.nilmap) = true := Eq.trans rfl rfl
@[simp] theorem cellsOf_fn (f : FuncId) (x y : List AVal) : cellsOf (.fn f x y) = [.fn f x y] := Eq.trans rfl rfl
@[simp] theorem one_fn (f : FuncId) (x y : List AVal) : AVal.one (.fn f x y) = true := Eq.trans rfl rfl
@[simp] theorem cellsOf_nilfn  : cellsOf (.nilfn) = [.nilfn] := Eq.trans rfl rfl
@[simp] theorem one_nilfn  : AVal.one (.nilfn) = true := Eq.trans rfl rfl
@[simp] theorem cellsOf_iface (t : TypeId) (v : AVal) : cellsOf (.iface t v) = [.iface t v] := Eq.trans rfl rfl
@[simp] theorem one_iface (t : TypeId) (v : AVal) : AVal.one (.iface t v) = true := Eq.trans rfl rfl
@[simp] theorem cellsOf_niliface  : cellsOf (.niliface) = [.niliface] := Eq.trans rfl rfl
@[simp] theorem one_niliface  : AVal.one (.niliface) = true := Eq.trans rfl rfl
@[simp] theorem cellsOf_agg (cs : List AVal) : cellsOf (.agg cs) = cs := Eq.trans rfl rfl
@[simp] theorem one_agg (cs : List AVal) : AVal.one (.agg cs) = false := Eq.trans rfl rfl
@[simp] theorem one_tup (cs : List AVal) : AVal.one (.tup cs) = false := Eq.trans rfl rfl
attribute [simp] AOp.mapM evalV isNil aeqn abin abinI made allocV load1 loadL

end
end Go.Proofs.Ytopagbaokokjdaa.AM

/- What a call makes and gives may be taken as unchanging: its slices then hold their cells themselves, and the memory is as it was. -/
namespace Go.Proofs.Ytopagbaokokjdaa.AM
open Go.RowKit
set_option linter.unusedVariables false
set_option linter.unusedSimpArgs false

/-- A slice over a block that is new: its cells. -/
def frz1 (lo : Nat) (m : Mem) : AVal → Option AVal
  | .sl n o len cap t => if n < lo then some (.sl n o len cap t) else match m.get n with
    | some (.cells es vals) => if o + len * es ≤ vals.length ∧ uptoL lo vals = true then some (.isl ((vals.drop o).take (len * es)) len (t && decide (cap = len))) else none
    | some (.ro es vals) => if o + len * es ≤ vals.length ∧ uptoL lo vals = true then some (.isl ((vals.drop o).take (len * es)) len (t && decide (cap = len))) else none
    | _ => none
  | v => if v.upto lo then some v else none

def frz (lo : Nat) (m : Mem) : AVal → Option AVal
  | .tup vs => (listM (frz1 lo m) vs).map .tup
  | v => frz1 lo m v

section
variable {P : Program} {B : Nat} {w0 : Root} {w w' : World} {ρ ρ' : Rho} {I I' : Imm} {σ σ' : St}

open Classical in
/-- The new blocks' cells, as they are now. -/
noncomputable def frzI (lo : Nat) (ρ : Rho) (σ : St) (w : World) (I : Imm) : Imm := fun b => match I b with
  | some c => some c
  | none => if ∃ n p es vals, lo ≤ n ∧ ρ n = some p ∧ p.b = b ∧ σ.mem.get n = some (.cells es vals) then
      match w.heap[b]? with
      | some (.cells c _ _) => some c
      | _ => none
    else none

theorem frzI_le (lo : Nat) (ρ : Rho) (σ : St) (w : World) (I : Imm) : ILe I (frzI lo ρ σ w I) := fun b c h => by simp only [frzI, h]

theorem frzI_new {lo : Nat} {n es : Nat} {p : Place} {vals : List AVal} {c : Array Value} {e : TypeId} {fr : Nat × Nat} (hI : I p.b = none) (hn : lo ≤ n) (hρ : ρ n = some p) (hm : σ.mem.get n = some (.cells es vals)) (hh : w.heap[p.b]? = some (.cells c e fr)) : frzI lo ρ σ w I p.b = some c := by
  simp only [frzI, hI, hh]
  rw [if_pos ⟨n, p, es, vals, hn, hρ, rfl, hm⟩]

/-- New blocks are left out, what is in them stands as unchanging. -/
theorem Rel.freeze (rl : Rel B w0 ρ I σ w) (rl' : Rel B w0 ρ' I' σ' w') (ex : Ext ρ I σ ρ' I' σ') (ho : Old σ σ') : Rel B w0 ρ (frzI σ.next ρ' σ' w' I') σ w' := by
  have rs := rl.scrub rl' ex ho
  exact {
    low := rs.low
    base := rs.base
    blk := fun a p b h1 h2 => (rs.blk a p b h1 h2).world (RLe.refl _) (frzI_le _ _ _ _ _) rfl
    inj := rs.inj
    imm' := ⟨(fun b c hb => by
      simp only [frzI] at hb
      split at hb
      · rename_i c' hc'
        cases hb
        exact rs.imm b c hc'
      · split at hb
        · split at hb
          · rename_i c' e fr hh; cases hb; exact ⟨e, fr, hh⟩
          · cases hb
        · cases hb), rs.gok.mono (frzI_le _ _ _ _ _)⟩
    sep := fun a p b h1 h2 h3 => by
      simp only [frzI, rs.sep a p b h1 h2 h3]
      rw [if_neg]
      rintro ⟨n, p', es, vals, g1, g2, g3, g4⟩
      have ha := rl.mlt h2
      exact rl'.inj a n p p' b (.cells es vals) (by rw [ex.rho a ha]; exact h1) g2 (by rw [ho a ha]; exact h2) g4 h3 (by omega) g3.symm
    new := rs.new
    lt := rs.lt
    dom := rs.dom
    memdom := rs.memdom
    ilow := fun b c hb hlt => by
      simp only [frzI] at hb
      split at hb
      · rename_i c' hc'
        exact rs.ilow b c' hc' hlt
      · split at hb
        · rename_i hex
          obtain ⟨n, p, es, vals, g1, g2, g3, g4⟩ := hex
          have := (rl'.new n p _ g2 g4 rfl).1
          omega
        · cases hb }

theorem frz1_rel (rl : Rel B w0 ρ I σ w) (rl' : Rel B w0 ρ' I' σ' w') (ex : Ext ρ I σ ρ' I' σ') {v v' : AVal} {cv : Value} (h : frz1 σ.next σ'.mem v = some v') (hv : VRel ρ' I' v cv) : VRel ρ (frzI σ.next ρ' σ' w' I') v' cv := by
  have hle := frzI_le σ.next ρ' σ' w' I'
  have old : ∀ {x : AVal} {cx : Value}, x.upto σ.next = true → VRel ρ' I' x cx → VRel ρ (frzI σ.next ρ' σ' w' I') x cx := fun hu hx =>
    (VRel.agree (fun a ha => (ex.rho a ha).symm) _ _ hu hx).mono (RLe.refl _) hle
  have cold : ∀ {xs : List AVal} {f : Nat → Option Value}, uptoL σ.next xs = true → CRel ρ' I' xs f → CRel ρ (frzI σ.next ρ' σ' w' I') xs f := fun hu hx =>
    (CRel.agree (fun a ha => (ex.rho a ha).symm) _ _ hu hx).mono (RLe.refl _) hle _ _ _ (fun _ _ h => h)
  cases v with
  | sl n o len cap t =>
    simp only [frz1] at h
    split at h
    · rename_i hn
      cases h
      exact old (by simp [AVal.upto, hn]) hv
    · rename_i hn
      have key : ∀ (es : Nat) (vals : List AVal) (c : Array Value) (p : Place), o + len * es ≤ vals.length → uptoL σ.next vals = true → ρ' n = some p → vals.all AVal.one = true → p.es = es → CRel ρ' I' vals (fun j => c[p.base + j]?) → frzI σ.next ρ' σ' w' I' p.b = some c →
          VRel ρ (frzI σ.next ρ' σ' w' I') (.isl ((vals.drop o).take (len * es)) len (t && decide (cap = len))) cv := by
        intro es vals c p hl hu hp hone hes hc hI
        simp only [VRel] at hv ⊢
        obtain ⟨p', ad, cap', hp', rfl, h1, h2, h3, h4, h5, h6⟩ := hv
        rw [hp] at hp'; cases hp'
        refine ⟨ad, cap', rfl, by omega, h3, ?_, ?_, ?_⟩
        · intro ht
          simp only [Bool.and_eq_true, decide_eq_true_eq] at ht
          rw [h4 ht.1]; exact ht.2
        · rw [List.all_eq_true]
          intro x hx
          exact List.all_eq_true.1 hone x (List.mem_of_mem_drop (List.mem_of_mem_take hx))
        · rcases h5 with h5 | h5
          · have hl0 : len = 0 := by omega
            subst hl0
            simp [CRel]
          · subst h5
            have hd := ((cold hu hc).drop o).take (len * es)
            refine hd.congr fun j hj => ?_
            by_cases hj0 : j = 0 <;> simp [icell, Addr.add, hj0, hI, Nat.add_assoc]
      split at h
      · rename_i es vals hm
        split at h
        · rename_i hh
          cases h
          have hv0 := hv
          simp only [VRel] at hv0
          obtain ⟨p, _, _, hp, _⟩ := hv0
          have hb := rl'.blk n p _ hp hm
          obtain ⟨k1, k2, k3, c, e, fr, k4, k5, k6, k7⟩ := hb
          exact key es vals c p hh.1 hh.2 hp k2 k1 k7 (frzI_new (rl'.sep n p _ hp hm rfl) (by omega) hp hm k4)
        · cases h
      · rename_i es vals hm
        split at h
        · rename_i hh
          cases h
          have hv0 := hv
          simp only [VRel] at hv0
          obtain ⟨p, _, _, hp, _⟩ := hv0
          have hb := rl'.blk n p _ hp hm
          obtain ⟨k1, k2, c, k3, k4⟩ := hb
          exact key es vals c p hh.1 hh.2 hp k2 k1 k4 (hle _ _ k3)
        · cases h
      · cases h
  | _ =>
    simp only [frz1] at h
    split at h
    · rename_i hu; cases h; exact old hu hv
    · cases h

theorem ACall.freeze {f : FuncId} {args : List AVal} {Q : AVal → St → Prop} (h : ACall P f args σ fun v σ' => Old σ σ' ∧ ∃ v', frz σ.next σ'.mem v = some v' ∧ Q v' σ) : ACall P f args σ Q := by
  refine ACall.ofCalls h.1 fun B w0 ρ I w cargs rl h1 h2 => (h.calls B w0 ρ I w cargs rl h1 h2).mono ?_
  rintro e w' ⟨v, σ', ρ', I', cv, rfl, hv, rl', ex, ho, v', hf, hq⟩
  refine ⟨v', σ, ρ, frzI σ.next ρ' σ' w' I', cv, rfl, ?_, rl.freeze rl' ex ho, ⟨fun _ _ => rfl, fun b c hb => frzI_le _ _ _ _ _ b c (ex.imm b c hb), Nat.le_refl _, fun _ _ _ => rfl⟩, hq⟩
  cases v with
  | tup vs =>
    simp only [frz, Option.map_eq_some_iff] at hf
    obtain ⟨us, hus, rfl⟩ := hf
    obtain ⟨l1, l2⟩ := listM_get hus
    simp only [VRel] at hv ⊢
    obtain ⟨vs', rfl, hs, hc⟩ := hv
    refine ⟨vs', rfl, by rw [hs, l1], CRel.mk fun j y hy => ?_⟩
    obtain ⟨x, hx, hxy⟩ := l2 j y hy
    obtain ⟨u, hu, hux⟩ := hc.get j x hx
    exact ⟨u, hu, frz1_rel rl rl' ex hxy hux⟩
  | _ => simp only [frz] at hf; exact frz1_rel rl rl' ex hf hv

/-- What is computed from unchanging values alone, in no memory, gives unchanging values, in any. -/
theorem ACall.pure {f : FuncId} {args : List AVal} {Q : AVal → St → Prop} (ha : uptoL 0 args = true) (h : ACall P f args σ0 fun v σ' => ∃ v', frz 0 σ'.mem v = some v' ∧ v'.upto 0 = true ∧ Q v' σ) : ACall P f args σ Q := by
  have h := ACall.freeze (Q := fun v _ => v.upto 0 = true ∧ Q v σ) (h.mono fun v σ' ⟨v', h1, h2, h3⟩ => ⟨fun a ha => absurd ha (by simp), v', h1, h2, h3⟩)
  refine ACall.ofCalls h.1 fun B w0 ρ I w cargs rl h1 h2 => (h.calls w.heap.size _ ρ0 I w cargs rl.empty h1 (CRel.agree (n := 0) (fun a ha => by omega) _ _ ha h2)).mono ?_
  rintro e w' ⟨v, σ', ρ', I', cv, rfl, hv, rl', ex, hu, hq⟩
  have rb := rl.below rl'.low.below rl'.low.drawn
  have hlow : ∀ b c, I' b = some c → b < w.heap.size → I b = some c := fun b c hb hlt => by
    have h3 := rl'.ilow b c hb hlt
    obtain ⟨c', h4⟩ := Option.isSome_iff_exists.1 h3
    rw [ex.imm b c' h4] at hb
    cases hb; exact h4
  refine ⟨v, σ, ρ, I', cv, rfl, VRel.agree (n := 0) (fun a ha => by omega) _ _ hu hv, ?_, ⟨fun _ _ => rfl, ex.imm, Nat.le_refl _, fun _ _ _ => rfl⟩, hq⟩
  exact {
    low := rb.low
    base := rb.base
    blk := fun a p b h1 h2 => (rb.blk a p b h1 h2).world (RLe.refl _) ex.imm rfl
    inj := rb.inj
    imm' := rl'.imm'
    sep := fun a p b h1 h2 h3 => by
      cases hb : I' p.b with
      | none => rfl
      | some c =>
        have := hlow _ _ hb (rl.lt a p h1)
        rw [rl.sep a p b h1 h2 h3] at this
        cases this
    new := rb.new
    lt := rb.lt
    dom := rb.dom
    memdom := rb.memdom
    ilow := fun b c hb hlt => rl.ilow b c (hlow b c hb (Nat.lt_of_lt_of_le hlt rl.base)) hlt }

end
end Go.Proofs.Ytopagbaokokjdaa.AM

/- A slice that a call gives, taken as unchanging, though the call has written elsewhere. -/
namespace Go.Proofs.Ytopagbaokokjdaa.AM
open Go.RowKit
set_option linter.unusedVariables false
set_option linter.unusedSimpArgs false

section
variable {P : Program} {B : Nat} {w0 : Root} {w w' : World} {ρ ρ' : Rho} {I I' : Imm} {σ σ' : St}

def frzB (b : Nat) (c : Array Value) (I : Imm) : Imm := fun k => if k = b then some c else I k

theorem Rel.freeze1 (rl : Rel B w0 ρ I σ w) {n es : Nat} {vals : List AVal} {p : Place} (hρ : ρ n = some p) (hm : σ.mem.get n = some (.cells es vals)) :
    ∃ c, CRel ρ I vals (fun j => c[p.base + j]?) ∧ p.es = es ∧ vals.all AVal.one = true ∧ ILe I (frzB p.b c I) ∧ Rel B w0 ρ (frzB p.b c I) ⟨σ.mem.del n, σ.next⟩ w := by
  obtain ⟨k1, k2, k3, c, e, fr, k4, k5, k6, k7⟩ := rl.blk n p _ hρ hm
  have hI := rl.sep n p _ hρ hm rfl
  have hle : ILe I (frzB p.b c I) := fun b c' hb => by
    simp only [frzB]
    split
    · rename_i hbp; rw [hbp, hI] at hb; cases hb
    · exact hb
  have g : ∀ {a : Nat} {b : Blk}, (σ.mem.del n).get a = some b → a ≠ n ∧ σ.mem.get a = some b := fun {a b} h => by
    rw [Mem.get_del] at h
    split at h
    · cases h
    · rename_i hne; exact ⟨hne, h⟩
  refine ⟨c, k7, k1, k2, hle, ?_⟩
  exact {
    low := rl.low
    base := rl.base
    blk := fun a q b h1 h2 => (rl.blk a q b h1 (g h2).2).world (RLe.refl _) hle rfl
    inj := fun a a' q q' b b' h1 h2 h3 h4 => rl.inj a a' q q' b b' h1 h2 (g h3).2 (g h4).2
    imm' := ⟨(fun b c' hb => by
      simp only [frzB] at hb
      split at hb
      · rename_i hbp; cases hb; rw [hbp]; exact ⟨e, fr, k4⟩
      · exact rl.imm b c' hb), rl.gok.mono hle⟩
    sep := fun a q b h1 h2 h3 => by
      have := rl.inj a n q p b _ h1 hρ (g h2).2 hm h3 (g h2).1
      simp only [frzB, if_neg this]
      exact rl.sep a q b h1 (g h2).2 h3
    new := fun a q b h1 h2 => rl.new a q b h1 (g h2).2
    lt := rl.lt
    dom := rl.dom
    memdom := fun a ha => by
      show (σ.mem.del n).get a = none
      rw [Mem.get_del]; split
      · rfl
      · exact rl.memdom a ha
    ilow := fun b c' hb hlt => by
      simp only [frzB] at hb
      split at hb
      · rename_i hbp
        have := (rl.new n p _ hρ hm rfl).1
        omega
      · exact rl.ilow b c' hb hlt }

theorem ACall.freeze1 {f : FuncId} {args : List AVal} {Q : AVal → St → Prop} (h : ACall P f args σ fun v σ' => Q v σ' ∨ ∃ n o len cap t es vals, v = .sl n o len cap t ∧ σ'.mem.get n = some (.cells es vals) ∧ σ.next ≤ n ∧ o + len * es ≤ vals.length ∧
    Q (.isl ((vals.drop o).take (len * es)) len (t && decide (cap = len))) ⟨σ'.mem.del n, σ'.next⟩) : ACall P f args σ Q := by
  refine ACall.ofCalls h.1 fun B w0 ρ I w cargs rl h1 h2 => (h.calls B w0 ρ I w cargs rl h1 h2).mono ?_
  rintro e w' ⟨v, σ', ρ', I', cv, rfl, hv, rl', ex, hq | ⟨n, o, len, cap, t, es, vals, rfl, hm, hn, hl, hq⟩⟩
  · exact ⟨v, σ', ρ', I', cv, rfl, hv, rl', ex, hq⟩
  · have hv0 := hv
    simp only [VRel] at hv
    obtain ⟨p, ad, cap', hp, rfl, g1, g2, g3, g4, g5, g6⟩ := hv
    obtain ⟨c, hc, hes, hone, hle, rl2⟩ := rl'.freeze1 hp hm
    refine ⟨_, _, ρ', frzB p.b c I', _, rfl, ?_, rl2, ⟨ex.rho, fun b c' hb => hle _ _ (ex.imm _ _ hb), ex.next, fun a ha hna => by
      show (σ'.mem.del n).get a = _
      rw [Mem.get_del, if_neg (by omega)]; exact ex.keep a ha hna⟩, hq⟩
    simp only [VRel]
    refine ⟨ad, cap', rfl, by omega, g3, ?_, ?_, ?_⟩
    · intro ht
      simp only [Bool.and_eq_true, decide_eq_true_eq] at ht
      rw [g4 ht.1]; exact ht.2
    · rw [List.all_eq_true]
      intro x hx
      exact List.all_eq_true.1 hone x (List.mem_of_mem_drop (List.mem_of_mem_take hx))
    · rcases g5 with g5 | g5
      · have hl0 : len = 0 := by omega
        subst hl0
        simp [CRel]
      · subst g5
        have hd := (((hc.mono (RLe.refl _) hle _ _ _ (fun _ _ h => h)) : CRel ρ' (frzB p.b c I') vals (fun j => c[p.base + j]?)).drop o).take (len * es)
        refine hd.congr fun j hj => ?_
        by_cases hj0 : j = 0 <;> simp [icell, Addr.add, hj0, frzB, Nat.add_assoc]

end
end Go.Proofs.Ytopagbaokokjdaa.AM

/- The same for slices of slices: what lies in a new block is taken as unchanging too. -/
namespace Go.Proofs.Ytopagbaokokjdaa.AM
open Go.RowKit
set_option linter.unusedVariables false
set_option linter.unusedSimpArgs false

/-- A value with its new slices' cells in it, d blocks deep. -/
def frzD (lo : Nat) (m : Mem) : Nat → AVal → Option AVal
  | 0, v => if v.upto lo then some v else none
  | d + 1, v => match v with
    | .sl n o len cap t => if n < lo then some (.sl n o len cap t) else match m.get n with
      | some (.cells es vals) => if o + len * es ≤ vals.length then (listM (frzD lo m d) ((vals.drop o).take (len * es))).map fun cs => .isl cs len (t && decide (cap = len)) else none
      | _ => none
    | .tup vs => (listM (frzD lo m d) vs).map .tup
    | .agg vs => (listM (frzD lo m d) vs).map .agg
    | v => if v.upto lo then some v else none

section
variable {P : Program} {B : Nat} {w0 : Root} {w w' : World} {ρ ρ' : Rho} {I I' : Imm} {σ σ' : St}

theorem frzD_one (lo : Nat) (m : Mem) : ∀ (d : Nat) (v v' : AVal), frzD lo m d v = some v' → v.one = true → v'.one = true := by
  intro d v v' h h1
  cases d with
  | zero =>
    simp only [frzD] at h
    split at h
    · cases h; exact h1
    · cases h
  | succ d =>
    cases v <;> simp only [frzD] at h
    case sl n o len cap t =>
      split at h
      · cases h; rfl
      · split at h
        · split at h
          · simp only [Option.map_eq_some_iff] at h
            obtain ⟨cs, _, rfl⟩ := h; rfl
          · cases h
        · cases h
    case tup vs => simp at h1
    case agg vs => simp at h1
    all_goals
      split at h
      · cases h; exact h1
      · cases h

theorem frzD_rel (rl : Rel B w0 ρ I σ w) (rl' : Rel B w0 ρ' I' σ' w') (ex : Ext ρ I σ ρ' I' σ') : ∀ (d : Nat) {v v' : AVal} {cv : Value}, frzD σ.next σ'.mem d v = some v' → VRel ρ' I' v cv → VRel ρ (frzI σ.next ρ' σ' w' I') v' cv := by
  have hle := frzI_le σ.next ρ' σ' w' I'
  have old : ∀ {x : AVal} {cx : Value}, x.upto σ.next = true → VRel ρ' I' x cx → VRel ρ (frzI σ.next ρ' σ' w' I') x cx := fun hu hx =>
    (VRel.agree (fun a ha => (ex.rho a ha).symm) _ _ hu hx).mono (RLe.refl _) hle
  intro d
  induction d with
  | zero =>
    intro v v' cv h hv
    simp only [frzD] at h
    split at h
    · rename_i hu; cases h; exact old hu hv
    · cases h
  | succ d ih =>
    intro v v' cv h hv
    have ihl : ∀ {xs ys : List AVal} {f : Nat → Option Value}, listM (frzD σ.next σ'.mem d) xs = some ys → CRel ρ' I' xs f → CRel ρ (frzI σ.next ρ' σ' w' I') ys f := fun {xs ys f} hl hc => by
      obtain ⟨l1, l2⟩ := listM_get hl
      refine CRel.mk fun j y hy => ?_
      obtain ⟨x, hx, hxy⟩ := l2 j y hy
      obtain ⟨u, hu, hux⟩ := hc.get j x hx
      exact ⟨u, hu, ih hxy hux⟩
    have ihone : ∀ {xs ys : List AVal}, listM (frzD σ.next σ'.mem d) xs = some ys → xs.all AVal.one = true → ys.all AVal.one = true := fun {xs ys} hl h1 => by
      obtain ⟨l1, l2⟩ := listM_get hl
      rw [List.all_eq_true]
      intro y hy
      obtain ⟨j, hj⟩ := List.mem_iff_getElem?.1 hy
      obtain ⟨x, hx, hxy⟩ := l2 j y hj
      exact frzD_one _ _ d x y hxy (List.all_eq_true.1 h1 x (List.mem_of_getElem? hx))
    cases v <;> simp only [frzD] at h
    case sl n o len cap t =>
      split at h
      · rename_i hn
        cases h
        exact old (by simp [AVal.upto, hn]) hv
      · rename_i hn
        split at h
        · rename_i es vals hm
          split at h
          · rename_i hl
            simp only [Option.map_eq_some_iff] at h
            obtain ⟨cs, hcs, rfl⟩ := h
            simp only [VRel] at hv ⊢
            obtain ⟨p, ad, cap', hp, rfl, h1, h2, h3, h4, h5, h6⟩ := hv
            obtain ⟨k1, k2, k3, c, e, fr, k4, k5, k6, k7⟩ := rl'.blk n p _ hp hm
            have hI := frzI_new (rl'.sep n p _ hp hm rfl) (by omega : σ.next ≤ n) hp hm k4
            refine ⟨ad, cap', rfl, by omega, h3, ?_, ihone hcs ?_, ?_⟩
            · intro ht
              simp only [Bool.and_eq_true, decide_eq_true_eq] at ht
              rw [h4 ht.1]; exact ht.2
            · rw [List.all_eq_true]
              intro x hx
              exact List.all_eq_true.1 k2 x (List.mem_of_mem_drop (List.mem_of_mem_take hx))
            · have hlen := (listM_get hcs).1
              rcases h5 with h5 | h5
              · have hl0 : len = 0 := by omega
                subst hl0
                simp at hlen
                subst hlen
                simp [CRel]
              · subst h5
                have hd := (k7.drop o).take (len * es)
                refine (ihl hcs hd).congr fun j hj => ?_
                by_cases hj0 : j = 0 <;> simp [icell, Addr.add, hj0, hI, Nat.add_assoc]
          · cases h
        · cases h
    case tup vs =>
      simp only [Option.map_eq_some_iff] at h
      obtain ⟨us, hus, rfl⟩ := h
      simp only [VRel] at hv ⊢
      obtain ⟨vs', rfl, hs, hc⟩ := hv
      exact ⟨vs', rfl, by rw [hs, (listM_get hus).1], ihl hus hc⟩
    case agg vs =>
      simp only [Option.map_eq_some_iff] at h
      obtain ⟨us, hus, rfl⟩ := h
      simp only [VRel] at hv ⊢
      obtain ⟨vs', rfl, hs, ho, hc⟩ := hv
      exact ⟨vs', rfl, by rw [hs, (listM_get hus).1], ihone hus ho, ihl hus hc⟩
    all_goals
      split at h
      · rename_i hu; cases h; exact old hu hv
      · cases h

theorem ACall.freezeD (d : Nat) {f : FuncId} {args : List AVal} {Q : AVal → St → Prop} (h : ACall P f args σ fun v σ' => Old σ σ' ∧ ∃ v', frzD σ.next σ'.mem d v = some v' ∧ Q v' σ) : ACall P f args σ Q := by
  refine ACall.ofCalls h.1 fun B w0 ρ I w cargs rl h1 h2 => (h.calls B w0 ρ I w cargs rl h1 h2).mono ?_
  rintro e w' ⟨v, σ', ρ', I', cv, rfl, hv, rl', ex, ho, v', hf, hq⟩
  exact ⟨v', σ, ρ, frzI σ.next ρ' σ' w' I', cv, rfl, frzD_rel rl rl' ex d hf hv, rl.freeze rl' ex ho, ⟨fun _ _ => rfl, fun b c hb => frzI_le _ _ _ _ _ b c (ex.imm b c hb), Nat.le_refl _, fun _ _ _ => rfl⟩, hq⟩

end
end Go.Proofs.Ytopagbaokokjdaa.AM

/- What an argument's width says of its number. -/
namespace Go.Proofs.Ytopagbaokokjdaa.AM
open Go.RowKit
theorem wf_u8 {n : Int} (h : (Lit.int .u8 n).wf = true) : ∃ k : Nat, n = (k : Int) ∧ k < 256 := by
  have h2 : IntKind.u8.min ≤ n ∧ n ≤ IntKind.u8.max := by simpa [Lit.wf] using h
  have e1 : IntKind.u8.min = 0 := by decide +kernel
  have e2 : IntKind.u8.max = 255 := by decide +kernel
  exact ⟨n.toNat, by omega, by omega⟩
theorem wf_u16 {n : Int} (h : (Lit.int .u16 n).wf = true) : ∃ k : Nat, n = (k : Int) ∧ k < 65536 := by
  have h2 : IntKind.u16.min ≤ n ∧ n ≤ IntKind.u16.max := by simpa [Lit.wf] using h
  have e1 : IntKind.u16.min = 0 := by decide +kernel
  have e2 : IntKind.u16.max = 65535 := by decide +kernel
  exact ⟨n.toNat, by omega, by omega⟩
theorem wf_u32 {n : Int} (h : (Lit.int .u32 n).wf = true) : ∃ k : Nat, n = (k : Int) ∧ k < 4294967296 := by
  have h2 : IntKind.u32.min ≤ n ∧ n ≤ IntKind.u32.max := by simpa [Lit.wf] using h
  have e1 : IntKind.u32.min = 0 := by decide +kernel
  have e2 : IntKind.u32.max = 4294967295 := by decide +kernel
  exact ⟨n.toNat, by omega, by omega⟩
theorem wf_u64 {n : Int} (h : (Lit.int .u64 n).wf = true) : ∃ k : Nat, n = (k : Int) ∧ k < 18446744073709551616 := by
  have h2 : IntKind.u64.min ≤ n ∧ n ≤ IntKind.u64.max := by simpa [Lit.wf] using h
  have e1 : IntKind.u64.min = 0 := by decide +kernel
  have e2 : IntKind.u64.max = 18446744073709551615 := by decide +kernel
  exact ⟨n.toNat, by omega, by omega⟩
theorem wf_i64 {n : Int} (h : (Lit.int .i64 n).wf = true) : -9223372036854775808 ≤ n ∧ n ≤ 9223372036854775807 := by
  have h2 : IntKind.i64.min ≤ n ∧ n ≤ IntKind.i64.max := by simpa [Lit.wf] using h
  have e1 : IntKind.i64.min = -9223372036854775808 := by decide +kernel
  have e2 : IntKind.i64.max = 9223372036854775807 := by decide +kernel
  omega
end Go.Proofs.Ytopagbaokokjdaa.AM

/- Small things for contracts: lists in step, bytes, what is frozen. -/
namespace Go.Proofs.Ytopagbaokokjdaa.AM
open Go.RowKit
set_option maxRecDepth 100000
set_option linter.unusedVariables false
set_option linter.unusedSimpArgs false

mutual
theorem AVal.upto_mono {n m : Nat} (h : n ≤ m) : (v : AVal) → v.upto n = true → v.upto m = true
  | .ptr a _, hv => by simp only [AVal.upto, decide_eq_true_eq] at *; omega
  | .iptr cs, hv => by simp only [AVal.upto] at *; exact AVal.uptoL_mono h cs hv
  | .sl a _ _ _ _, hv => by simp only [AVal.upto, decide_eq_true_eq] at *; omega
  | .isl cs _ _, hv => by simp only [AVal.upto] at *; exact AVal.uptoL_mono h cs hv
  | .map a, hv => by simp only [AVal.upto, decide_eq_true_eq] at *; omega
  | .yld a, hv => by simp only [AVal.upto, decide_eq_true_eq] at *; omega
  | .fn _ xs ys, hv => by
    simp only [AVal.upto, Bool.and_eq_true] at *
    exact ⟨AVal.uptoL_mono h xs hv.1, AVal.uptoL_mono h ys hv.2⟩
  | .iface _ v, hv => by simp only [AVal.upto] at *; exact AVal.upto_mono h v hv
  | .agg cs, hv => by simp only [AVal.upto] at *; exact AVal.uptoL_mono h cs hv
  | .tup vs, hv => by simp only [AVal.upto] at *; exact AVal.uptoL_mono h vs hv
  | .int _ _, _ => rfl
  | .bool _, _ => rfl
  | .str _, _ => rfl
  | .nilp, _ => rfl
  | .nilsl, _ => rfl
  | .nilmap, _ => rfl
  | .nilfn, _ => rfl
  | .niliface, _ => rfl
theorem AVal.uptoL_mono {n m : Nat} (h : n ≤ m) : (vs : List AVal) → uptoL n vs = true → uptoL m vs = true
  | [], _ => rfl
  | v :: vs, hv => by
    simp only [uptoL, Bool.and_eq_true] at *
    exact ⟨AVal.upto_mono h v hv.1, AVal.uptoL_mono h vs hv.2⟩
end

def All2 {α β : Type} (R : α → β → Prop) : List α → List β → Prop
  | [], [] => True
  | a :: la, b :: bs => R a b ∧ All2 R la bs
  | _, _ => False
theorem All2.snoc {α β : Type} {R : α → β → Prop} {a : α} {b : β} (hr : R a b) : ∀ {la : List α} {bs : List β}, All2 R la bs → All2 R (la ++ [a]) (bs ++ [b])
  | [], [], _ => ⟨hr, trivial⟩
  | x :: la, y :: bs, h => ⟨h.1, All2.snoc hr h.2⟩
  | [], _ :: _, h => h.elim
  | _ :: _, [], h => h.elim
theorem All2.imp {α β : Type} {R S : α → β → Prop} (hrs : ∀ a b, R a b → S a b) : ∀ {la : List α} {bs : List β}, All2 R la bs → All2 S la bs
  | [], [], _ => trivial
  | x :: la, y :: bs, h => ⟨hrs _ _ h.1, All2.imp hrs h.2⟩
  | [], _ :: _, h => h.elim
  | _ :: _, [], h => h.elim
theorem All2.len {α β : Type} {R : α → β → Prop} : ∀ {la : List α} {bs : List β}, All2 R la bs → la.length = bs.length
  | [], [], _ => rfl
  | x :: la, y :: bs, h => by simp [All2.len h.2]
  | [], _ :: _, h => h.elim
  | _ :: _, [], h => h.elim
theorem All2.listM {α β : Type} {R : α → β → Prop} {f : β → Option AVal} {g : α → AVal} (hr : ∀ a b, R a b → f b = some (g a)) : ∀ {la : List α} {bs : List β}, All2 R la bs → AM.listM f bs = some (la.map g)
  | [], [], _ => rfl
  | x :: la, y :: bs, h => by
    rw [listM_cons, hr _ _ h.1, All2.listM hr h.2]; rfl
  | [], _ :: _, h => h.elim
  | _ :: _, [], h => h.elim
theorem listM_id {f : AVal → Option AVal} : ∀ {l : List AVal}, (∀ x ∈ l, f x = some x) → listM f l = some l
  | [], _ => rfl
  | x :: l, h => by rw [listM_cons, h x (by simp), listM_id (fun y hy => h y (by simp [hy]))]; rfl

theorem All2.get {α β : Type} {R : α → β → Prop} : ∀ {xs : List α} {ys : List β} {i : Nat} {x : α}, All2 R xs ys → xs[i]? = some x → ∃ y, ys[i]? = some y ∧ R x y
  | [], _, _, _, _, h => by simp at h
  | x :: xs, y :: ys, 0, a, h, hx => by simp at hx; subst hx; exact ⟨y, rfl, h.1⟩
  | x :: xs, y :: ys, i + 1, a, h, hx => by
    obtain ⟨b, hb, hr⟩ := All2.get (i := i) h.2 (by simpa using hx)
    exact ⟨b, by simpa using hb, hr⟩
  | _ :: _, [], _, _, h, _ => h.elim

theorem frzD_tup (lo : Nat) (m : Mem) (d : Nat) (vs : List AVal) : frzD lo m (d + 1) (.tup vs) = (listM (frzD lo m d) vs).map .tup := by simp only [frzD]
theorem frzD_sl {lo : Nat} {m : Mem} {d n o len cap es : Nat} {t : Bool} {vals : List AVal} (hn : lo ≤ n) (hm : m.get n = some (.cells es vals)) (hl : o + len * es ≤ vals.length) :
    frzD lo m (d + 1) (.sl n o len cap t) = (listM (frzD lo m d) ((vals.drop o).take (len * es))).map fun cs => .isl cs len (t && decide (cap = len)) := by
  simp only [frzD]
  rw [if_neg (by omega), hm]
  simp only
  rw [if_pos hl]

theorem condK_mid {P : Env} {a b : ACode} {Q : Post} {r : Regs} {σ : St} {o : Option AVal} (M : Regs → St → Prop) (h : condK P a b (fun e r σ => e = .normal ∧ M r σ) r σ o) (hq : ∀ r σ, M r σ → Q .normal r σ) : condK P a b Q r σ o := by
  cases o with
  | none => exact h.elim
  | some v =>
    cases v <;> first | exact h.elim | skip
    rename_i t
    cases t
    · exact wp_mono' h (fun e r σ ⟨he, hm⟩ => he ▸ hq r σ hm)
    · exact wp_mono' h (fun e r σ ⟨he, hm⟩ => he ▸ hq r σ hm)

def bytesV (l : List UInt8) : List AVal := l.map fun b => .int .u8 (b.toNat : Int)
/-- A slice of bytes that does not change. -/
def BytesOf (d : AVal) (l : List UInt8) : Prop := d = .nilsl ∧ l = [] ∨ ∃ t, d = .isl (bytesV l) l.length t
theorem bytesV_len (l : List UInt8) : (bytesV l).length = l.length := by simp [bytesV]
theorem bytesV_upto (lo : Nat) (l : List UInt8) : uptoL lo (bytesV l) = true := by
  induction l with
  | nil => rfl
  | cons x l ih =>
    simp only [bytesV] at ih
    simp only [bytesV, List.map_cons, uptoL, AVal.upto, ih, Bool.and_true]
theorem bytesV_bytes : ∀ (l : List UInt8), listM byteOfA (bytesV l) = some l
  | [] => rfl
  | x :: l => by
    have h : byteOfA (.int .u8 (x.toNat : Int)) = some x := by simp [byteOfA]
    have ih := bytesV_bytes l
    simp only [bytesV] at ih
    simp only [bytesV, List.map_cons, listM_cons, h, ih]
    rfl
theorem BytesOf.str {d : AVal} {l : List UInt8} (h : BytesOf d l) (ρ : St) : evalV ρ (.bytesStr d) = some (.str ⟨l.toArray⟩, ρ) := by
  rcases h with ⟨rfl, rfl⟩ | ⟨t, rfl⟩
  · rfl
  · simp only [evalV, srcL, bytesV_len, Nat.mul_one, if_true, Option.bind_some, bytesV_bytes, Option.map_some]
theorem BytesOf.len {d : AVal} {l : List UInt8} (h : BytesOf d l) (ρ : St) : evalV ρ (.len 1 d) = some (.int .i64 (l.length : Int), ρ) := by
  rcases h with ⟨rfl, rfl⟩ | ⟨t, rfl⟩ <;> simp
theorem BytesOf.one {d : AVal} {l : List UInt8} (h : BytesOf d l) : d.one = true ∧ cellsOf d = [d] := by
  rcases h with ⟨rfl, rfl⟩ | ⟨t, rfl⟩ <;> simp
/-- A slice of bytes, as an argument has it. -/
theorem bytes_arg {d : AVal} {ok : List AVal → Prop} (hok : ∀ x, ok x → ∃ n, x = [.int .u8 n] ∧ (Lit.int .u8 n).wf = true) (h : [d] = [.nilsl] ∨ ∃ xs : List (List AVal), [d] = [.isl xs.flatten xs.length false] ∧ (∀ x ∈ xs, x.length = 1 ∧ ok x) ∧ xs.length ≤ 9223372036854775807 ∧ xs.length * 1 ≤ 140737488351232) :
    ∃ l, BytesOf d l ∧ l.length ≤ 140737488351232 := by
  rcases h with h | ⟨xs, h, hx, _, hl⟩
  · cases h; exact ⟨[], .inl ⟨rfl, rfl⟩, by simp⟩
  · cases h
    have : ∀ xs : List (List AVal), (∀ x ∈ xs, x.length = 1 ∧ ok x) → ∃ l : List UInt8, xs.flatten = bytesV l ∧ l.length = xs.length := by
      intro xs
      induction xs with
      | nil => intro _; exact ⟨[], rfl, rfl⟩
      | cons x xs ih =>
        intro h
        obtain ⟨l, h1, h2⟩ := ih (fun y hy => h y (by simp [hy]))
        obtain ⟨n, rfl, hw⟩ := hok x (h x (by simp)).2
        obtain ⟨k, rfl, hk⟩ := wf_u8 hw
        refine ⟨UInt8.ofNat k :: l, ?_, by simp [h2]⟩
        have : (UInt8.ofNat k).toNat = k := by simp; omega
        simp [bytesV, h1, this]
    obtain ⟨l, h1, h2⟩ := this xs hx
    exact ⟨l, .inr ⟨false, by rw [h1, h2]⟩, by omega⟩
theorem list_arg {R : AVal → List UInt8 → Prop} {ok : List AVal → Prop} (hok : ∀ d, ok [d] → ∃ l, R d l) : ∀ xs : List (List AVal), (∀ x ∈ xs, x.length = 1 ∧ ok x) → ∃ (ds : List AVal) (ls : List (List UInt8)), xs.flatten = ds ∧ ds.length = xs.length ∧ All2 R ds ls
  | [], _ => ⟨[], [], rfl, rfl, trivial⟩
  | x :: xs, h => by
    obtain ⟨ds, ls, h1, h2, h3⟩ := list_arg hok xs (fun y hy => h y (by simp [hy]))
    obtain ⟨hx, hox⟩ := h x (by simp)
    obtain ⟨d, rfl⟩ := List.length_eq_one_iff.1 hx
    obtain ⟨l, hl⟩ := hok d hox
    exact ⟨d :: ds, l :: ls, by simp [h1], by simp [h2], hl, h3⟩
theorem nats_arg {ok : List AVal → Prop} (hok : ∀ x, ok x → ∃ n, x = [.int .u16 n] ∧ (Lit.int .u16 n).wf = true) : ∀ xs : List (List AVal), (∀ x ∈ xs, x.length = 1 ∧ ok x) → ∃ os : List Nat, xs.flatten = (os.map fun (o : Nat) => AVal.int .u16 (o : Int)) ∧ os.length = xs.length ∧ ∀ o ∈ os, o < 65536
  | [], _ => ⟨[], rfl, rfl, fun o ho => by simp at ho⟩
  | x :: xs, h => by
    obtain ⟨os, h1, h2, h3⟩ := nats_arg hok xs (fun y hy => h y (by simp [hy]))
    obtain ⟨n, rfl, hw⟩ := hok x (h x (by simp)).2
    obtain ⟨k, rfl, hk⟩ := wf_u16 hw
    refine ⟨k :: os, by simp [h1], by simp [h2], fun o ho => ?_⟩
    rcases List.mem_cons.1 ho with rfl | ho
    · exact hk
    · exact h3 o ho


attribute [simp] AVal.upto uptoL
/-- A pointer-free value. -/
theorem BytesOf.upto {d : AVal} {l : List UInt8} (h : BytesOf d l) (lo : Nat) : d.upto lo = true := by
  rcases h with ⟨rfl, rfl⟩ | ⟨t, rfl⟩
  · rfl
  · simp [bytesV_upto]
theorem str_eq (a b : List UInt8) : abinS .eql ⟨a.toArray⟩ ⟨b.toArray⟩ = some (.bool (decide (a = b))) := by
  have h : ((⟨a.toArray⟩ : ByteArray).toList == (⟨b.toArray⟩ : ByteArray).toList) = decide (a = b) := by
    rw [ByteArray.toList_eq, ByteArray.toList_eq]
    by_cases hab : a = b
    · subst hab; simp
    · simp [hab]
  simp only [abinS, h]
theorem str_ne (a b : List UInt8) : abinS .neq ⟨a.toArray⟩ ⟨b.toArray⟩ = some (.bool (decide (a ≠ b))) := by
  have h : ((⟨a.toArray⟩ : ByteArray).toList == (⟨b.toArray⟩ : ByteArray).toList) = decide (a = b) := by
    rw [ByteArray.toList_eq, ByteArray.toList_eq]
    by_cases hab : a = b
    · subst hab; simp
    · simp [hab]
  simp only [abinS, h]
  by_cases hab : a = b <;> simp [hab]
end Go.Proofs.Ytopagbaokokjdaa.AM

/- The abstract machine: a map that isn't changed, walked whole. -/
namespace Go.Proofs.Ytopagbaokokjdaa.AM
open Go.RowKit
set_option linter.unusedVariables false
set_option linter.unusedSimpArgs false

abbrev MEnt := Nat × AVal × AVal
/-- What the next step of a walk may be: the end only when all was met. -/
theorem next_all {σ : St} {it mp clock : Nat} {S : List Nat} {ents : List MEnt} (hi : σ.mem.get it = some (.iter (some mp) clock S clock)) (hm : σ.mem.get mp = some (.map clock ents)) (hs : ∀ e ∈ ents, e.1 < clock) :
    ∃ L, nextC σ (.ptr it 0) = some L ∧ ∀ p ∈ L, (p = (.tup [.bool false], σ) ∧ ∀ e ∈ ents, e.1 ∈ S) ∨ ∃ e ∈ ents, e.1 ∉ S ∧ p = (.tup [.bool true, e.2.1, e.2.2], ⟨σ.mem.set it (.iter (some mp) clock (S ++ [e.1]) clock), σ.next⟩) := by
  have hno : (!S.isEmpty && !ents.isEmpty && ents.all fun e => decide (clock ≤ e.1)) = false := by
    cases ents with
    | nil => simp
    | cons e es =>
      have := hs e (by simp)
      have : decide (clock ≤ e.1) = false := by simp; omega
      simp [this]
  simp only [nextC, hi, hm, hno]
  refine ⟨_, rfl, fun p hp => ?_⟩
  rcases List.mem_append.1 hp with hp | hp
  · split at hp
    · rename_i hem
      simp at hp
      refine .inl ⟨hp, fun e he => ?_⟩
      rw [List.isEmpty_iff, List.filter_eq_nil_iff] at hem
      by_cases h : e.1 ∈ S
      · exact h
      · exact absurd (hs e he) (by have := hem e (List.mem_filter.2 ⟨he, by simpa using h⟩); simpa using this)
    · cases hp
  · obtain ⟨e, he, rfl⟩ := List.mem_map.1 hp
    have he2 : e ∈ ents ∧ e.1 ∉ S := by
      rcases List.mem_append.1 he with he | he <;>
      · rw [List.mem_filter, List.mem_filter] at he
        exact ⟨he.1.1, by simpa using he.1.2⟩
    exact .inr ⟨e, he2.1, he2.2, rfl⟩

theorem stamp_eq {a b : MEnt} : ∀ {ents : List MEnt}, (ents.map (·.1)).Nodup → a ∈ ents → b ∈ ents → a.1 = b.1 → a = b
  | x :: l, hn, ha, hb, he => by
    simp only [List.map_cons, List.nodup_cons] at hn
    have hx : ∀ y ∈ l, y.1 ≠ x.1 := fun y hy e => hn.1 (List.mem_map.2 ⟨y, hy, e⟩)
    rcases List.mem_cons.1 ha with ha1 | ha1 <;> rcases List.mem_cons.1 hb with hb1 | hb1
    · rw [ha1, hb1]
    · exact absurd (he.symm.trans (by rw [ha1])) (hx b hb1)
    · exact absurd (he.trans (by rw [hb1])) (hx a ha1)
    · exact stamp_eq hn.2 ha1 hb1 he
theorem stamp_find {e : MEnt} {ents : List MEnt} (hn : (ents.map (·.1)).Nodup) (he : e ∈ ents) : ents.find? (fun x => x.1 == e.1) = some e := by
  cases hf : ents.find? (fun x => x.1 == e.1) with
  | none => exact absurd (List.find?_eq_none.1 hf e he) (by simp)
  | some x =>
    have h1 := List.mem_of_find?_eq_some hf
    have h2 := List.find?_some hf
    rw [stamp_eq hn h1 he (by simpa using h2)]
/-- The entry that was met last. -/
theorem entry_last {σ : St} {it mp clock : Nat} {S : List Nat} {ents : List MEnt} {e : MEnt} (hi : σ.mem.get it = some (.iter (some mp) clock (S ++ [e.1]) clock)) (hm : σ.mem.get mp = some (.map clock ents)) (hn : (ents.map (·.1)).Nodup) (he : e ∈ ents) :
    evalV σ (.entryM (.ptr it 0)) = some (.tup [e.2.1, e.2.2], σ) := by
  have hf := stamp_find hn he
  simp [evalV, hi, hm, hf]
/-- All were met: each once. -/
theorem walked {V ents : List MEnt} (hn : (ents.map (·.1)).Nodup) (hv : (V.map (·.1)).Nodup) (hs : ∀ e ∈ V, e ∈ ents) (ha : ∀ e ∈ ents, e.1 ∈ V.map (·.1)) : V.Perm ents := by
  have nd : ∀ {l : List MEnt}, (l.map (·.1)).Nodup → l.Nodup := fun {l} h => by
    induction l with
    | nil => exact List.nodup_nil
    | cons x l ih =>
      simp only [List.map_cons, List.nodup_cons] at h ⊢
      exact ⟨fun hx => h.1 (List.mem_map.2 ⟨x, hx, rfl⟩), ih h.2⟩
  refine (List.perm_ext_iff_of_nodup (nd hv) (nd hn)).2 fun e => ⟨hs e, fun he => ?_⟩
  obtain ⟨y, hy, hye⟩ := List.mem_map.1 (ha e he)
  rw [← stamp_eq hn (hs y hy) he hye]; exact hy
end Go.Proofs.Ytopagbaokokjdaa.AM

/- Rows: slices whose elements take several cells each, in memory. -/
namespace Go.Proofs.Ytopagbaokokjdaa.AM
open Go.RowKit
set_option linter.unusedVariables false
set_option linter.unusedSimpArgs false

/-- How an element is told in cells. -/
structure Rw (α : Type) (k : Nat) where
  a : α → List AVal
  la : ∀ x, (a x).length = k
  one : ∀ x, (a x).all AVal.one = true

section
variable {α : Type} {k : Nat} (R : Rw α k)
def rws (l : List α) : List AVal := (l.map R.a).flatten
theorem rws_nil : rws R [] = [] := rfl
theorem rws_cons (x : α) (l : List α) : rws R (x :: l) = R.a x ++ rws R l := rfl
theorem rws_app (l m : List α) : rws R (l ++ m) = rws R l ++ rws R m := by simp [rws]
theorem rws_one (x : α) : rws R [x] = R.a x := by simp [rws]
theorem rws_len : ∀ l : List α, (rws R l).length = l.length * k
  | [] => by simp [rws]
  | x :: l => by rw [rws_cons, List.length_append, R.la, rws_len l, List.length_cons, Nat.succ_mul]; omega
theorem rws_take : ∀ (l : List α) (n : Nat), (rws R l).take (n * k) = rws R (l.take n)
  | [], n => by simp [rws]
  | x :: l, 0 => by simp [rws]
  | x :: l, n + 1 => by
    rw [rws_cons, List.take_succ_cons, rws_cons, ← rws_take l n, Nat.succ_mul, Nat.add_comm (n * k) k, List.take_append, R.la, List.take_of_length_le (by rw [R.la]; omega)]
    congr 2
    omega
theorem rws_drop : ∀ (l : List α) (n : Nat), (rws R l).drop (n * k) = rws R (l.drop n)
  | [], n => by simp [rws]
  | x :: l, 0 => by simp [rws]
  | x :: l, n + 1 => by
    rw [rws_cons, List.drop_succ_cons, ← rws_drop l n, Nat.succ_mul, Nat.add_comm (n * k) k, List.drop_append, R.la, List.drop_of_length_le (by rw [R.la]; omega), List.nil_append]
    congr 1
    omega
theorem rws_at {l : List α} {i : Nat} {x : α} (h : l[i]? = some x) : ((rws R l).drop (i * k)).take k = R.a x := by
  rw [rws_drop]
  obtain ⟨hi, he⟩ := List.getElem?_eq_some_iff.1 h
  rw [List.drop_eq_getElem_cons hi, he, rws_cons, List.take_append, R.la, List.take_of_length_le (by rw [R.la]; exact Nat.le_refl _)]
  simp
theorem rws_get {l : List α} {i : Nat} {x : α} (h : l[i]? = some x) {j : Nat} (hj : j < k) : (rws R l)[i * k + j]? = (R.a x)[j]? := by
  have h1 := congrArg (·[j]?) (rws_at R h)
  simp only [List.getElem?_take, List.getElem?_drop] at h1
  rw [if_pos hj] at h1
  exact h1
theorem rws_set {y : α} {j : Nat} {v : AVal} (hj : j < k) : ∀ {l : List α} {i : Nat} {x : α}, l[i]? = some x → R.a y = (R.a x).set j v → (rws R l).set (i * k + j) v = rws R (l.set i y)
  | [], i, x, h, _ => by simp at h
  | z :: l, 0, x, h, e => by
    simp at h; subst h
    rw [rws_cons, List.set_cons_zero, rws_cons, e, Nat.zero_mul, Nat.zero_add, List.set_append, if_pos (by rw [R.la]; exact hj)]
  | z :: l, i + 1, x, h, e => by
    have ih := rws_set hj (l := l) (i := i) (x := x) (by simpa using h) e
    rw [rws_cons, List.set_cons_succ, rws_cons, ← ih, List.set_append, if_neg (by rw [R.la, Nat.succ_mul]; omega), R.la]
    congr 2
    rw [Nat.succ_mul]; omega
theorem rws_all : ∀ l : List α, (rws R l).all AVal.one = true
  | [] => rfl
  | x :: l => by rw [rws_cons, List.all_append, R.one, rws_all l]; rfl

/-- A slice of them in memory: block b. -/
def GS (σ : St) (v : AVal) (l : List α) (b : Option Nat) : Prop := v = .nilsl ∧ l = [] ∧ b = none ∨ ∃ o t, b = some o ∧ v = .sl o 0 l.length l.length t ∧ o < σ.next ∧ σ.mem.get o = some (.cells k (rws R l))
variable {R}
theorem GS.nil (σ : St) : GS R σ .nilsl [] none := .inl ⟨rfl, rfl, rfl⟩
theorem GS.keep {σ σ' : St} {v : AVal} {l : List α} {b : Option Nat} (h : GS R σ v l b) (hn : σ.next ≤ σ'.next) (hm : ∀ a, a < σ.next → b = some a → σ'.mem.get a = σ.mem.get a) : GS R σ' v l b := by
  rcases h with h | ⟨o, t, h1, h2, h3, h4⟩
  · exact .inl h
  · exact .inr ⟨o, t, h1, h2, by omega, (hm o h3 h1).trans h4⟩
theorem GS.lt {σ : St} {v : AVal} {l : List α} {b : Option Nat} (h : GS R σ v l b) {a : Nat} (ha : b = some a) : a < σ.next := by
  rcases h with ⟨_, _, h0⟩ | ⟨o, t, h1, _, h3, _⟩
  · rw [h0] at ha; cases ha
  · rw [h1] at ha; cases ha; exact h3
theorem GS.len {σ : St} {v : AVal} {l : List α} {b : Option Nat} (h : GS R σ v l b) (ρ : St) : evalV ρ (.len 1 v) = some (.int .i64 (l.length : Int), ρ) := by
  rcases h with ⟨rfl, rfl, _⟩ | ⟨o, t, _, rfl, _⟩ <;> simp
theorem GS.one {σ : St} {v : AVal} {l : List α} {b : Option Nat} (h : GS R σ v l b) : v.one = true ∧ cellsOf v = [v] := by
  rcases h with ⟨rfl, _⟩ | ⟨o, t, _, rfl, _⟩ <;> simp
theorem GS.src {σ : St} {v : AVal} {l : List α} {b : Option Nat} (h : GS R σ v l b) : srcL σ k v = some (rws R l, l.length) := by
  rcases h with ⟨rfl, rfl, _⟩ | ⟨o, t, _, rfl, _, h4⟩
  · rfl
  · simp [srcL, h4, rws_len, List.take_of_length_le]

theorem GS.idx {σ : St} {v : AVal} {l : List α} {b : Option Nat} (h : GS R σ v l b) {i : Nat} (hi : i < l.length) : ∃ o, b = some o ∧ o < σ.next ∧ σ.mem.get o = some (.cells k (rws R l)) ∧ ∀ ρ, evalV ρ (.idxAddr k v (.int .i64 (i : Int))) = some (.ptr o (i * k), ρ) := by
  rcases h with ⟨_, rfl, _⟩ | ⟨o, t, h1, rfl, h3, h4⟩
  · simp at hi
  · exact ⟨o, h1, h3, h4, fun ρ => by simp [hi]⟩
/-- One more behind them. -/
theorem gs_app1 {σ : St} {v : AVal} {l : List α} {b : Option Nat} (h : GS R σ v l b) {nb by_ : Nat} {t : Bool} {x : α} (hk : 0 < k) (hb : σ.mem.get nb = some (.cells k (R.a x))) (hnb : b ≠ some nb) (hl : (l.length + 1) * by_ ≤ 140737488355328) (hl2 : l.length < 9223372036854775807) :
    ∃ σ', evalV σ (.append k by_ v (.sl nb 0 1 1 t)) = some (.sl σ.next 0 (l.length + 1) (l.length + 1) false, σ') ∧ GS R σ' (.sl σ.next 0 (l.length + 1) (l.length + 1) false) (l ++ [x]) (some σ.next) ∧ σ'.next = σ.next + 1 ∧ ∀ a, a < σ.next → b ≠ some a → σ'.mem.get a = σ.mem.get a := by
  have hk0 : ¬ k = 0 := by omega
  have hla : (R.a x).length = k := R.la x
  have hsrc : srcL σ k (.sl nb 0 1 1 t) = some (R.a x, 1) := by simp [srcL, hb, hla, List.take_of_length_le]
  rcases h with ⟨rfl, rfl, rfl⟩ | ⟨o, t', rfl, rfl, h3, h4⟩
  · simp at hl
    refine ⟨⟨σ.mem.set σ.next (.cells k (R.a x)), σ.next + 1⟩, by simp only [evalV, hsrc]; simp [hk0, hl], .inr ⟨σ.next, false, rfl, by simp, by simp, by simp [rws]⟩, rfl, fun a ha _ => by simp [show ¬ a = σ.next by omega]⟩
  · have c1 : ¬ l.length + 1 ≤ l.length := by omega
    have c2 : l.length * k ≤ (rws R l).length := by rw [rws_len]; exact Nat.le_refl _
    have c3 : (rws R l).take (l.length * k) = rws R l := List.take_of_length_le (by rw [rws_len]; exact Nat.le_refl _)
    have c4 : l.length ≤ 9223372036854775806 := by omega
    cases t'
    · refine ⟨⟨(σ.mem.del o).set σ.next (.cells k (rws R l ++ R.a x)), σ.next + 1⟩, by simp only [evalV, hsrc]; simp [hk0, h4, c1, c2, c3, c4, hl], .inr ⟨σ.next, false, rfl, by simp, by simp, by simp [rws_app, rws_one]⟩, rfl, fun a ha hne => ?_⟩
      have : ¬ a = o := fun e => hne (by rw [e])
      simp [show ¬ a = σ.next by omega, this]
    · refine ⟨⟨σ.mem.set σ.next (.cells k (rws R l ++ R.a x)), σ.next + 1⟩, by simp only [evalV, hsrc]; simp [hk0, h4, c1, c2, c3, c4, hl], .inr ⟨σ.next, false, rfl, by simp, by simp, by simp [rws_app, rws_one]⟩, rfl, fun a ha hne => ?_⟩
      simp [show ¬ a = σ.next by omega]
/-- Others behind them. -/
theorem gs_appN {σ : St} {v : AVal} {l : List α} {b : Option Nat} (h : GS R σ v l b) {by_ : Nat} {w : AVal} {m : List α} (hk : 0 < k) (hsrc : srcL σ k w = some (rws R m, m.length)) (hl : (l.length + m.length) * by_ ≤ 140737488355328) (hl2 : l.length + m.length ≤ 9223372036854775807) :
    ∃ v' σ' b', evalV σ (.append k by_ v w) = some (v', σ') ∧ GS R σ' v' (l ++ m) b' ∧ (b' = b ∨ b' = some σ.next) ∧ σ.next ≤ σ'.next ∧ ∀ a, a < σ.next → b ≠ some a → σ'.mem.get a = σ.mem.get a := by
  have hk0 : ¬ k = 0 := by omega
  rcases h with ⟨rfl, rfl, rfl⟩ | ⟨o, t', rfl, rfl, h3, h4⟩
  · cases m with
    | nil => exact ⟨.nilsl, σ, none, by simp only [evalV, hsrc]; simp [hk0], .inl ⟨rfl, rfl, rfl⟩, .inl rfl, Nat.le_refl _, fun a _ _ => rfl⟩
    | cons x m =>
      simp at hl hl2
      exact ⟨.sl σ.next 0 (m.length + 1) (m.length + 1) false, ⟨σ.mem.set σ.next (.cells k (rws R (x :: m))), σ.next + 1⟩, some σ.next, by simp only [evalV, hsrc]; simp [hk0, hl, hl2], .inr ⟨σ.next, false, rfl, by simp, by simp, by simp⟩, .inr rfl, by simp, fun a ha _ => by simp [show ¬ a = σ.next by omega]⟩
  · have c2 : l.length * k ≤ (rws R l).length := by rw [rws_len]; exact Nat.le_refl _
    have c3 : (rws R l).take (l.length * k) = rws R l := List.take_of_length_le (by rw [rws_len]; exact Nat.le_refl _)
    cases m with
    | nil =>
      have e0 : storeL (rws R l) (l.length * k) (rws R ([] : List α)) = rws R l := by simp [rws_nil, storeL]
      refine ⟨.sl o 0 l.length l.length t', ⟨σ.mem.set o (.cells k (rws R l)), σ.next⟩, some o, by simp only [evalV, hsrc]; simp [hk0, h4, c2, e0], .inr ⟨o, t', rfl, by simp, h3, by simp⟩, .inl rfl, Nat.le_refl _, fun a ha hne => ?_⟩
      by_cases e : a = o
      · exact absurd (by rw [e]) hne
      · simp [e]
    | cons x m =>
      have c1 : ¬ l.length + (m.length + 1) ≤ l.length := by omega
      simp only [List.length_cons] at hl hl2 hsrc
      cases t'
      · refine ⟨.sl σ.next 0 (l.length + (m.length + 1)) (l.length + (m.length + 1)) false, ⟨(σ.mem.del o).set σ.next (.cells k (rws R l ++ rws R (x :: m))), σ.next + 1⟩, some σ.next, by simp only [evalV, hsrc]; simp [hk0, h4, c1, c2, c3, hl, hl2], .inr ⟨σ.next, false, rfl, by simp, by simp, by simp [rws_app]⟩, .inr rfl, by simp, fun a ha hne => ?_⟩
        have : ¬ a = o := fun e => hne (by rw [e])
        simp [show ¬ a = σ.next by omega, this]
      · refine ⟨.sl σ.next 0 (l.length + (m.length + 1)) (l.length + (m.length + 1)) false, ⟨σ.mem.set σ.next (.cells k (rws R l ++ rws R (x :: m))), σ.next + 1⟩, some σ.next, by simp only [evalV, hsrc]; simp [hk0, h4, c1, c2, c3, hl, hl2], .inr ⟨σ.next, false, rfl, by simp, by simp, by simp [rws_app]⟩, .inr rfl, by simp, fun a ha hne => ?_⟩
        simp [show ¬ a = σ.next by omega]
/-- What points to a slice: w its block, b the block of the elements. -/
def HB (R : Rw α k) (σ : St) (w : Nat) (l : List α) (b : Option Nat) : Prop := ∃ v, σ.mem.get w = some (.cells 1 [v]) ∧ GS R σ v l b ∧ b ≠ some w ∧ w < σ.next
theorem HB.keep {σ σ' : St} {w : Nat} {l : List α} {b : Option Nat} (h : HB R σ w l b) (hn : σ.next ≤ σ'.next) (hm : ∀ a, a < σ.next → a = w ∨ b = some a → σ'.mem.get a = σ.mem.get a) : HB R σ' w l b := by
  obtain ⟨v, h1, h2, h3, h4⟩ := h
  exact ⟨v, (hm w h4 (.inl rfl)).trans h1, h2.keep hn fun a ha hb => hm a ha (.inr hb), h3, by omega⟩
/-- Two parts of a slice. -/
def partA (v : AVal) (i : Nat) : AVal := match v with
  | .sl o _ _ _ _ => .sl o 0 i i true
  | _ => .nilsl
def partB (k : Nat) (v : AVal) (i : Nat) : AVal := match v with
  | .sl o _ n _ t => .sl o (i * k) (n - i) (n - i) t
  | _ => .nilsl
theorem gs_parts {ρ : St} {v : AVal} {l : List α} {b : Option Nat} (h : GS R ρ v l b) (hk : 0 < k) {i : Nat} (hat : i ≤ l.length) :
    evalV ρ (.slice k v none (some (.int .i64 (i : Int))) (some (.int .i64 (i : Int)))) = some (partA v i, ρ) ∧ evalV ρ (.slice k v (some (.int .i64 (i : Int))) none none) = some (partB k v i, ρ) := by
  have hk0 : ¬ k = 0 := by omega
  rcases h with ⟨rfl, rfl, _⟩ | ⟨o, t, rfl, rfl, h3, h4⟩
  · simp at hat; subst hat
    exact ⟨by simp [hk0, asliceSl, bnd, partA], by simp [hk0, asliceSl, bnd, partB]⟩
  · exact ⟨by simp [hk0, h4, asliceSl, bnd, hat, partA], by simp [hk0, h4, asliceSl, bnd, hat, partB]⟩
/-- One put between the parts. -/
theorem gs_ins {σ : St} {v : AVal} {l : List α} {b : Option Nat} (h : GS R σ v l b) (hk : 0 < k) {at' : Nat} (hat : at' ≤ l.length)
    {nx by_ : Nat} {x : α} (hx : σ.mem.get nx = some (.cells k (R.a x))) (hnx : nx < σ.next) (hb : b ≠ some nx) (hl : (l.length + 1) * by_ ≤ 140737488355328) (hl2 : l.length ≤ 1000000000) :
    ∃ v1 σ1 v2 σ2 y, evalV σ (.append k by_ (.sl nx 0 1 1 true) (partB k v at')) = some (v1, σ1) ∧ evalV σ1 (.append k by_ (partA v at') v1) = some (v2, σ2) ∧ GS R σ2 v2 (l.take at' ++ x :: l.drop at') (some y) ∧ σ.next ≤ y ∧ σ.next ≤ σ2.next ∧ σ.next ≤ σ1.next ∧ (∀ a, a < σ.next → σ1.mem.get a = σ.mem.get a) ∧ (∀ a, a < σ.next → σ2.mem.get a = σ.mem.get a) := by
  have hk0 : ¬ k = 0 := by omega
  have hg1 : GS R σ (.sl nx 0 1 1 true) [x] (some nx) := .inr ⟨nx, true, rfl, rfl, hnx, by rw [rws_one]; exact hx⟩
  have hset : ∀ c, (σ.mem.set nx (.cells k (R.a x))).get c = σ.mem.get c := fun c => by
    by_cases e : c = nx
    · subst e; simp [hx]
    · simp [e]
  have hs : v = .nilsl ∨ ∃ o t, b = some o ∧ v = .sl o 0 l.length l.length t := by
    rcases h with ⟨h1, _⟩ | ⟨o, t, h1, h2, _⟩
    · exact .inl h1
    · exact .inr ⟨o, t, h1, h2⟩
  rcases hs with rfl | ⟨o, t, rfl, rfl⟩
  · rcases h with ⟨_, rfl, _⟩ | ⟨_, _, _, e, _⟩
    · simp at hat hl; subst hat
      simp only [partA, partB]
      have hxl := R.la x
      have e0 : storeL (R.a x) k [] = R.a x := by simp [storeL]
      refine ⟨.sl nx 0 1 1 true, ⟨σ.mem.set nx (.cells k (R.a x)), σ.next⟩, .sl σ.next 0 1 1 false, ⟨(σ.mem.set nx (.cells k (R.a x))).set σ.next (.cells k (R.a x)), σ.next + 1⟩, σ.next, by simp [srcL, hk0, hx, hxl, e0], by simp [srcL, hk0, hxl, hl, List.take_of_length_le], .inr ⟨σ.next, false, rfl, rfl, by simp, by simp [rws_one]⟩, Nat.le_refl _, by simp, Nat.le_refl _, fun a _ => hset a, fun a ha => by rw [← hset a]; simp only [Mem.get_set, if_neg (show ¬ a = σ.next by omega)]⟩
    · cases e
  · simp only [partA, partB]
    obtain ⟨_, _, e5⟩ : o < σ.next ∧ True ∧ σ.mem.get o = some (.cells k (rws R l)) := by
      rcases h with ⟨e, _⟩ | ⟨o', t', e1, e2, h3, h4⟩
      · cases e
      · cases e1; exact ⟨h3, trivial, h4⟩
    have hnl : (rws R l).length = l.length * k := rws_len R l
    have hle : at' * k + (l.length - at') * k = l.length * k := by rw [← Nat.add_mul]; congr 1; omega
    have hsrc2 : srcL σ k (.sl o (at' * k) (l.length - at') (l.length - at') t) = some (rws R (l.drop at'), (l.drop at').length) := by
      simp only [srcL, e5, hnl, hle, Nat.le_refl, if_true, List.length_drop]
      rw [rws_drop, List.take_of_length_le (by rw [rws_len, List.length_drop]; exact Nat.le_refl _)]
    have hon : o ≠ nx := fun e => hb (by rw [e])
    have p2 : (1 + (l.drop at').length) * by_ ≤ (l.length + 1) * by_ := Nat.mul_le_mul_right _ (by rw [List.length_drop]; omega)
    -- the first append: over nx, its block stays as it is
    have first : ∃ v1 σ1, evalV σ (.append k by_ (.sl nx 0 1 1 true) (.sl o (at' * k) (l.length - at') (l.length - at') t)) = some (v1, σ1) ∧ srcL σ1 k v1 = some (rws R (x :: l.drop at'), (l.drop at').length + 1) ∧ σ.next ≤ σ1.next ∧ ∀ a, a < σ.next → σ1.mem.get a = σ.mem.get a := by
      have hxl := R.la x
      by_cases hd : (l.drop at').length = 0
      · have hd' : l.drop at' = [] := List.eq_nil_of_length_eq_zero hd
        have e0 : storeL (R.a x) k [] = R.a x := by simp [storeL]
        rw [hd'] at hsrc2
        refine ⟨.sl nx 0 1 1 true, ⟨σ.mem.set nx (.cells k (R.a x)), σ.next⟩, by simp only [evalV, hsrc2]; simp [hk0, hx, hxl, rws_nil, e0], by simp [srcL, hxl, hd', rws_one, List.take_of_length_le], Nat.le_refl _, fun a _ => hset a⟩
      · have c1 : ¬ 1 + (l.drop at').length ≤ 1 := by omega
        have c2 : (1 + (l.drop at').length) * by_ ≤ 140737488355328 := Nat.le_trans p2 hl
        have c3 : (l.drop at').length ≤ 9223372036854775806 := by rw [List.length_drop]; omega
        have c4 : ¬ (l.drop at').length = 0 := hd
        have c5 : 1 + (l.drop at').length ≤ 9223372036854775807 := by omega
        refine ⟨.sl σ.next 0 (1 + (l.drop at').length) (1 + (l.drop at').length) false, ⟨σ.mem.set σ.next (.cells k (R.a x ++ rws R (l.drop at'))), σ.next + 1⟩, ?_, ?_, by simp, fun a ha => by simp [show ¬ a = σ.next by omega]⟩
        · simp only [evalV, hsrc2]
          simp only [hk0, if_false, Option.bind_some, hx, if_true, if_neg c1, Nat.one_mul, Nat.zero_add, hxl, Nat.le_refl, c2, c5, and_self, List.drop_zero]
          rw [List.take_of_length_le (by rw [hxl]; exact Nat.le_refl _)]
        · have c6 : (R.a x ++ rws R (l.drop at')).length = (1 + (l.drop at').length) * k := by
            rw [List.length_append, hxl, rws_len, Nat.add_mul, Nat.one_mul]
          simp only [srcL, Mem.get_set_self, Nat.zero_add, c6, Nat.le_refl, if_true, List.drop_zero]
          rw [List.take_of_length_le (by rw [c6]; exact Nat.le_refl _), rws_cons, Nat.add_comm 1]
    obtain ⟨v1, σ1, f1, f2, f3, f4⟩ := first
    have m1 := (f4 o (by omega)).trans e5
    have hll : (l.drop at').length = l.length - at' := List.length_drop
    have c1 : ¬ at' + ((l.drop at').length + 1) ≤ at' := by omega
    have c2 : (at' + ((l.drop at').length + 1)) * by_ ≤ 140737488355328 := by
      rw [show at' + ((l.drop at').length + 1) = l.length + 1 by omega]; exact hl
    have c3 : at' + ((l.drop at').length + 1) ≤ 9223372036854775807 := by omega
    have c4 : at' * k ≤ (rws R l).length := by rw [hnl]; exact Nat.mul_le_mul_right _ hat
    refine ⟨v1, σ1, .sl σ1.next 0 (at' + ((l.drop at').length + 1)) (at' + ((l.drop at').length + 1)) false, ⟨σ1.mem.set σ1.next (.cells k ((rws R l).take (at' * k) ++ rws R (x :: l.drop at'))), σ1.next + 1⟩, σ1.next, f1, ?_, .inr ⟨σ1.next, false, rfl, ?_, by simp, ?_⟩, f3, by simp; omega, f3, f4, fun a ha => by simp only [Mem.get_set, if_neg (show ¬ a = σ1.next by omega)]; exact f4 a ha⟩
    · simp only [evalV, f2]
      simp only [hk0, if_false, Option.bind_some, m1, if_true, if_neg c1, Nat.zero_add, c4, c2, c3, and_self, List.drop_zero]
    · simp [Nat.min_eq_left hat]
    · simp only [Mem.get_set_self]
      rw [rws_take, ← rws_app]
end

/-- From one time to a later one: but for w and b all is as it was. -/
structure WStp (w : Nat) (b b' : Option Nat) (σ σ' : St) : Prop where
  next : σ.next ≤ σ'.next
  own : ∀ x, b' = some x → b = some x ∨ σ.next ≤ x
  keep : ∀ a, a < σ.next → a ≠ w → b ≠ some a → σ'.mem.get a = σ.mem.get a
theorem WStp.refl (w : Nat) (b : Option Nat) (σ : St) : WStp w b b σ σ := ⟨Nat.le_refl _, fun _ h => .inl h, fun _ _ _ _ => rfl⟩
theorem WStp.trans {w : Nat} {b b1 b2 : Option Nat} {σ σ1 σ2 : St} (h : WStp w b b1 σ σ1) (k : WStp w b1 b2 σ1 σ2) : WStp w b b2 σ σ2 :=
  ⟨Nat.le_trans h.next k.next, fun x hx => by
    rcases k.own x hx with hx | hx
    · exact h.own x hx
    · exact .inr (Nat.le_trans h.next hx), fun a ha hw hb => (k.keep a (Nat.lt_of_lt_of_le ha h.next) hw (fun e => by
      rcases h.own a e with e | e
      · exact hb e
      · omega)).trans (h.keep a ha hw hb)⟩
/-- From one time to a later one: but for b all is as it was. -/
structure BStp (b b' : Option Nat) (σ σ' : St) : Prop where
  next : σ.next ≤ σ'.next
  own : ∀ x, b' = some x → b = some x ∨ σ.next ≤ x
  keep : ∀ a, a < σ.next → b ≠ some a → σ'.mem.get a = σ.mem.get a
theorem BStp.refl (b : Option Nat) (σ : St) : BStp b b σ σ := ⟨Nat.le_refl _, fun _ h => .inl h, fun _ _ _ => rfl⟩
theorem BStp.trans {b b1 b2 : Option Nat} {σ σ1 σ2 : St} (h : BStp b b1 σ σ1) (k : BStp b1 b2 σ1 σ2) : BStp b b2 σ σ2 :=
  ⟨Nat.le_trans h.next k.next, fun x hx => by
    rcases k.own x hx with hx | hx
    · exact h.own x hx
    · exact .inr (Nat.le_trans h.next hx), fun a ha hb => (k.keep a (Nat.lt_of_lt_of_le ha h.next) (fun e => by
      rcases h.own a e with e | e
      · exact hb e
      · omega)).trans (h.keep a ha hb)⟩

/-- Bytes. -/
def rwB : Rw UInt8 1 := ⟨fun b => [.int .u8 (b.toNat : Int)], fun _ => rfl, fun _ => rfl⟩
theorem rwsB : ∀ l : List UInt8, rws rwB l = bytesV l
  | [] => rfl
  | x :: l => by rw [rws_cons, rwsB l]; rfl
theorem BytesOf.src {d : AVal} {l : List UInt8} (h : BytesOf d l) (σ : St) : srcL σ 1 d = some (rws rwB l, l.length) := by
  rcases h with ⟨rfl, rfl⟩ | ⟨t, rfl⟩
  · rfl
  · simp [srcL, bytesV_len, rwsB]
theorem GS.bytesStr {σ : St} {v : AVal} {l : List UInt8} {b : Option Nat} (h : GS rwB σ v l b) : evalV σ (.bytesStr v) = some (.str ⟨l.toArray⟩, σ) := by
  have hs := h.src
  have hb := bytesV_bytes l
  rcases h with ⟨rfl, rfl, _⟩ | ⟨o, t, _, rfl, _⟩
  · rfl
  · simp only [evalV, hs, Option.bind_some, rwsB, hb, Option.map_some]
/-- Numbers as bytes, the greatest first. -/
def beN : Nat → Nat → List UInt8
  | 0, _ => []
  | k + 1, n => UInt8.ofNat (n / 256 ^ k) :: beN k n
theorem beN_len : ∀ k n, (beN k n).length = k
  | 0, _ => rfl
  | k + 1, n => by simp [beN, beN_len k n]
/-- Code cut in two: what stands between. -/
theorem wp_cutE {P : Env} {a b : ACode} {Q : Post} {r : Regs} {σ : St} (M : Regs → St → Prop) (h : a.wp P (fun e r σ => e = .normal ∧ M r σ) r σ) (hq : ∀ r σ, M r σ → b.wp P Q r σ) : ACode.wp P (.seq a b) Q r σ := by
  simp only [ACode.wp]
  refine wp_mono' h ?_
  rintro e r σ ⟨rfl, hm⟩
  exact hq r σ hm
theorem wp_cutKE {P : Env} {a : ACode} {Q : Post} {r : Regs} {σ : St} (M : Regs → St → Prop) (h : a.wp P (fun e r σ => e = .normal ∧ M r σ) r σ) (hq : ∀ r σ, M r σ → Q .normal r σ) : ACode.wp P a Q r σ := by
  refine wp_mono' h ?_
  rintro e r σ ⟨rfl, hm⟩
  exact hq r σ hm
end Go.Proofs.Ytopagbaokokjdaa.AM

/- Bytes that are read: unchanging, or in a block that stays as it is; words and bits. -/
namespace Go.Proofs.Ytopagbaokokjdaa.AM
open Go.RowKit
set_option linter.unusedVariables false
set_option linter.unusedSimpArgs false

def RdB (σ : St) (v : AVal) (l : List UInt8) (c : Option Nat) : Prop := (BytesOf v l ∧ c = none) ∨ ∃ o off cap t vals, c = some o ∧ v = .sl o off l.length cap t ∧ l.length ≤ cap ∧ o < σ.next ∧ σ.mem.get o = some (.cells 1 vals) ∧ off + l.length ≤ vals.length ∧ (vals.drop off).take l.length = bytesV l
section
variable {σ σ' : St} {v : AVal} {l : List UInt8} {c : Option Nat}
theorem RdB.keep (h : RdB σ v l c) (hn : σ.next ≤ σ'.next) (hm : ∀ a, a < σ.next → c = some a → σ'.mem.get a = σ.mem.get a) : RdB σ' v l c := by
  rcases h with h | ⟨o, off, cap, t, vals, h1, h2, h3, h4, h5, h6, h7⟩
  · exact .inl h
  · exact .inr ⟨o, off, cap, t, vals, h1, h2, h3, by omega, (hm o h4 h1).trans h5, h6, h7⟩
theorem RdB.lt (h : RdB σ v l c) {a : Nat} (ha : c = some a) : a < σ.next := by
  rcases h with ⟨_, h⟩ | ⟨o, _, _, _, _, h1, _, _, h4, _⟩
  · rw [h] at ha; cases ha
  · rw [h1] at ha; cases ha; exact h4
theorem RdB.ofI (h : BytesOf v l) (σ : St) : RdB σ v l none := .inl ⟨h, rfl⟩
theorem RdB.ofGS {b : Option Nat} (h : GS rwB σ v l b) : RdB σ v l b := by
  rcases h with ⟨h1, h2, h3⟩ | ⟨o, t, h1, h2, h3, h4⟩
  · exact .inl ⟨.inl ⟨h1, h2⟩, h3⟩
  · exact .inr ⟨o, 0, _, t, _, h1, h2, Nat.le_refl _, h3, h4, by rw [rws_len]; omega, by rw [List.drop_zero, rwsB, List.take_of_length_le (by rw [bytesV_len]; exact Nat.le_refl _)]⟩
theorem RdB.len (h : RdB σ v l c) (ρ : St) : evalV ρ (.len 1 v) = some (.int .i64 (l.length : Int), ρ) := by
  rcases h with ⟨h, _⟩ | ⟨o, off, cap, t, vals, _, rfl, _⟩
  · exact h.len ρ
  · simp
theorem RdB.one (h : RdB σ v l c) : v.one = true ∧ cellsOf v = [v] := by
  rcases h with ⟨h, _⟩ | ⟨o, off, cap, t, vals, _, rfl, _⟩
  · exact h.one
  · simp
theorem RdB.src (h : RdB σ v l c) : srcL σ 1 v = some (rws rwB l, l.length) := by
  rcases h with ⟨h, _⟩ | ⟨o, off, cap, t, vals, _, rfl, h3, h4, h5, h6, h7⟩
  · exact h.src σ
  · simp [srcL, h5, h6, h7, rwsB]
theorem RdB.str (h : RdB σ v l c) : evalV σ (.bytesStr v) = some (.str ⟨l.toArray⟩, σ) := by
  have hs := h.src
  have hb := bytesV_bytes l
  rcases h with ⟨h, _⟩ | ⟨o, off, cap, t, vals, _, rfl, _⟩
  · exact h.str σ
  · simp only [evalV, hs, Option.bind_some, rwsB, hb, Option.map_some]
theorem RdB.at (h : RdB σ v l c) {i : Nat} {x : UInt8} (hx : l[i]? = some x) {z : Int} (hz : z = (i : Int)) : ∃ p, (∀ ρ, evalV ρ (.idxAddr 1 v (.int .i64 z)) = some (p, ρ)) ∧ ∀ ρ : St, (∀ a, c = some a → ρ.mem.get a = σ.mem.get a) → evalV ρ (.ld1 p) = some (.int .u8 (x.toNat : Int), ρ) := by
  subst hz
  have hi := (List.getElem?_eq_some_iff.1 hx).1
  rcases h with ⟨⟨rfl, rfl⟩ | ⟨t, rfl⟩, _⟩ | ⟨o, off, cap, t, vals, rfl, rfl, h3, h4, h5, h6, h7⟩
  · simp at hx
  · refine ⟨_, fun ρ => by simp [hi]; rfl, fun ρ _ => ?_⟩
    simp [bytesV, hx]
  · refine ⟨_, fun ρ => by simp [hi]; rfl, fun ρ hρ => ?_⟩
    have h8 := congrArg (·[i]?) h7
    simp only [List.getElem?_take, if_pos hi, List.getElem?_drop] at h8
    have h9 : (bytesV l)[i]? = some (.int .u8 (x.toNat : Int)) := by simp [bytesV, hx]
    rw [h9] at h8
    simp [hρ o rfl, h5, h8]
theorem RdB.cut (h : RdB σ v l c) {n : Nat} (hn : n ≤ l.length) (k : IntKind) {z : Int} (hz : z = (n : Int)) : ∃ v', (∀ ρ : St, (∀ a, c = some a → ρ.mem.get a = σ.mem.get a) → evalV ρ (.slice 1 v (some (.int k z)) none none) = some (v', ρ)) ∧ RdB σ v' (l.drop n) c := by
  subst hz
  rcases h with ⟨⟨rfl, rfl⟩ | ⟨t, rfl⟩, rfl⟩ | ⟨o, off, cap, t, vals, rfl, rfl, h3, h4, h5, h6, h7⟩
  · simp at hn; subst hn
    exact ⟨.nilsl, fun ρ _ => by simp [asliceSl, bnd], .inl ⟨.inl ⟨rfl, by simp⟩, rfl⟩⟩
  · refine ⟨_, fun ρ _ => by simp [asliceSl, bnd, hn]; rfl, .inl ⟨.inr ⟨t, ?_⟩, rfl⟩⟩
    simp [bytesV, List.map_drop]
    rw [List.take_of_length_le]; simp
  · refine ⟨_, fun ρ hρ => by simp [hρ o rfl, h5, asliceSl, bnd, hn, h3]; rfl, .inr ⟨o, off + n, cap - n, t, vals, rfl, by simp, by simp; omega, h4, h5, by simp; omega, ?_⟩⟩
    have h8 := congrArg (List.drop n) h7
    rw [List.drop_take, List.drop_drop] at h8
    rw [List.length_drop, h8]; simp [bytesV, List.map_drop]
theorem RdB.pre (h : RdB σ v l c) {n : Nat} (hn : n ≤ l.length) (k : IntKind) {z : Int} (hz : z = (n : Int)) : ∃ v', (∀ ρ : St, (∀ a, c = some a → ρ.mem.get a = σ.mem.get a) → evalV ρ (.slice 1 v none (some (.int k z)) none) = some (v', ρ)) ∧ RdB σ v' (l.take n) c := by
  subst hz
  rcases h with ⟨⟨rfl, rfl⟩ | ⟨t, rfl⟩, rfl⟩ | ⟨o, off, cap, t, vals, rfl, rfl, h3, h4, h5, h6, h7⟩
  · simp at hn; subst hn
    exact ⟨.nilsl, fun ρ _ => by simp [asliceSl, bnd], .inl ⟨.inl ⟨rfl, by simp⟩, rfl⟩⟩
  · refine ⟨_, fun ρ _ => by simp [asliceSl, bnd, hn]; rfl, .inl ⟨.inr ⟨t && n == l.length, ?_⟩, rfl⟩⟩
    simp [bytesV, List.map_take, Nat.min_eq_left hn]
  · have hc : n ≤ cap := by omega
    refine ⟨_, fun ρ hρ => by simp [hρ o rfl, h5, asliceSl, bnd, hc]; rfl, .inr ⟨o, off, cap, t, vals, rfl, by simp [Nat.min_eq_left hn], by simp; omega, h4, h5, by simp; omega, ?_⟩⟩
    have h8 := congrArg (List.take n) h7
    rw [List.take_take, Nat.min_eq_left hn] at h8
    rw [List.length_take, Nat.min_eq_left hn, h8, bytesV, bytesV, List.map_take]
theorem RdB.full (h : RdB σ v l c) : ∃ v', evalV σ (.slice 1 v none (some (.int .i64 (l.length : Int))) (some (.int .i64 (l.length : Int)))) = some (v', σ) ∧ RdB σ v' l c := by
  rcases h with ⟨⟨rfl, rfl⟩ | ⟨t, rfl⟩, rfl⟩ | ⟨o, off, cap, t, vals, rfl, rfl, h3, h4, h5, h6, h7⟩
  · exact ⟨.nilsl, by simp [asliceSl, bnd], .inl ⟨.inl ⟨rfl, rfl⟩, rfl⟩⟩
  · refine ⟨_, by simp [asliceSl, bnd]; rfl, .inl ⟨.inr ⟨true, ?_⟩, rfl⟩⟩
    rw [List.take_of_length_le (by rw [bytesV_len]; exact Nat.le_refl _)]
  · exact ⟨_, by simp [h5, asliceSl, bnd, h3], .inr ⟨o, off, _, true, vals, rfl, rfl, Nat.le_refl _, h4, h5, h6, h7⟩⟩
end

/-! ### Words -/
theorem or64 {a b : Nat} (ha : a < 18446744073709551616) (hb : b < 18446744073709551616) : abits .or .u64 (a : Int) (b : Int) = some (.int .u64 ((a ||| b : Nat) : Int)) := by
  have h2 : ((BitVec.ofInt IntKind.u64.bits (a : Int)) ||| (BitVec.ofInt IntKind.u64.bits (b : Int))).toNat = a ||| b := by
    have e : IntKind.u64.bits = 64 := rfl
    rw [e]
    simp only [BitVec.ofInt_natCast, BitVec.toNat_or, BitVec.toNat_ofNat]
    rw [Nat.mod_eq_of_lt ha, Nat.mod_eq_of_lt hb]
  have h3 : a ||| b < 18446744073709551616 := Nat.or_lt_two_pow (n := 64) ha hb
  simp only [abits, h2]
  rw [IntWalk.u64_in] <;> omega
theorem and64 {a b : Nat} (ha : a < 18446744073709551616) (hb : b < 18446744073709551616) : abits .and .u64 (a : Int) (b : Int) = some (.int .u64 ((a &&& b : Nat) : Int)) := by
  have h2 : ((BitVec.ofInt IntKind.u64.bits (a : Int)) &&& (BitVec.ofInt IntKind.u64.bits (b : Int))).toNat = a &&& b := by
    have e : IntKind.u64.bits = 64 := rfl
    rw [e]
    simp only [BitVec.ofInt_natCast, BitVec.toNat_and, BitVec.toNat_ofNat]
    rw [Nat.mod_eq_of_lt ha, Nat.mod_eq_of_lt hb]
  have h3 : a &&& b < 18446744073709551616 := Nat.and_lt_two_pow (n := 64) a hb
  simp only [abits, h2]
  rw [IntWalk.u64_in] <;> omega
theorem and8 {a b : Nat} (ha : a < 256) (hb : b < 256) : abits .and .u8 (a : Int) (b : Int) = some (.int .u8 ((a &&& b : Nat) : Int)) := by
  have h2 : ((BitVec.ofInt IntKind.u8.bits (a : Int)) &&& (BitVec.ofInt IntKind.u8.bits (b : Int))).toNat = a &&& b := by
    have e : IntKind.u8.bits = 8 := rfl
    rw [e]
    simp only [BitVec.ofInt_natCast, BitVec.toNat_and, BitVec.toNat_ofNat]
    rw [Nat.mod_eq_of_lt ha, Nat.mod_eq_of_lt hb]
  have h3 : a &&& b < 256 := Nat.and_lt_two_pow (n := 8) a hb
  simp only [abits, h2]
  rw [IntWalk.u8_in]; omega
theorem shl64 {a s : Nat} (ha : a < 256) (hs : s ≤ 56) : ashift .shl .u64 (a : Int) (s : Int) = some (.int .u64 ((a <<< s : Nat) : Int)) := by
  have h1 : ¬ ((s : Int) < 0) := by omega
  have h2 : min (s : Int).toNat (IntKind.bits .u64) = s := by
    have : IntKind.bits .u64 = 64 := rfl
    rw [this, Int.toNat_natCast]; omega
  have h3 : a <<< s < 18446744073709551616 := by
    rw [Nat.shiftLeft_eq]
    have h4 : (2 : Nat) ^ s ≤ 2 ^ 56 := Nat.pow_le_pow_right (by omega) hs
    have h5 : a * 2 ^ s ≤ 255 * 2 ^ 56 := Nat.mul_le_mul (by omega) h4
    have : 255 * 2 ^ 56 < 18446744073709551616 := by decide
    omega
  simp only [ashift, if_neg h1, h2]
  have h6 : (a : Int) * 2 ^ s = ((a <<< s : Nat) : Int) := by rw [Nat.shiftLeft_eq]; simp
  rw [h6]
  generalize a <<< s = y at h3
  rw [IntWalk.u64_in] <;> omega
/-- Eight bytes as one number. -/
def wordN (a b c d e f g h : Nat) : Nat := ((((((a ||| b <<< 8) ||| c <<< 16) ||| d <<< 24) ||| e <<< 32) ||| f <<< 40) ||| g <<< 48) ||| h <<< 56
def hiM : Nat := 9259542123273814144
theorem hi_or {a b : Nat} (h : (a ||| b) &&& hiM = 0) : a &&& hiM = 0 ∧ b &&& hiM = 0 := by
  rw [Nat.and_or_distrib_right] at h
  exact Nat.or_eq_zero_iff.1 h
theorem hi_sh {x : Nat} (hx : x < 256) (i : Nat) (hi : i < 8) (h : (x <<< (8 * i)) &&& hiM = 0) : x < 128 := by
  have h1 := congrArg (·.testBit (8 * i + 7)) h
  simp only [Nat.testBit_and, Nat.testBit_shiftLeft, Nat.zero_testBit] at h1
  have h2 : hiM.testBit (8 * i + 7) = true := by
    rcases (by omega : i = 0 ∨ i = 1 ∨ i = 2 ∨ i = 3 ∨ i = 4 ∨ i = 5 ∨ i = 6 ∨ i = 7) with rfl | rfl | rfl | rfl | rfl | rfl | rfl | rfl <;> decide
  rw [h2] at h1
  have h3 : 8 * i + 7 - 8 * i = 7 := by omega
  simp [h3] at h1
  rw [Nat.testBit_eq_decide_div_mod_eq] at h1
  simp at h1
  omega
theorem word_hi {a b c d e f g h : Nat} (ha : a < 256) (hb : b < 256) (hc : c < 256) (hd : d < 256) (he : e < 256) (hf : f < 256) (hg : g < 256) (hh : h < 256) (hw : wordN a b c d e f g h &&& hiM = 0) : a < 128 ∧ b < 128 ∧ c < 128 ∧ d < 128 ∧ e < 128 ∧ f < 128 ∧ g < 128 ∧ h < 128 := by
  unfold wordN at hw
  obtain ⟨hw, k7⟩ := hi_or hw
  obtain ⟨hw, k6⟩ := hi_or hw
  obtain ⟨hw, k5⟩ := hi_or hw
  obtain ⟨hw, k4⟩ := hi_or hw
  obtain ⟨hw, k3⟩ := hi_or hw
  obtain ⟨hw, k2⟩ := hi_or hw
  obtain ⟨hw, k1⟩ := hi_or hw
  exact ⟨hi_sh ha 0 (by omega) (by simpa using hw), hi_sh hb 1 (by omega) k1, hi_sh hc 2 (by omega) k2, hi_sh hd 3 (by omega) k3, hi_sh he 4 (by omega) k4, hi_sh hf 5 (by omega) k5, hi_sh hg 6 (by omega) k6, hi_sh hh 7 (by omega) k7⟩
end Go.Proofs.Ytopagbaokokjdaa.AM
