/- The abstract machine, part 3 of 3: a small machine of values, blocks and code, and the proof that the model does as it does. -/
import Derived.Test.YtinfnpbglapjhaaAm2
/- The abstract machine's code, step by step: what remains to be done stands as a word, until its turn comes. -/
namespace Go.Proofs.Ytinfnpbglapjhaa.AM
set_option linter.unusedVariables false
set_option linter.unusedSimpArgs false

section
variable {P : Program}

def seqK (P : Program) (b : ACode) (Q : Post) : Post := fun e r σ => match e with
  | .normal => b.wp P Q r σ
  | e => Q e r σ
def blockK (id : Nat) (Q : Post) : Post := fun e r σ => match e with
  | .exit j => if j = id then Q .normal r σ else Q (.exit j) r σ
  | e => Q e r σ
def regK (keep : List Nat) (Q : Post) : Regs → St → Prop := fun r σ => Q .normal (norm keep r) σ
def condK (P : Program) (a b : ACode) (Q : Post) (r : Regs) (σ : St) : Option AVal → Prop
  | some (.bool t) => if t then a.wp P Q r σ else b.wp P Q r σ
  | _ => False
def stepK (P : Program) (rest : List AOper) (d : Option Nat) (r : Regs) (Q : Regs → St → Prop) : Option (AVal × St) → Prop
  | some (v, σ') => rwp P rest (setR r d v) σ' Q
  | none => False
def retK (P : Program) (rest : List AOper) (d : Option Nat) (r : Regs) (Q : Regs → St → Prop) : AVal → St → Prop := fun v σ' => rwp P rest (setR r d v) σ' Q
def callK (P : Program) (rest : List AOper) (d : Option Nat) (r : Regs) (σ : St) (Q : Regs → St → Prop) : Option AVal → Option (List AVal) → Prop
  | some (.fn f first caps), some vs => ACall P f (first ++ vs ++ caps) σ (retK P rest d r Q)
  | _, _ => False
def pickK (P : Program) (rest : List AOper) (d : Option Nat) (r : Regs) (σ : St) (Q : Regs → St → Prop) (a b : Opd) : Option AVal → Prop
  | some (.bool true) => stepK P rest d r Q ((evalOpd r a).map (·, σ))
  | some (.bool false) => stepK P rest d r Q ((evalOpd r b).map (·, σ))
  | _ => False
def guardK (P : Program) (o : AOper) (want : Bool) (rest : List AOper) (r : Regs) (σ : St) (Q : Regs → St → Prop) : Option AVal → Prop
  | some (.bool b) => if b = want then rwp P (⟨o.dst, o.ins, none⟩ :: rest) r σ Q else rwp P rest (delU r o.dst) σ Q
  | some (.tup []) => rwp P rest (delU r o.dst) σ Q
  | _ => False

@[simp] theorem wp_skip (Q : Post) (r : Regs) (σ : St) : ACode.wp P .skip Q r σ = Q .normal r σ := Eq.trans rfl rfl
@[simp] theorem wp_ret (Q : Post) (r : Regs) (σ : St) : ACode.wp P .ret Q r σ = Q .ret r σ := Eq.trans rfl rfl
@[simp] theorem wp_exit (Q : Post) (id : Nat) (r : Regs) (σ : St) : ACode.wp P (.exit id) Q r σ = Q (.exit id) r σ := Eq.trans rfl rfl
@[simp] theorem wp_seq (a b : ACode) (Q : Post) (r : Regs) (σ : St) : ACode.wp P (.seq a b) Q r σ = a.wp P (seqK P b Q) r σ := Eq.trans rfl rfl
@[simp] theorem wp_block (id : Nat) (a : ACode) (Q : Post) (r : Regs) (σ : St) : ACode.wp P (.block id a) Q r σ = a.wp P (blockK id Q) r σ := Eq.trans rfl rfl
@[simp] theorem wp_cond (c : Opd) (a b : ACode) (Q : Post) (r : Regs) (σ : St) : ACode.wp P (.cond c a b) Q r σ = condK P a b Q r σ (evalOpd r c) := Eq.trans rfl rfl
@[simp] theorem wp_reg (keep : List Nat) (ops : List AOper) (Q : Post) (r : Regs) (σ : St) : ACode.wp P (.reg keep ops) Q r σ = rwp P ops r σ (regK keep Q) := Eq.trans rfl rfl
@[simp] theorem seqK_normal (b : ACode) (Q : Post) (r : Regs) (σ : St) : seqK P b Q .normal r σ = b.wp P Q r σ := Eq.trans rfl rfl
@[simp] theorem seqK_exit (b : ACode) (Q : Post) (j : Nat) (r : Regs) (σ : St) : seqK P b Q (.exit j) r σ = Q (.exit j) r σ := Eq.trans rfl rfl
@[simp] theorem seqK_ret (b : ACode) (Q : Post) (r : Regs) (σ : St) : seqK P b Q .ret r σ = Q .ret r σ := Eq.trans rfl rfl
@[simp] theorem blockK_normal (i : Nat) (Q : Post) (r : Regs) (σ : St) : blockK i Q .normal r σ = Q .normal r σ := Eq.trans rfl rfl
@[simp] theorem blockK_exit (i j : Nat) (Q : Post) (r : Regs) (σ : St) : blockK i Q (.exit j) r σ = if j = i then Q .normal r σ else Q (.exit j) r σ := Eq.trans rfl rfl
@[simp] theorem blockK_ret (i : Nat) (Q : Post) (r : Regs) (σ : St) : blockK i Q .ret r σ = Q .ret r σ := Eq.trans rfl rfl
@[simp] theorem regK_app (keep : List Nat) (Q : Post) (r : Regs) (σ : St) : regK keep Q r σ = Q .normal (norm keep r) σ := Eq.trans rfl rfl
@[simp] theorem condK_true (a b : ACode) (Q : Post) (r : Regs) (σ : St) : condK P a b Q r σ (some (.bool true)) = a.wp P Q r σ := Eq.trans rfl rfl
@[simp] theorem condK_false (a b : ACode) (Q : Post) (r : Regs) (σ : St) : condK P a b Q r σ (some (.bool false)) = b.wp P Q r σ := Eq.trans rfl rfl
@[simp] theorem stepK_some (rest : List AOper) (d : Option Nat) (r : Regs) (Q : Regs → St → Prop) (v : AVal) (σ : St) : stepK P rest d r Q (some (v, σ)) = rwp P rest (setR r d v) σ Q := Eq.trans rfl rfl
@[simp] theorem stepK_none (rest : List AOper) (d : Option Nat) (r : Regs) (Q : Regs → St → Prop) : stepK P rest d r Q none = False := Eq.trans rfl rfl
@[simp] theorem retK_app (rest : List AOper) (d : Option Nat) (r : Regs) (Q : Regs → St → Prop) (v : AVal) (σ : St) : retK P rest d r Q v σ = rwp P rest (setR r d v) σ Q := Eq.trans rfl rfl
@[simp] theorem callK_some (rest : List AOper) (d : Option Nat) (r : Regs) (σ : St) (Q : Regs → St → Prop) (f : FuncId) (xs vs ys : List AVal) : callK P rest d r σ Q (some (.fn f xs ys)) (some vs) = ACall P f (xs ++ vs ++ ys) σ (retK P rest d r Q) := Eq.trans rfl rfl
@[simp] theorem pickK_true (rest : List AOper) (d : Option Nat) (r : Regs) (σ : St) (Q : Regs → St → Prop) (a b : Opd) : pickK P rest d r σ Q a b (some (.bool true)) = stepK P rest d r Q ((evalOpd r a).map (·, σ)) := Eq.trans rfl rfl
@[simp] theorem pickK_false (rest : List AOper) (d : Option Nat) (r : Regs) (σ : St) (Q : Regs → St → Prop) (a b : Opd) : pickK P rest d r σ Q a b (some (.bool false)) = stepK P rest d r Q ((evalOpd r b).map (·, σ)) := Eq.trans rfl rfl
@[simp] theorem guardK_tt (o : AOper) (rest : List AOper) (r : Regs) (σ : St) (Q : Regs → St → Prop) : guardK P o true rest r σ Q (some (.bool true)) = rwp P (⟨o.dst, o.ins, none⟩ :: rest) r σ Q := Eq.trans rfl rfl
@[simp] theorem guardK_ff (o : AOper) (rest : List AOper) (r : Regs) (σ : St) (Q : Regs → St → Prop) : guardK P o false rest r σ Q (some (.bool false)) = rwp P (⟨o.dst, o.ins, none⟩ :: rest) r σ Q := Eq.trans rfl rfl
@[simp] theorem guardK_tf (o : AOper) (rest : List AOper) (r : Regs) (σ : St) (Q : Regs → St → Prop) : guardK P o true rest r σ Q (some (.bool false)) = rwp P rest (delU r o.dst) σ Q := Eq.trans rfl rfl
@[simp] theorem guardK_ft (o : AOper) (rest : List AOper) (r : Regs) (σ : St) (Q : Regs → St → Prop) : guardK P o false rest r σ Q (some (.bool true)) = rwp P rest (delU r o.dst) σ Q := Eq.trans rfl rfl
@[simp] theorem guardK_u (o : AOper) (want : Bool) (rest : List AOper) (r : Regs) (σ : St) (Q : Regs → St → Prop) : guardK P o want rest r σ Q (some (.tup [])) = rwp P rest (delU r o.dst) σ Q := Eq.trans rfl rfl
@[simp] theorem rwp_nil (r : Regs) (σ : St) (Q : Regs → St → Prop) : rwp P [] r σ Q = Q r σ := Eq.trans rfl rfl
@[simp] theorem rwp_op (d : Option Nat) (o : AOp Opd) (rest : List AOper) (r : Regs) (σ : St) (Q : Regs → St → Prop) : rwp P (⟨d, .op o, none⟩ :: rest) r σ Q = stepK P rest d r Q ((o.mapM (evalOpd r)).bind (evalV σ)) := by
  simp only [rwp, AIns.wp, stepK]
  cases (o.mapM (evalOpd r)).bind (evalV σ) <;> rfl
@[simp] theorem rwp_pick (d : Option Nat) (c a b : Opd) (rest : List AOper) (r : Regs) (σ : St) (Q : Regs → St → Prop) : rwp P (⟨d, .pick c a b, none⟩ :: rest) r σ Q = pickK P rest d r σ Q a b (evalOpd r c) := by
  simp only [rwp, AIns.wp]
  cases evalOpd r c with
  | none => rfl
  | some v =>
    cases v <;> first | rfl | skip
    rename_i t
    cases t
    · simp only [pickK, stepK, Bool.false_eq_true, if_false]; cases evalOpd r b <;> rfl
    · simp only [pickK, stepK, if_true]; cases evalOpd r a <;> rfl
@[simp] theorem rwp_call (d : Option Nat) (f : Opd) (args : List Opd) (rest : List AOper) (r : Regs) (σ : St) (Q : Regs → St → Prop) : rwp P (⟨d, .call f args, none⟩ :: rest) r σ Q = callK P rest d r σ Q (evalOpd r f) (listM (evalOpd r) args) := by
  simp only [rwp, AIns.wp]
  cases evalOpd r f with
  | none => rfl
  | some v => cases v <;> first | rfl | (cases listM (evalOpd r) args <;> rfl)
def nextK (P : Program) (rest : List AOper) (d : Option Nat) (r : Regs) (Q : Regs → St → Prop) : Option (List (AVal × St)) → Prop
  | some l => ∀ p ∈ l, rwp P rest (setR r d p.1) p.2 Q
  | none => False
@[simp] theorem nextK_some (rest : List AOper) (d : Option Nat) (r : Regs) (Q : Regs → St → Prop) (l : List (AVal × St)) : nextK P rest d r Q (some l) = ∀ p ∈ l, rwp P rest (setR r d p.1) p.2 Q := Eq.trans rfl rfl
@[simp] theorem rwp_next (d : Option Nat) (x : Opd) (rest : List AOper) (r : Regs) (σ : St) (Q : Regs → St → Prop) : rwp P (⟨d, .next x, none⟩ :: rest) r σ Q = nextK P rest d r Q ((evalOpd r x).bind (nextC σ)) := by
  simp only [rwp, AIns.wp, nextK]
  cases (evalOpd r x).bind (nextC σ) <;> rfl
@[simp] theorem rwp_guard (d : Option Nat) (i : AIns) (t : Nat) (want : Bool) (rest : List AOper) (r : Regs) (σ : St) (Q : Regs → St → Prop) : rwp P (⟨d, i, some (t, want)⟩ :: rest) r σ Q = guardK P ⟨d, i, none⟩ want rest r σ Q (r.lookup t) := by
  simp only [rwp, guardK]
  cases List.lookup t r with
  | none => rfl
  | some v => cases v <;> first | rfl | (rename_i vs; cases vs <;> rfl)

def loopK (keep : List Nat) (J : Nat → Regs → St → Prop) (m : Nat) (Q : Post) : Post := fun e r σ => match e with
  | .normal => ∃ m', m' < m ∧ J m' (norm keep r) σ
  | e => Q e r σ
@[simp] theorem loopK_normal (keep : List Nat) (J : Nat → Regs → St → Prop) (m : Nat) (Q : Post) (r : Regs) (σ : St) : loopK keep J m Q .normal r σ = ∃ m', m' < m ∧ J m' (norm keep r) σ := Eq.trans rfl rfl
@[simp] theorem loopK_exit (keep : List Nat) (J : Nat → Regs → St → Prop) (m : Nat) (Q : Post) (j : Nat) (r : Regs) (σ : St) : loopK keep J m Q (.exit j) r σ = Q (.exit j) r σ := Eq.trans rfl rfl
@[simp] theorem loopK_ret (keep : List Nat) (J : Nat → Regs → St → Prop) (m : Nat) (Q : Post) (r : Regs) (σ : St) : loopK keep J m Q .ret r σ = Q .ret r σ := Eq.trans rfl rfl
theorem wp_loop {keep : List Nat} {a : ACode} {Q : Post} {r : Regs} {σ : St} (J : Nat → Regs → St → Prop) (n : Nat) (h0 : J n (norm keep r) σ) (hs : ∀ m r σ, J m r σ → a.wp P (loopK keep J m Q) r σ) : ACode.wp P (.loop keep a) Q r σ :=
  ⟨J, n, h0, hs⟩

/-! ### The same in an order of one's own -/

def dstepK (P : Program) (rest : List (AOper × List Nat)) (d : Option Nat) (rc : List Nat) (hs : Hist) (h : St → Prop) (r : Regs) (Q : Regs → St → Prop) : Option (AVal × St) → Prop
  | some (v, σ') => again hs σ' rc ∧ dwp P rest (setR r d v) σ' (hs ++ [h]) Q
  | none => False
def dretK (P : Program) (rest : List (AOper × List Nat)) (d : Option Nat) (rc : List Nat) (hs : Hist) (r : Regs) (Q : Regs → St → Prop) : AVal → St → Prop := fun v σ' => again hs σ' rc ∧ dwp P rest (setR r d v) σ' (hs ++ [fun _ => True]) Q
def dcallK (P : Program) (rest : List (AOper × List Nat)) (d : Option Nat) (rc : List Nat) (hs : Hist) (r : Regs) (σ : St) (Q : Regs → St → Prop) : Option AVal → Option (List AVal) → Prop
  | some (.fn f first caps), some vs => ACall P f (first ++ vs ++ caps) σ (dretK P rest d rc hs r Q)
  | _, _ => False
def dpickK (P : Program) (rest : List (AOper × List Nat)) (d : Option Nat) (rc : List Nat) (hs : Hist) (r : Regs) (σ : St) (Q : Regs → St → Prop) (a b : Opd) : Option AVal → Prop
  | some (.bool true) => dstepK P rest d rc hs (fun _ => True) r Q ((evalOpd r a).map (·, σ))
  | some (.bool false) => dstepK P rest d rc hs (fun _ => True) r Q ((evalOpd r b).map (·, σ))
  | _ => False
def dguardK (P : Program) (o : AOper) (rc : List Nat) (want : Bool) (rest : List (AOper × List Nat)) (hs : Hist) (r : Regs) (σ : St) (Q : Regs → St → Prop) : Option AVal → Prop
  | some (.bool b) => if b = want then dwp P ((⟨o.dst, o.ins, none⟩, rc) :: rest) r σ hs Q else dwp P rest (delR r o.dst) σ (hs ++ [fun _ : St => True]) Q
  | _ => False

@[simp] theorem wp_dreg (keep : List Nat) (ops : List (AOper × List Nat)) (Q : Post) (r : Regs) (σ : St) : ACode.wp P (.dreg keep ops) Q r σ = dwp P ops r σ [] (regK keep Q) := Eq.trans rfl rfl
@[simp] theorem dstepK_some (rest : List (AOper × List Nat)) (d : Option Nat) (rc : List Nat) (hs : Hist) (h : St → Prop) (r : Regs) (Q : Regs → St → Prop) (v : AVal) (σ : St) : dstepK P rest d rc hs h r Q (some (v, σ)) = (again hs σ rc ∧ dwp P rest (setR r d v) σ (hs ++ [h]) Q) := Eq.trans rfl rfl
@[simp] theorem dstepK_none (rest : List (AOper × List Nat)) (d : Option Nat) (rc : List Nat) (hs : Hist) (h : St → Prop) (r : Regs) (Q : Regs → St → Prop) : dstepK P rest d rc hs h r Q none = False := Eq.trans rfl rfl
@[simp] theorem dretK_app (rest : List (AOper × List Nat)) (d : Option Nat) (rc : List Nat) (hs : Hist) (r : Regs) (Q : Regs → St → Prop) (v : AVal) (σ : St) : dretK P rest d rc hs r Q v σ = (again hs σ rc ∧ dwp P rest (setR r d v) σ (hs ++ [fun _ => True]) Q) := Eq.trans rfl rfl
@[simp] theorem dcallK_some (rest : List (AOper × List Nat)) (d : Option Nat) (rc : List Nat) (hs : Hist) (r : Regs) (σ : St) (Q : Regs → St → Prop) (f : FuncId) (xs vs ys : List AVal) : dcallK P rest d rc hs r σ Q (some (.fn f xs ys)) (some vs) = ACall P f (xs ++ vs ++ ys) σ (dretK P rest d rc hs r Q) := Eq.trans rfl rfl
@[simp] theorem dpickK_true (rest : List (AOper × List Nat)) (d : Option Nat) (rc : List Nat) (hs : Hist) (r : Regs) (σ : St) (Q : Regs → St → Prop) (a b : Opd) : dpickK P rest d rc hs r σ Q a b (some (.bool true)) = dstepK P rest d rc hs (fun _ => True) r Q ((evalOpd r a).map (·, σ)) := Eq.trans rfl rfl
@[simp] theorem dpickK_false (rest : List (AOper × List Nat)) (d : Option Nat) (rc : List Nat) (hs : Hist) (r : Regs) (σ : St) (Q : Regs → St → Prop) (a b : Opd) : dpickK P rest d rc hs r σ Q a b (some (.bool false)) = dstepK P rest d rc hs (fun _ => True) r Q ((evalOpd r b).map (·, σ)) := Eq.trans rfl rfl
@[simp] theorem dguardK_tt (o : AOper) (rc : List Nat) (rest : List (AOper × List Nat)) (hs : Hist) (r : Regs) (σ : St) (Q : Regs → St → Prop) : dguardK P o rc true rest hs r σ Q (some (.bool true)) = dwp P ((⟨o.dst, o.ins, none⟩, rc) :: rest) r σ hs Q := Eq.trans rfl rfl
@[simp] theorem dguardK_ff (o : AOper) (rc : List Nat) (rest : List (AOper × List Nat)) (hs : Hist) (r : Regs) (σ : St) (Q : Regs → St → Prop) : dguardK P o rc false rest hs r σ Q (some (.bool false)) = dwp P ((⟨o.dst, o.ins, none⟩, rc) :: rest) r σ hs Q := Eq.trans rfl rfl
@[simp] theorem dguardK_tf (o : AOper) (rc : List Nat) (rest : List (AOper × List Nat)) (hs : Hist) (r : Regs) (σ : St) (Q : Regs → St → Prop) : dguardK P o rc true rest hs r σ Q (some (.bool false)) = dwp P rest (delR r o.dst) σ (hs ++ [fun _ : St => True]) Q := Eq.trans rfl rfl
@[simp] theorem dguardK_ft (o : AOper) (rc : List Nat) (rest : List (AOper × List Nat)) (hs : Hist) (r : Regs) (σ : St) (Q : Regs → St → Prop) : dguardK P o rc false rest hs r σ Q (some (.bool true)) = dwp P rest (delR r o.dst) σ (hs ++ [fun _ : St => True]) Q := Eq.trans rfl rfl
@[simp] theorem dwp_nil (r : Regs) (σ : St) (hs : Hist) (Q : Regs → St → Prop) : dwp P [] r σ hs Q = Q r σ := Eq.trans rfl rfl
/-- What an operation gave, if it gives that again. -/
def readK (av : Option (AOp AVal)) (was : Option AVal) : St → Prop := fun σ' => match av with
  | some av => (evalV σ' av).map (·.1) = was
  | none => True
theorem dwp_op (d : Option Nat) (o : AOp Opd) (rc : List Nat) (rest : List (AOper × List Nat)) (r : Regs) (σ : St) (hs : Hist) (Q : Regs → St → Prop) :
    dwp P ((⟨d, .op o, none⟩, rc) :: rest) r σ hs Q = dstepK P rest d rc hs (histOf (.op o) r σ) r Q ((o.mapM (evalOpd r)).bind (evalV σ)) := by
  simp only [dwp, AIns.wp, dstepK]
  cases (o.mapM (evalOpd r)).bind (evalV σ) <;> rfl
theorem histOf_op (o : AOp Opd) (r : Regs) (σ : St) : histOf (.op o) r σ = readK (o.mapM (evalOpd r)) (((o.mapM (evalOpd r)).bind (evalV σ)).map (·.1)) := by
  funext σ'
  simp only [histOf, readK]
  cases o.mapM (evalOpd r) <;> rfl
@[simp] theorem readK_some (av : AOp AVal) (was : Option AVal) (σ : St) : readK (some av) was σ = ((evalV σ av).map (·.1) = was) := Eq.trans rfl rfl
@[simp] theorem dwp_op' (d : Option Nat) (o : AOp Opd) (rc : List Nat) (rest : List (AOper × List Nat)) (r : Regs) (σ : St) (hs : Hist) (Q : Regs → St → Prop) :
    dwp P ((⟨d, .op o, none⟩, rc) :: rest) r σ hs Q = dstepK P rest d rc hs (readK (o.mapM (evalOpd r)) (((o.mapM (evalOpd r)).bind (evalV σ)).map (·.1))) r Q ((o.mapM (evalOpd r)).bind (evalV σ)) := by
  rw [dwp_op, histOf_op]
@[simp] theorem dwp_pick (d : Option Nat) (c a b : Opd) (rc : List Nat) (rest : List (AOper × List Nat)) (r : Regs) (σ : St) (hs : Hist) (Q : Regs → St → Prop) : dwp P ((⟨d, .pick c a b, none⟩, rc) :: rest) r σ hs Q = dpickK P rest d rc hs r σ Q a b (evalOpd r c) := by
  simp only [dwp, AIns.wp]
  have hh : histOf (.pick c a b) r σ = fun _ => True := Eq.trans rfl rfl
  rw [hh]
  cases evalOpd r c with
  | none => rfl
  | some v =>
    cases v <;> first | rfl | skip
    rename_i t
    cases t
    · simp only [dpickK, dstepK, Bool.false_eq_true, if_false]; cases evalOpd r b <;> rfl
    · simp only [dpickK, dstepK, if_true]; cases evalOpd r a <;> rfl
@[simp] theorem dwp_call (d : Option Nat) (f : Opd) (args : List Opd) (rc : List Nat) (rest : List (AOper × List Nat)) (r : Regs) (σ : St) (hs : Hist) (Q : Regs → St → Prop) : dwp P ((⟨d, .call f args, none⟩, rc) :: rest) r σ hs Q = dcallK P rest d rc hs r σ Q (evalOpd r f) (listM (evalOpd r) args) := by
  simp only [dwp, AIns.wp]
  have hh : histOf (.call f args) r σ = fun _ => True := Eq.trans rfl rfl
  rw [hh]
  cases evalOpd r f with
  | none => rfl
  | some v => cases v <;> first | rfl | (cases listM (evalOpd r) args <;> rfl)
@[simp] theorem dwp_guard (d : Option Nat) (i : AIns) (t : Nat) (want : Bool) (rc : List Nat) (rest : List (AOper × List Nat)) (r : Regs) (σ : St) (hs : Hist) (Q : Regs → St → Prop) : dwp P ((⟨d, i, some (t, want)⟩, rc) :: rest) r σ hs Q = dguardK P ⟨d, i, none⟩ rc want rest hs r σ Q (r.lookup t) := by
  simp only [dwp, dguardK]
  cases List.lookup t r with
  | none => rfl
  | some v => cases v <;> first | rfl | (rename_i vs; cases vs <;> rfl)

@[simp] theorem again_nil (h : Hist) (σ : St) : again h σ [] = True := Eq.trans rfl rfl
def histK (σ : St) : Option (St → Prop) → Prop
  | some p => p σ
  | none => False
@[simp] theorem histK_some (σ : St) (p : St → Prop) : histK σ (some p) = p σ := Eq.trans rfl rfl
@[simp] theorem again_cons (h : Hist) (σ : St) (i : Nat) (is : List Nat) : again h σ (i :: is) = (histK σ h[i]? ∧ again h σ is) := by
  simp only [again]
  cases h[i]? <;> rfl

def resK (rs : List ARes) (Q : AVal → St → Prop) (σ : St) : Option AVal → Prop
  | some v => Q v σ
  | none => False
@[simp] theorem resK_some (rs : List ARes) (Q : AVal → St → Prop) (σ : St) (v : AVal) : resK rs Q σ (some v) = Q v σ := Eq.trans rfl rfl
@[simp] theorem resK_none (rs : List ARes) (Q : AVal → St → Prop) (σ : St) : resK rs Q σ none = False := Eq.trans rfl rfl
@[simp] theorem retPost_normal (rs : List ARes) (Q : AVal → St → Prop) (r : Regs) (σ : St) : retPost rs Q .normal r σ = resK rs Q σ (resA r σ rs) := by
  simp only [retPost]; cases resA r σ rs <;> rfl
@[simp] theorem retPost_ret (rs : List ARes) (Q : AVal → St → Prop) (r : Regs) (σ : St) : retPost rs Q .ret r σ = resK rs Q σ (resA r σ rs) := by
  simp only [retPost]; cases resA r σ rs <;> rfl

theorem lk_cons (t k : Nat) (v : AVal) (l : Regs) : List.lookup t ((k, v) :: l) = if t = k then some v else List.lookup t l := by
  simp only [List.lookup]
  by_cases h : t = k
  · simp [h]
  · have : (t == k) = false := by simpa using h
    rw [this, if_neg h]
@[simp] theorem norm_nil (r : Regs) : norm [] r = [] := Eq.trans rfl rfl
def consK (k : Nat) (l : Regs) : Option AVal → Regs
  | some v => (k, v) :: l
  | none => l
@[simp] theorem consK_some (k : Nat) (l : Regs) (v : AVal) : consK k l (some v) = (k, v) :: l := Eq.trans rfl rfl
@[simp] theorem consK_none (k : Nat) (l : Regs) : consK k l none = l := Eq.trans rfl rfl
@[simp] theorem norm_cons (k : Nat) (ks : List Nat) (r : Regs) : norm (k :: ks) r = consK k (norm ks r) (r.lookup k) := by
  simp only [norm, List.filterMap_cons]
  cases r.lookup k <;> rfl
@[simp] theorem setR_some (r : Regs) (d : Nat) (v : AVal) : setR r (some d) v = (d, v) :: r := Eq.trans rfl rfl
@[simp] theorem setR_none (r : Regs) (v : AVal) : setR r none v = r := Eq.trans rfl rfl
@[simp] theorem delU_some (r : Regs) (d : Nat) : delU r (some d) = (d, .tup []) :: r := Eq.trans rfl rfl
@[simp] theorem delU_none (r : Regs) : delU r none = r := Eq.trans rfl rfl
@[simp] theorem delR_none (r : Regs) : delR r none = r := Eq.trans rfl rfl
@[simp] theorem delR_nil (d : Nat) : delR [] (some d) = [] := Eq.trans rfl rfl
@[simp] theorem delR_cons (d k : Nat) (v : AVal) (r : Regs) : delR ((k, v) :: r) (some d) = if k = d then delR r (some d) else (k, v) :: delR r (some d) := by
  simp only [delR, List.filter_cons]
  by_cases h : k = d <;> simp [h]
@[simp] theorem evalOpd_t (r : Regs) (n : Nat) : evalOpd r (.t n) = r.lookup n := Eq.trans rfl rfl
@[simp] theorem evalOpd_c (r : Regs) (v : AVal) : evalOpd r (.c v) = some v := Eq.trans rfl rfl
@[simp] theorem listM_nil {α β : Type} (f : α → Option β) : listM f [] = some [] := Eq.trans rfl rfl
@[simp] theorem listM_cons {α β : Type} (f : α → Option β) (x : α) (xs : List α) : listM f (x :: xs) = (f x).bind fun y => (listM f xs).map (y :: ·) := Eq.trans rfl rfl
@[simp] theorem resA_one (r : Regs) (σ : St) (x : ARes) : resA r σ [x] = resOne r σ x := by
  simp only [resA, listM]; cases resOne r σ x <;> rfl
@[simp] theorem resA_many (r : Regs) (σ : St) (x y : ARes) (l : List ARes) : resA r σ (x :: y :: l) = (listM (resOne r σ) (x :: y :: l)).map .tup := by
  simp only [resA, listM]
  cases resOne r σ x with
  | none => rfl
  | some a =>
    cases resOne r σ y with
    | none => rfl
    | some b => cases listM (resOne r σ) l <;> rfl
@[simp] theorem resA_none (r : Regs) (σ : St) : resA r σ [] = some (.tup []) := Eq.trans rfl rfl
@[simp] theorem resOne_t (r : Regs) (σ : St) (n : Nat) : resOne r σ (.t n) = r.lookup n := Eq.trans rfl rfl
@[simp] theorem resOne_c1 (r : Regs) (σ : St) (n : Nat) : resOne r σ (.c1 n) = (r.lookup n).bind (load1 σ) := Eq.trans rfl rfl
@[simp] theorem resOne_cn (r : Regs) (σ : St) (n k : Nat) : resOne r σ (.cn n k) = (r.lookup n).bind fun x => (loadL σ k x).map .agg := Eq.trans rfl rfl
@[simp] theorem argR_nil (n : Nat) : argR n [] = [] := Eq.trans rfl rfl
@[simp] theorem argR_cons (n : Nat) (v : AVal) (vs : List AVal) : argR n (v :: vs) = (n, v) :: argR (n + 1) vs := Eq.trans rfl rfl

@[simp] theorem cellsOf_int (k : IntKind) (n : Int) : cellsOf (.int k n) = [.int k n] := Eq.trans rfl rfl
@[simp] theorem one_int (k : IntKind) (n : Int) : AVal.one (.int k n) = true := Eq.trans rfl rfl
@[simp] theorem cellsOf_bool (b : Bool) : cellsOf (.bool b) = [.bool b] := Eq.trans rfl rfl
@[simp] theorem one_bool (b : Bool) : AVal.one (.bool b) = true := Eq.trans rfl rfl
@[simp] theorem cellsOf_str (s : ByteArray) : cellsOf (.str s) = [.str s] := Eq.trans rfl rfl
@[simp] theorem one_str (s : ByteArray) : AVal.one (.str s) = true := Eq.trans rfl rfl
@[simp] theorem cellsOf_ptr (a o : Nat) : cellsOf (.ptr a o) = [.ptr a o] := Eq.trans rfl rfl
@[simp] theorem one_ptr (a o : Nat) : AVal.one (.ptr a o) = true := Eq.trans rfl rfl
@[simp] theorem cellsOf_nilp  : cellsOf (.nilp) = [.nilp] := Eq.trans rfl rfl
@[simp] theorem one_nilp  : AVal.one (.nilp) = true := Eq.trans rfl rfl
@[simp] theorem cellsOf_iptr (cs : List AVal) : cellsOf (.iptr cs) = [.iptr cs] := Eq.trans rfl rfl
@[simp] theorem one_iptr (cs : List AVal) : AVal.one (.iptr cs) = true := Eq.trans rfl rfl
@[simp] theorem cellsOf_sl (a o l c : Nat) (t : Bool) : cellsOf (.sl a o l c t) = [.sl a o l c t] := Eq.trans rfl rfl
@[simp] theorem one_sl (a o l c : Nat) (t : Bool) : AVal.one (.sl a o l c t) = true := Eq.trans rfl rfl
@[simp] theorem cellsOf_nilsl  : cellsOf (.nilsl) = [.nilsl] := Eq.trans rfl rfl
@[simp] theorem one_nilsl  : AVal.one (.nilsl) = true := Eq.trans rfl rfl
@[simp] theorem cellsOf_isl (cs : List AVal) (l : Nat) (t : Bool) : cellsOf (.isl cs l t) = [.isl cs l t] := Eq.trans rfl rfl
@[simp] theorem one_isl (cs : List AVal) (l : Nat) (t : Bool) : AVal.one (.isl cs l t) = true := Eq.trans rfl rfl
@[simp] theorem cellsOf_map (a : Nat) : cellsOf (.map a) = [.map a] := Eq.trans rfl rfl
@[simp] theorem one_map (a : Nat) : AVal.one (.map a) = true := Eq.trans rfl rfl
@[simp] theorem cellsOf_nilmap  : cellsOf (.nilmap) = [.nilmap] := Eq.trans rfl rfl
@[simp] theorem one_nilmap  : AVal.one (.nilmap) = true := Eq.trans rfl rfl
@[simp] theorem cellsOf_fn (f : FuncId) (x y : List AVal) : cellsOf (.fn f x y) = [.fn f x y] := Eq.trans rfl rfl
@[simp] theorem one_fn (f : FuncId) (x y : List AVal) : AVal.one (.fn f x y) = true := Eq.trans rfl rfl
@[simp] theorem cellsOf_nilfn  : cellsOf (.nilfn) = [.nilfn] := Eq.trans rfl rfl
@[simp] theorem one_nilfn  : AVal.one (.nilfn) = true := Eq.trans rfl rfl
@[simp] theorem cellsOf_iface (t : TypeId) (v : AVal) : cellsOf (.iface t v) = [.iface t v] := Eq.trans rfl rfl
@[simp] theorem one_iface (t : TypeId) (v : AVal) : AVal.one (.iface t v) = true := Eq.trans rfl rfl
@[simp] theorem cellsOf_niliface  : cellsOf (.niliface) = [.niliface] := Eq.trans rfl rfl
@[simp] theorem one_niliface  : AVal.one (.niliface) = true := Eq.trans rfl rfl
@[simp] theorem cellsOf_agg (cs : List AVal) : cellsOf (.agg cs) = cs := Eq.trans rfl rfl
@[simp] theorem one_agg (cs : List AVal) : AVal.one (.agg cs) = false := Eq.trans rfl rfl
@[simp] theorem one_tup (cs : List AVal) : AVal.one (.tup cs) = false := Eq.trans rfl rfl
attribute [simp] AOp.mapM evalV isNil aeqn abin abinI made allocV load1 loadL

end
end Go.Proofs.Ytinfnpbglapjhaa.AM

/- What a call makes and gives may be taken as unchanging: its slices then hold their cells themselves, and the memory is as it was. -/
namespace Go.Proofs.Ytinfnpbglapjhaa.AM
open Go.RowKit
set_option linter.unusedVariables false
set_option linter.unusedSimpArgs false

/-- A slice over a block that is new: its cells. -/
def frz1 (lo : Nat) (m : Mem) : AVal → Option AVal
  | .sl n o len cap t => if n < lo then some (.sl n o len cap t) else match m.get n with
    | some (.cells es vals) => if o + len * es ≤ vals.length ∧ uptoL lo vals = true then some (.isl ((vals.drop o).take (len * es)) len (t && decide (cap = len))) else none
    | some (.ro es vals) => if o + len * es ≤ vals.length ∧ uptoL lo vals = true then some (.isl ((vals.drop o).take (len * es)) len (t && decide (cap = len))) else none
    | _ => none
  | v => if v.upto lo then some v else none

def frz (lo : Nat) (m : Mem) : AVal → Option AVal
  | .tup vs => (listM (frz1 lo m) vs).map .tup
  | v => frz1 lo m v

section
variable {P : Program} {B : Nat} {w0 : Root} {w w' : World} {ρ ρ' : Rho} {I I' : Imm} {σ σ' : St}

open Classical in
/-- The new blocks' cells, as they are now. -/
noncomputable def frzI (lo : Nat) (ρ : Rho) (σ : St) (w : World) (I : Imm) : Imm := fun b => match I b with
  | some c => some c
  | none => if ∃ n p es vals, lo ≤ n ∧ ρ n = some p ∧ p.b = b ∧ σ.mem.get n = some (.cells es vals) then
      match w.heap[b]? with
      | some (.cells c _ _) => some c
      | _ => none
    else none

theorem frzI_le (lo : Nat) (ρ : Rho) (σ : St) (w : World) (I : Imm) : ILe I (frzI lo ρ σ w I) := fun b c h => by simp only [frzI, h]

theorem frzI_new {lo : Nat} {n es : Nat} {p : Place} {vals : List AVal} {c : Array Value} {e : TypeId} {fr : Nat × Nat} (hI : I p.b = none) (hn : lo ≤ n) (hρ : ρ n = some p) (hm : σ.mem.get n = some (.cells es vals)) (hh : w.heap[p.b]? = some (.cells c e fr)) : frzI lo ρ σ w I p.b = some c := by
  simp only [frzI, hI, hh]
  rw [if_pos ⟨n, p, es, vals, hn, hρ, rfl, hm⟩]

/-- New blocks are left out, what is in them stands as unchanging. -/
theorem Rel.freeze (rl : Rel B w0 ρ I σ w) (rl' : Rel B w0 ρ' I' σ' w') (ex : Ext ρ I σ ρ' I' σ') (ho : Old σ σ') : Rel B w0 ρ (frzI σ.next ρ' σ' w' I') σ w' := by
  have rs := rl.scrub rl' ex ho
  exact {
    low := rs.low
    base := rs.base
    blk := fun a p b h1 h2 => (rs.blk a p b h1 h2).world (RLe.refl _) (frzI_le _ _ _ _ _) rfl
    inj := rs.inj
    imm := fun b c hb => by
      simp only [frzI] at hb
      split at hb
      · rename_i c' hc'
        cases hb
        exact rs.imm b c hc'
      · split at hb
        · split at hb
          · rename_i c' e fr hh; cases hb; exact ⟨e, fr, hh⟩
          · cases hb
        · cases hb
    sep := fun a p b h1 h2 h3 => by
      simp only [frzI, rs.sep a p b h1 h2 h3]
      rw [if_neg]
      rintro ⟨n, p', es, vals, g1, g2, g3, g4⟩
      have ha := rl.mlt h2
      exact rl'.inj a n p p' b (.cells es vals) (by rw [ex.rho a ha]; exact h1) g2 (by rw [ho a ha]; exact h2) g4 h3 (by omega) g3.symm
    new := rs.new
    lt := rs.lt
    dom := rs.dom
    memdom := rs.memdom
    ilow := fun b c hb hlt => by
      simp only [frzI] at hb
      split at hb
      · rename_i c' hc'
        exact rs.ilow b c' hc' hlt
      · split at hb
        · rename_i hex
          obtain ⟨n, p, es, vals, g1, g2, g3, g4⟩ := hex
          have := rl'.new n p _ g2 g4 rfl
          omega
        · cases hb }

theorem frz1_rel (rl : Rel B w0 ρ I σ w) (rl' : Rel B w0 ρ' I' σ' w') (ex : Ext ρ I σ ρ' I' σ') {v v' : AVal} {cv : Value} (h : frz1 σ.next σ'.mem v = some v') (hv : VRel ρ' I' v cv) : VRel ρ (frzI σ.next ρ' σ' w' I') v' cv := by
  have hle := frzI_le σ.next ρ' σ' w' I'
  have old : ∀ {x : AVal} {cx : Value}, x.upto σ.next = true → VRel ρ' I' x cx → VRel ρ (frzI σ.next ρ' σ' w' I') x cx := fun hu hx =>
    (VRel.agree (fun a ha => (ex.rho a ha).symm) _ _ hu hx).mono (RLe.refl _) hle
  have cold : ∀ {xs : List AVal} {f : Nat → Option Value}, uptoL σ.next xs = true → CRel ρ' I' xs f → CRel ρ (frzI σ.next ρ' σ' w' I') xs f := fun hu hx =>
    (CRel.agree (fun a ha => (ex.rho a ha).symm) _ _ hu hx).mono (RLe.refl _) hle _ _ _ (fun _ _ h => h)
  cases v with
  | sl n o len cap t =>
    simp only [frz1] at h
    split at h
    · rename_i hn
      cases h
      exact old (by simp [AVal.upto, hn]) hv
    · rename_i hn
      have key : ∀ (es : Nat) (vals : List AVal) (c : Array Value) (p : Place), o + len * es ≤ vals.length → uptoL σ.next vals = true → ρ' n = some p → vals.all AVal.one = true → p.es = es → CRel ρ' I' vals (fun j => c[p.base + j]?) → frzI σ.next ρ' σ' w' I' p.b = some c →
          VRel ρ (frzI σ.next ρ' σ' w' I') (.isl ((vals.drop o).take (len * es)) len (t && decide (cap = len))) cv := by
        intro es vals c p hl hu hp hone hes hc hI
        simp only [VRel] at hv ⊢
        obtain ⟨p', ad, cap', hp', rfl, h1, h2, h3, h4, h5, h6⟩ := hv
        rw [hp] at hp'; cases hp'
        refine ⟨ad, cap', rfl, by omega, h3, ?_, ?_, ?_⟩
        · intro ht
          simp only [Bool.and_eq_true, decide_eq_true_eq] at ht
          rw [h4 ht.1]; exact ht.2
        · rw [List.all_eq_true]
          intro x hx
          exact List.all_eq_true.1 hone x (List.mem_of_mem_drop (List.mem_of_mem_take hx))
        · rcases h5 with h5 | h5
          · have hl0 : len = 0 := by omega
            subst hl0
            simp [CRel]
          · subst h5
            have hd := ((cold hu hc).drop o).take (len * es)
            refine hd.congr fun j hj => ?_
            by_cases hj0 : j = 0 <;> simp [icell, Addr.add, hj0, hI, Nat.add_assoc]
      split at h
      · rename_i es vals hm
        split at h
        · rename_i hh
          cases h
          have hv0 := hv
          simp only [VRel] at hv0
          obtain ⟨p, _, _, hp, _⟩ := hv0
          have hb := rl'.blk n p _ hp hm
          obtain ⟨k1, k2, k3, c, e, fr, k4, k5, k6, k7⟩ := hb
          exact key es vals c p hh.1 hh.2 hp k2 k1 k7 (frzI_new (rl'.sep n p _ hp hm rfl) (by omega) hp hm k4)
        · cases h
      · rename_i es vals hm
        split at h
        · rename_i hh
          cases h
          have hv0 := hv
          simp only [VRel] at hv0
          obtain ⟨p, _, _, hp, _⟩ := hv0
          have hb := rl'.blk n p _ hp hm
          obtain ⟨k1, k2, c, k3, k4⟩ := hb
          exact key es vals c p hh.1 hh.2 hp k2 k1 k4 (hle _ _ k3)
        · cases h
      · cases h
  | _ =>
    simp only [frz1] at h
    split at h
    · rename_i hu; cases h; exact old hu hv
    · cases h

theorem ACall.freeze {f : FuncId} {args : List AVal} {Q : AVal → St → Prop} (h : ACall P f args σ fun v σ' => Old σ σ' ∧ ∃ v', frz σ.next σ'.mem v = some v' ∧ Q v' σ) : ACall P f args σ Q := by
  refine ⟨h.1, fun B w0 ρ I w cargs rl h1 h2 => (h.2 B w0 ρ I w cargs rl h1 h2).mono ?_⟩
  rintro e w' ⟨v, σ', ρ', I', cv, rfl, hv, rl', ex, ho, v', hf, hq⟩
  refine ⟨v', σ, ρ, frzI σ.next ρ' σ' w' I', cv, rfl, ?_, rl.freeze rl' ex ho, ⟨fun _ _ => rfl, fun b c hb => frzI_le _ _ _ _ _ b c (ex.imm b c hb), Nat.le_refl _, fun _ _ _ => rfl⟩, hq⟩
  cases v with
  | tup vs =>
    simp only [frz, Option.map_eq_some_iff] at hf
    obtain ⟨us, hus, rfl⟩ := hf
    obtain ⟨l1, l2⟩ := listM_get hus
    simp only [VRel] at hv ⊢
    obtain ⟨vs', rfl, hs, hc⟩ := hv
    refine ⟨vs', rfl, by rw [hs, l1], CRel.mk fun j y hy => ?_⟩
    obtain ⟨x, hx, hxy⟩ := l2 j y hy
    obtain ⟨u, hu, hux⟩ := hc.get j x hx
    exact ⟨u, hu, frz1_rel rl rl' ex hxy hux⟩
  | _ => simp only [frz] at hf; exact frz1_rel rl rl' ex hf hv

/-- What is computed from unchanging values alone, in no memory, gives unchanging values, in any. -/
theorem ACall.pure {f : FuncId} {args : List AVal} {Q : AVal → St → Prop} (ha : uptoL 0 args = true) (h : ACall P f args σ0 fun v σ' => ∃ v', frz 0 σ'.mem v = some v' ∧ v'.upto 0 = true ∧ Q v' σ) : ACall P f args σ Q := by
  have h := ACall.freeze (Q := fun v _ => v.upto 0 = true ∧ Q v σ) (h.mono fun v σ' ⟨v', h1, h2, h3⟩ => ⟨fun a ha => absurd ha (by simp), v', h1, h2, h3⟩)
  refine ⟨h.1, fun B w0 ρ I w cargs rl h1 h2 => (h.2 w.heap.size _ ρ0 I w cargs rl.empty h1 (CRel.agree (n := 0) (fun a ha => by omega) _ _ ha h2)).mono ?_⟩
  rintro e w' ⟨v, σ', ρ', I', cv, rfl, hv, rl', ex, hu, hq⟩
  have rb := rl.below rl'.low
  have hlow : ∀ b c, I' b = some c → b < w.heap.size → I b = some c := fun b c hb hlt => by
    have h3 := rl'.ilow b c hb hlt
    obtain ⟨c', h4⟩ := Option.isSome_iff_exists.1 h3
    rw [ex.imm b c' h4] at hb
    cases hb; exact h4
  refine ⟨v, σ, ρ, I', cv, rfl, VRel.agree (n := 0) (fun a ha => by omega) _ _ hu hv, ?_, ⟨fun _ _ => rfl, ex.imm, Nat.le_refl _, fun _ _ _ => rfl⟩, hq⟩
  exact {
    low := rb.low
    base := rb.base
    blk := fun a p b h1 h2 => (rb.blk a p b h1 h2).world (RLe.refl _) ex.imm rfl
    inj := rb.inj
    imm := rl'.imm
    sep := fun a p b h1 h2 h3 => by
      cases hb : I' p.b with
      | none => rfl
      | some c =>
        have := hlow _ _ hb (rl.lt a p h1)
        rw [rl.sep a p b h1 h2 h3] at this
        cases this
    new := rb.new
    lt := rb.lt
    dom := rb.dom
    memdom := rb.memdom
    ilow := fun b c hb hlt => rl.ilow b c (hlow b c hb (Nat.lt_of_lt_of_le hlt rl.base)) hlt }

end
end Go.Proofs.Ytinfnpbglapjhaa.AM

/- A slice that a call gives, taken as unchanging, though the call has written elsewhere. -/
namespace Go.Proofs.Ytinfnpbglapjhaa.AM
open Go.RowKit
set_option linter.unusedVariables false
set_option linter.unusedSimpArgs false

section
variable {P : Program} {B : Nat} {w0 : Root} {w w' : World} {ρ ρ' : Rho} {I I' : Imm} {σ σ' : St}

def frzB (b : Nat) (c : Array Value) (I : Imm) : Imm := fun k => if k = b then some c else I k

theorem Rel.freeze1 (rl : Rel B w0 ρ I σ w) {n es : Nat} {vals : List AVal} {p : Place} (hρ : ρ n = some p) (hm : σ.mem.get n = some (.cells es vals)) :
    ∃ c, CRel ρ I vals (fun j => c[p.base + j]?) ∧ p.es = es ∧ vals.all AVal.one = true ∧ ILe I (frzB p.b c I) ∧ Rel B w0 ρ (frzB p.b c I) ⟨σ.mem.del n, σ.next⟩ w := by
  obtain ⟨k1, k2, k3, c, e, fr, k4, k5, k6, k7⟩ := rl.blk n p _ hρ hm
  have hI := rl.sep n p _ hρ hm rfl
  have hle : ILe I (frzB p.b c I) := fun b c' hb => by
    simp only [frzB]
    split
    · rename_i hbp; rw [hbp, hI] at hb; cases hb
    · exact hb
  have g : ∀ {a : Nat} {b : Blk}, (σ.mem.del n).get a = some b → a ≠ n ∧ σ.mem.get a = some b := fun {a b} h => by
    rw [Mem.get_del] at h
    split at h
    · cases h
    · rename_i hne; exact ⟨hne, h⟩
  refine ⟨c, k7, k1, k2, hle, ?_⟩
  exact {
    low := rl.low
    base := rl.base
    blk := fun a q b h1 h2 => (rl.blk a q b h1 (g h2).2).world (RLe.refl _) hle rfl
    inj := fun a a' q q' b b' h1 h2 h3 h4 => rl.inj a a' q q' b b' h1 h2 (g h3).2 (g h4).2
    imm := fun b c' hb => by
      simp only [frzB] at hb
      split at hb
      · rename_i hbp; cases hb; rw [hbp]; exact ⟨e, fr, k4⟩
      · exact rl.imm b c' hb
    sep := fun a q b h1 h2 h3 => by
      have := rl.inj a n q p b _ h1 hρ (g h2).2 hm h3 (g h2).1
      simp only [frzB, if_neg this]
      exact rl.sep a q b h1 (g h2).2 h3
    new := fun a q b h1 h2 => rl.new a q b h1 (g h2).2
    lt := rl.lt
    dom := rl.dom
    memdom := fun a ha => by
      show (σ.mem.del n).get a = none
      rw [Mem.get_del]; split
      · rfl
      · exact rl.memdom a ha
    ilow := fun b c' hb hlt => by
      simp only [frzB] at hb
      split at hb
      · rename_i hbp
        have := rl.new n p _ hρ hm rfl
        omega
      · exact rl.ilow b c' hb hlt }

theorem ACall.freeze1 {f : FuncId} {args : List AVal} {Q : AVal → St → Prop} (h : ACall P f args σ fun v σ' => Q v σ' ∨ ∃ n o len cap t es vals, v = .sl n o len cap t ∧ σ'.mem.get n = some (.cells es vals) ∧ σ.next ≤ n ∧ o + len * es ≤ vals.length ∧
    Q (.isl ((vals.drop o).take (len * es)) len (t && decide (cap = len))) ⟨σ'.mem.del n, σ'.next⟩) : ACall P f args σ Q := by
  refine ⟨h.1, fun B w0 ρ I w cargs rl h1 h2 => (h.2 B w0 ρ I w cargs rl h1 h2).mono ?_⟩
  rintro e w' ⟨v, σ', ρ', I', cv, rfl, hv, rl', ex, hq | ⟨n, o, len, cap, t, es, vals, rfl, hm, hn, hl, hq⟩⟩
  · exact ⟨v, σ', ρ', I', cv, rfl, hv, rl', ex, hq⟩
  · have hv0 := hv
    simp only [VRel] at hv
    obtain ⟨p, ad, cap', hp, rfl, g1, g2, g3, g4, g5, g6⟩ := hv
    obtain ⟨c, hc, hes, hone, hle, rl2⟩ := rl'.freeze1 hp hm
    refine ⟨_, _, ρ', frzB p.b c I', _, rfl, ?_, rl2, ⟨ex.rho, fun b c' hb => hle _ _ (ex.imm _ _ hb), ex.next, fun a ha hna => by
      show (σ'.mem.del n).get a = _
      rw [Mem.get_del, if_neg (by omega)]; exact ex.keep a ha hna⟩, hq⟩
    simp only [VRel]
    refine ⟨ad, cap', rfl, by omega, g3, ?_, ?_, ?_⟩
    · intro ht
      simp only [Bool.and_eq_true, decide_eq_true_eq] at ht
      rw [g4 ht.1]; exact ht.2
    · rw [List.all_eq_true]
      intro x hx
      exact List.all_eq_true.1 hone x (List.mem_of_mem_drop (List.mem_of_mem_take hx))
    · rcases g5 with g5 | g5
      · have hl0 : len = 0 := by omega
        subst hl0
        simp [CRel]
      · subst g5
        have hd := (((hc.mono (RLe.refl _) hle _ _ _ (fun _ _ h => h)) : CRel ρ' (frzB p.b c I') vals (fun j => c[p.base + j]?)).drop o).take (len * es)
        refine hd.congr fun j hj => ?_
        by_cases hj0 : j = 0 <;> simp [icell, Addr.add, hj0, frzB, Nat.add_assoc]

end
end Go.Proofs.Ytinfnpbglapjhaa.AM

/- The same for slices of slices: what lies in a new block is taken as unchanging too. -/
namespace Go.Proofs.Ytinfnpbglapjhaa.AM
open Go.RowKit
set_option linter.unusedVariables false
set_option linter.unusedSimpArgs false

/-- A value with its new slices' cells in it, d blocks deep. -/
def frzD (lo : Nat) (m : Mem) : Nat → AVal → Option AVal
  | 0, v => if v.upto lo then some v else none
  | d + 1, v => match v with
    | .sl n o len cap t => if n < lo then some (.sl n o len cap t) else match m.get n with
      | some (.cells es vals) => if o + len * es ≤ vals.length then (listM (frzD lo m d) ((vals.drop o).take (len * es))).map fun cs => .isl cs len (t && decide (cap = len)) else none
      | _ => none
    | .tup vs => (listM (frzD lo m d) vs).map .tup
    | .agg vs => (listM (frzD lo m d) vs).map .agg
    | v => if v.upto lo then some v else none

section
variable {P : Program} {B : Nat} {w0 : Root} {w w' : World} {ρ ρ' : Rho} {I I' : Imm} {σ σ' : St}

theorem frzD_one (lo : Nat) (m : Mem) : ∀ (d : Nat) (v v' : AVal), frzD lo m d v = some v' → v.one = true → v'.one = true := by
  intro d v v' h h1
  cases d with
  | zero =>
    simp only [frzD] at h
    split at h
    · cases h; exact h1
    · cases h
  | succ d =>
    cases v <;> simp only [frzD] at h
    case sl n o len cap t =>
      split at h
      · cases h; rfl
      · split at h
        · split at h
          · simp only [Option.map_eq_some_iff] at h
            obtain ⟨cs, _, rfl⟩ := h; rfl
          · cases h
        · cases h
    case tup vs => simp at h1
    case agg vs => simp at h1
    all_goals
      split at h
      · cases h; exact h1
      · cases h

theorem frzD_rel (rl : Rel B w0 ρ I σ w) (rl' : Rel B w0 ρ' I' σ' w') (ex : Ext ρ I σ ρ' I' σ') : ∀ (d : Nat) {v v' : AVal} {cv : Value}, frzD σ.next σ'.mem d v = some v' → VRel ρ' I' v cv → VRel ρ (frzI σ.next ρ' σ' w' I') v' cv := by
  have hle := frzI_le σ.next ρ' σ' w' I'
  have old : ∀ {x : AVal} {cx : Value}, x.upto σ.next = true → VRel ρ' I' x cx → VRel ρ (frzI σ.next ρ' σ' w' I') x cx := fun hu hx =>
    (VRel.agree (fun a ha => (ex.rho a ha).symm) _ _ hu hx).mono (RLe.refl _) hle
  intro d
  induction d with
  | zero =>
    intro v v' cv h hv
    simp only [frzD] at h
    split at h
    · rename_i hu; cases h; exact old hu hv
    · cases h
  | succ d ih =>
    intro v v' cv h hv
    have ihl : ∀ {xs ys : List AVal} {f : Nat → Option Value}, listM (frzD σ.next σ'.mem d) xs = some ys → CRel ρ' I' xs f → CRel ρ (frzI σ.next ρ' σ' w' I') ys f := fun {xs ys f} hl hc => by
      obtain ⟨l1, l2⟩ := listM_get hl
      refine CRel.mk fun j y hy => ?_
      obtain ⟨x, hx, hxy⟩ := l2 j y hy
      obtain ⟨u, hu, hux⟩ := hc.get j x hx
      exact ⟨u, hu, ih hxy hux⟩
    have ihone : ∀ {xs ys : List AVal}, listM (frzD σ.next σ'.mem d) xs = some ys → xs.all AVal.one = true → ys.all AVal.one = true := fun {xs ys} hl h1 => by
      obtain ⟨l1, l2⟩ := listM_get hl
      rw [List.all_eq_true]
      intro y hy
      obtain ⟨j, hj⟩ := List.mem_iff_getElem?.1 hy
      obtain ⟨x, hx, hxy⟩ := l2 j y hj
      exact frzD_one _ _ d x y hxy (List.all_eq_true.1 h1 x (List.mem_of_getElem? hx))
    cases v <;> simp only [frzD] at h
    case sl n o len cap t =>
      split at h
      · rename_i hn
        cases h
        exact old (by simp [AVal.upto, hn]) hv
      · rename_i hn
        split at h
        · rename_i es vals hm
          split at h
          · rename_i hl
            simp only [Option.map_eq_some_iff] at h
            obtain ⟨cs, hcs, rfl⟩ := h
            simp only [VRel] at hv ⊢
            obtain ⟨p, ad, cap', hp, rfl, h1, h2, h3, h4, h5, h6⟩ := hv
            obtain ⟨k1, k2, k3, c, e, fr, k4, k5, k6, k7⟩ := rl'.blk n p _ hp hm
            have hI := frzI_new (rl'.sep n p _ hp hm rfl) (by omega : σ.next ≤ n) hp hm k4
            refine ⟨ad, cap', rfl, by omega, h3, ?_, ihone hcs ?_, ?_⟩
            · intro ht
              simp only [Bool.and_eq_true, decide_eq_true_eq] at ht
              rw [h4 ht.1]; exact ht.2
            · rw [List.all_eq_true]
              intro x hx
              exact List.all_eq_true.1 k2 x (List.mem_of_mem_drop (List.mem_of_mem_take hx))
            · have hlen := (listM_get hcs).1
              rcases h5 with h5 | h5
              · have hl0 : len = 0 := by omega
                subst hl0
                simp at hlen
                subst hlen
                simp [CRel]
              · subst h5
                have hd := (k7.drop o).take (len * es)
                refine (ihl hcs hd).congr fun j hj => ?_
                by_cases hj0 : j = 0 <;> simp [icell, Addr.add, hj0, hI, Nat.add_assoc]
          · cases h
        · cases h
    case tup vs =>
      simp only [Option.map_eq_some_iff] at h
      obtain ⟨us, hus, rfl⟩ := h
      simp only [VRel] at hv ⊢
      obtain ⟨vs', rfl, hs, hc⟩ := hv
      exact ⟨vs', rfl, by rw [hs, (listM_get hus).1], ihl hus hc⟩
    case agg vs =>
      simp only [Option.map_eq_some_iff] at h
      obtain ⟨us, hus, rfl⟩ := h
      simp only [VRel] at hv ⊢
      obtain ⟨vs', rfl, hs, ho, hc⟩ := hv
      exact ⟨vs', rfl, by rw [hs, (listM_get hus).1], ihone hus ho, ihl hus hc⟩
    all_goals
      split at h
      · rename_i hu; cases h; exact old hu hv
      · cases h

theorem ACall.freezeD (d : Nat) {f : FuncId} {args : List AVal} {Q : AVal → St → Prop} (h : ACall P f args σ fun v σ' => Old σ σ' ∧ ∃ v', frzD σ.next σ'.mem d v = some v' ∧ Q v' σ) : ACall P f args σ Q := by
  refine ⟨h.1, fun B w0 ρ I w cargs rl h1 h2 => (h.2 B w0 ρ I w cargs rl h1 h2).mono ?_⟩
  rintro e w' ⟨v, σ', ρ', I', cv, rfl, hv, rl', ex, ho, v', hf, hq⟩
  exact ⟨v', σ, ρ, frzI σ.next ρ' σ' w' I', cv, rfl, frzD_rel rl rl' ex d hf hv, rl.freeze rl' ex ho, ⟨fun _ _ => rfl, fun b c hb => frzI_le _ _ _ _ _ b c (ex.imm b c hb), Nat.le_refl _, fun _ _ _ => rfl⟩, hq⟩

end
end Go.Proofs.Ytinfnpbglapjhaa.AM

/- What an argument's width says of its number. -/
namespace Go.Proofs.Ytinfnpbglapjhaa.AM
open Go.RowKit
theorem wf_u8 {n : Int} (h : (Lit.int .u8 n).wf = true) : ∃ k : Nat, n = (k : Int) ∧ k < 256 := by
  have h2 : IntKind.u8.min ≤ n ∧ n ≤ IntKind.u8.max := by simpa [Lit.wf] using h
  have e1 : IntKind.u8.min = 0 := by decide +kernel
  have e2 : IntKind.u8.max = 255 := by decide +kernel
  exact ⟨n.toNat, by omega, by omega⟩
theorem wf_u16 {n : Int} (h : (Lit.int .u16 n).wf = true) : ∃ k : Nat, n = (k : Int) ∧ k < 65536 := by
  have h2 : IntKind.u16.min ≤ n ∧ n ≤ IntKind.u16.max := by simpa [Lit.wf] using h
  have e1 : IntKind.u16.min = 0 := by decide +kernel
  have e2 : IntKind.u16.max = 65535 := by decide +kernel
  exact ⟨n.toNat, by omega, by omega⟩
theorem wf_u32 {n : Int} (h : (Lit.int .u32 n).wf = true) : ∃ k : Nat, n = (k : Int) ∧ k < 4294967296 := by
  have h2 : IntKind.u32.min ≤ n ∧ n ≤ IntKind.u32.max := by simpa [Lit.wf] using h
  have e1 : IntKind.u32.min = 0 := by decide +kernel
  have e2 : IntKind.u32.max = 4294967295 := by decide +kernel
  exact ⟨n.toNat, by omega, by omega⟩
theorem wf_u64 {n : Int} (h : (Lit.int .u64 n).wf = true) : ∃ k : Nat, n = (k : Int) ∧ k < 18446744073709551616 := by
  have h2 : IntKind.u64.min ≤ n ∧ n ≤ IntKind.u64.max := by simpa [Lit.wf] using h
  have e1 : IntKind.u64.min = 0 := by decide +kernel
  have e2 : IntKind.u64.max = 18446744073709551615 := by decide +kernel
  exact ⟨n.toNat, by omega, by omega⟩
theorem wf_i64 {n : Int} (h : (Lit.int .i64 n).wf = true) : -9223372036854775808 ≤ n ∧ n ≤ 9223372036854775807 := by
  have h2 : IntKind.i64.min ≤ n ∧ n ≤ IntKind.i64.max := by simpa [Lit.wf] using h
  have e1 : IntKind.i64.min = -9223372036854775808 := by decide +kernel
  have e2 : IntKind.i64.max = 9223372036854775807 := by decide +kernel
  omega
end Go.Proofs.Ytinfnpbglapjhaa.AM

/- Small things for contracts: lists in step, bytes, what is frozen. -/
namespace Go.Proofs.Ytinfnpbglapjhaa.AM
open Go.RowKit
set_option maxRecDepth 100000
set_option linter.unusedVariables false
set_option linter.unusedSimpArgs false

mutual
theorem AVal.upto_mono {n m : Nat} (h : n ≤ m) : (v : AVal) → v.upto n = true → v.upto m = true
  | .ptr a _, hv => by simp only [AVal.upto, decide_eq_true_eq] at *; omega
  | .iptr cs, hv => by simp only [AVal.upto] at *; exact AVal.uptoL_mono h cs hv
  | .sl a _ _ _ _, hv => by simp only [AVal.upto, decide_eq_true_eq] at *; omega
  | .isl cs _ _, hv => by simp only [AVal.upto] at *; exact AVal.uptoL_mono h cs hv
  | .map a, hv => by simp only [AVal.upto, decide_eq_true_eq] at *; omega
  | .fn _ xs ys, hv => by
    simp only [AVal.upto, Bool.and_eq_true] at *
    exact ⟨AVal.uptoL_mono h xs hv.1, AVal.uptoL_mono h ys hv.2⟩
  | .iface _ v, hv => by simp only [AVal.upto] at *; exact AVal.upto_mono h v hv
  | .agg cs, hv => by simp only [AVal.upto] at *; exact AVal.uptoL_mono h cs hv
  | .tup vs, hv => by simp only [AVal.upto] at *; exact AVal.uptoL_mono h vs hv
  | .int _ _, _ => rfl
  | .bool _, _ => rfl
  | .str _, _ => rfl
  | .nilp, _ => rfl
  | .nilsl, _ => rfl
  | .nilmap, _ => rfl
  | .nilfn, _ => rfl
  | .niliface, _ => rfl
theorem AVal.uptoL_mono {n m : Nat} (h : n ≤ m) : (vs : List AVal) → uptoL n vs = true → uptoL m vs = true
  | [], _ => rfl
  | v :: vs, hv => by
    simp only [uptoL, Bool.and_eq_true] at *
    exact ⟨AVal.upto_mono h v hv.1, AVal.uptoL_mono h vs hv.2⟩
end

def All2 {α β : Type} (R : α → β → Prop) : List α → List β → Prop
  | [], [] => True
  | a :: la, b :: bs => R a b ∧ All2 R la bs
  | _, _ => False
theorem All2.snoc {α β : Type} {R : α → β → Prop} {a : α} {b : β} (hr : R a b) : ∀ {la : List α} {bs : List β}, All2 R la bs → All2 R (la ++ [a]) (bs ++ [b])
  | [], [], _ => ⟨hr, trivial⟩
  | x :: la, y :: bs, h => ⟨h.1, All2.snoc hr h.2⟩
  | [], _ :: _, h => h.elim
  | _ :: _, [], h => h.elim
theorem All2.imp {α β : Type} {R S : α → β → Prop} (hrs : ∀ a b, R a b → S a b) : ∀ {la : List α} {bs : List β}, All2 R la bs → All2 S la bs
  | [], [], _ => trivial
  | x :: la, y :: bs, h => ⟨hrs _ _ h.1, All2.imp hrs h.2⟩
  | [], _ :: _, h => h.elim
  | _ :: _, [], h => h.elim
theorem All2.len {α β : Type} {R : α → β → Prop} : ∀ {la : List α} {bs : List β}, All2 R la bs → la.length = bs.length
  | [], [], _ => rfl
  | x :: la, y :: bs, h => by simp [All2.len h.2]
  | [], _ :: _, h => h.elim
  | _ :: _, [], h => h.elim
theorem All2.listM {α β : Type} {R : α → β → Prop} {f : β → Option AVal} {g : α → AVal} (hr : ∀ a b, R a b → f b = some (g a)) : ∀ {la : List α} {bs : List β}, All2 R la bs → AM.listM f bs = some (la.map g)
  | [], [], _ => rfl
  | x :: la, y :: bs, h => by
    rw [listM_cons, hr _ _ h.1, All2.listM hr h.2]; rfl
  | [], _ :: _, h => h.elim
  | _ :: _, [], h => h.elim
theorem listM_id {f : AVal → Option AVal} : ∀ {l : List AVal}, (∀ x ∈ l, f x = some x) → listM f l = some l
  | [], _ => rfl
  | x :: l, h => by rw [listM_cons, h x (by simp), listM_id (fun y hy => h y (by simp [hy]))]; rfl

theorem All2.get {α β : Type} {R : α → β → Prop} : ∀ {xs : List α} {ys : List β} {i : Nat} {x : α}, All2 R xs ys → xs[i]? = some x → ∃ y, ys[i]? = some y ∧ R x y
  | [], _, _, _, _, h => by simp at h
  | x :: xs, y :: ys, 0, a, h, hx => by simp at hx; subst hx; exact ⟨y, rfl, h.1⟩
  | x :: xs, y :: ys, i + 1, a, h, hx => by
    obtain ⟨b, hb, hr⟩ := All2.get (i := i) h.2 (by simpa using hx)
    exact ⟨b, by simpa using hb, hr⟩
  | _ :: _, [], _, _, h, _ => h.elim

theorem frzD_tup (lo : Nat) (m : Mem) (d : Nat) (vs : List AVal) : frzD lo m (d + 1) (.tup vs) = (listM (frzD lo m d) vs).map .tup := by simp only [frzD]
theorem frzD_sl {lo : Nat} {m : Mem} {d n o len cap es : Nat} {t : Bool} {vals : List AVal} (hn : lo ≤ n) (hm : m.get n = some (.cells es vals)) (hl : o + len * es ≤ vals.length) :
    frzD lo m (d + 1) (.sl n o len cap t) = (listM (frzD lo m d) ((vals.drop o).take (len * es))).map fun cs => .isl cs len (t && decide (cap = len)) := by
  simp only [frzD]
  rw [if_neg (by omega), hm]
  simp only
  rw [if_pos hl]

theorem condK_mid {P : Program} {a b : ACode} {Q : Post} {r : Regs} {σ : St} {o : Option AVal} (M : Regs → St → Prop) (h : condK P a b (fun e r σ => e = .normal ∧ M r σ) r σ o) (hq : ∀ r σ, M r σ → Q .normal r σ) : condK P a b Q r σ o := by
  cases o with
  | none => exact h.elim
  | some v =>
    cases v <;> first | exact h.elim | skip
    rename_i t
    cases t
    · exact wp_mono' h (fun e r σ ⟨he, hm⟩ => he ▸ hq r σ hm)
    · exact wp_mono' h (fun e r σ ⟨he, hm⟩ => he ▸ hq r σ hm)

def bytesV (l : List UInt8) : List AVal := l.map fun b => .int .u8 (b.toNat : Int)
/-- A slice of bytes that does not change. -/
def BytesOf (d : AVal) (l : List UInt8) : Prop := d = .nilsl ∧ l = [] ∨ ∃ t, d = .isl (bytesV l) l.length t
theorem bytesV_len (l : List UInt8) : (bytesV l).length = l.length := by simp [bytesV]
theorem bytesV_upto (lo : Nat) (l : List UInt8) : uptoL lo (bytesV l) = true := by
  induction l with
  | nil => rfl
  | cons x l ih =>
    simp only [bytesV] at ih
    simp only [bytesV, List.map_cons, uptoL, AVal.upto, ih, Bool.and_true]
theorem bytesV_bytes : ∀ (l : List UInt8), listM byteOfA (bytesV l) = some l
  | [] => rfl
  | x :: l => by
    have h : byteOfA (.int .u8 (x.toNat : Int)) = some x := by simp [byteOfA]
    have ih := bytesV_bytes l
    simp only [bytesV] at ih
    simp only [bytesV, List.map_cons, listM_cons, h, ih]
    rfl
theorem BytesOf.str {d : AVal} {l : List UInt8} (h : BytesOf d l) (ρ : St) : evalV ρ (.bytesStr d) = some (.str ⟨l.toArray⟩, ρ) := by
  rcases h with ⟨rfl, rfl⟩ | ⟨t, rfl⟩
  · rfl
  · simp only [evalV, srcL, bytesV_len, Nat.mul_one, if_true, Option.bind_some, bytesV_bytes, Option.map_some]
theorem BytesOf.len {d : AVal} {l : List UInt8} (h : BytesOf d l) (ρ : St) : evalV ρ (.len 1 d) = some (.int .i64 (l.length : Int), ρ) := by
  rcases h with ⟨rfl, rfl⟩ | ⟨t, rfl⟩ <;> simp
theorem BytesOf.one {d : AVal} {l : List UInt8} (h : BytesOf d l) : d.one = true ∧ cellsOf d = [d] := by
  rcases h with ⟨rfl, rfl⟩ | ⟨t, rfl⟩ <;> simp
/-- A slice of bytes, as an argument has it. -/
theorem bytes_arg {d : AVal} {ok : List AVal → Prop} (hok : ∀ x, ok x → ∃ n, x = [.int .u8 n] ∧ (Lit.int .u8 n).wf = true) (h : [d] = [.nilsl] ∨ ∃ xs : List (List AVal), [d] = [.isl xs.flatten xs.length false] ∧ (∀ x ∈ xs, x.length = 1 ∧ ok x) ∧ xs.length ≤ 9223372036854775807 ∧ xs.length * 1 ≤ 140737488351232) :
    ∃ l, BytesOf d l ∧ l.length ≤ 140737488351232 := by
  rcases h with h | ⟨xs, h, hx, _, hl⟩
  · cases h; exact ⟨[], .inl ⟨rfl, rfl⟩, by simp⟩
  · cases h
    have : ∀ xs : List (List AVal), (∀ x ∈ xs, x.length = 1 ∧ ok x) → ∃ l : List UInt8, xs.flatten = bytesV l ∧ l.length = xs.length := by
      intro xs
      induction xs with
      | nil => intro _; exact ⟨[], rfl, rfl⟩
      | cons x xs ih =>
        intro h
        obtain ⟨l, h1, h2⟩ := ih (fun y hy => h y (by simp [hy]))
        obtain ⟨n, rfl, hw⟩ := hok x (h x (by simp)).2
        obtain ⟨k, rfl, hk⟩ := wf_u8 hw
        refine ⟨UInt8.ofNat k :: l, ?_, by simp [h2]⟩
        have : (UInt8.ofNat k).toNat = k := by simp; omega
        simp [bytesV, h1, this]
    obtain ⟨l, h1, h2⟩ := this xs hx
    exact ⟨l, .inr ⟨false, by rw [h1, h2]⟩, by omega⟩
theorem list_arg {R : AVal → List UInt8 → Prop} {ok : List AVal → Prop} (hok : ∀ d, ok [d] → ∃ l, R d l) : ∀ xs : List (List AVal), (∀ x ∈ xs, x.length = 1 ∧ ok x) → ∃ (ds : List AVal) (ls : List (List UInt8)), xs.flatten = ds ∧ ds.length = xs.length ∧ All2 R ds ls
  | [], _ => ⟨[], [], rfl, rfl, trivial⟩
  | x :: xs, h => by
    obtain ⟨ds, ls, h1, h2, h3⟩ := list_arg hok xs (fun y hy => h y (by simp [hy]))
    obtain ⟨hx, hox⟩ := h x (by simp)
    obtain ⟨d, rfl⟩ := List.length_eq_one_iff.1 hx
    obtain ⟨l, hl⟩ := hok d hox
    exact ⟨d :: ds, l :: ls, by simp [h1], by simp [h2], hl, h3⟩
theorem nats_arg {ok : List AVal → Prop} (hok : ∀ x, ok x → ∃ n, x = [.int .u16 n] ∧ (Lit.int .u16 n).wf = true) : ∀ xs : List (List AVal), (∀ x ∈ xs, x.length = 1 ∧ ok x) → ∃ os : List Nat, xs.flatten = (os.map fun (o : Nat) => AVal.int .u16 (o : Int)) ∧ os.length = xs.length ∧ ∀ o ∈ os, o < 65536
  | [], _ => ⟨[], rfl, rfl, fun o ho => by simp at ho⟩
  | x :: xs, h => by
    obtain ⟨os, h1, h2, h3⟩ := nats_arg hok xs (fun y hy => h y (by simp [hy]))
    obtain ⟨n, rfl, hw⟩ := hok x (h x (by simp)).2
    obtain ⟨k, rfl, hk⟩ := wf_u16 hw
    refine ⟨k :: os, by simp [h1], by simp [h2], fun o ho => ?_⟩
    rcases List.mem_cons.1 ho with rfl | ho
    · exact hk
    · exact h3 o ho


attribute [simp] AVal.upto uptoL
/-- A pointer-free value. -/
theorem BytesOf.upto {d : AVal} {l : List UInt8} (h : BytesOf d l) (lo : Nat) : d.upto lo = true := by
  rcases h with ⟨rfl, rfl⟩ | ⟨t, rfl⟩
  · rfl
  · simp [bytesV_upto]
theorem str_eq (a b : List UInt8) : abinS .eql ⟨a.toArray⟩ ⟨b.toArray⟩ = some (.bool (decide (a = b))) := by
  have h : ((⟨a.toArray⟩ : ByteArray).toList == (⟨b.toArray⟩ : ByteArray).toList) = decide (a = b) := by
    rw [ByteArray.toList_eq, ByteArray.toList_eq]
    by_cases hab : a = b
    · subst hab; simp
    · simp [hab]
  simp only [abinS, h]
theorem str_ne (a b : List UInt8) : abinS .neq ⟨a.toArray⟩ ⟨b.toArray⟩ = some (.bool (decide (a ≠ b))) := by
  have h : ((⟨a.toArray⟩ : ByteArray).toList == (⟨b.toArray⟩ : ByteArray).toList) = decide (a = b) := by
    rw [ByteArray.toList_eq, ByteArray.toList_eq]
    by_cases hab : a = b
    · subst hab; simp
    · simp [hab]
  simp only [abinS, h]
  by_cases hab : a = b <;> simp [hab]
end Go.Proofs.Ytinfnpbglapjhaa.AM
