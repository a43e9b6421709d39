/- The abstract machine, part 3 of 3: a small machine of values, blocks and code, and the proof that the model does as it does. -/
import Derived.Test.YticefdfhcahlfaaGreatDoorAm2
import Derived.Shelf.SlSortCmp.WholeK
/- Closed runs of the abstract machine: what is computed from given values alone. -/
namespace Go.Proofs.YticefdfhcahlfaaGreatDoor.AM
set_option linter.unusedVariables false
set_option linter.unusedSimpArgs false

mutual
def AVal.same:AVal→AVal→Bool
  | .int k n,.int k' n'=>decide (k=k') && decide (n=n')
  | .bool a,.bool b=>a == b
  | .str a,.str b=>decide (a=b)
  | .ptr a o,.ptr a' o'=>decide (a=a') && decide (o=o')
  | .nilp,.nilp=>true
  | .iptr cs,.iptr cs'=>sameL cs cs'
  | .sl a o l c t,.sl a' o' l' c' t'=>decide (a=a') && decide (o=o') && decide (l=l') && decide (c=c') && t == t'
  | .nilsl,.nilsl=>true
  | .isl cs l t,.isl cs' l' t'=>sameL cs cs' && decide (l=l') && t == t'
  | .map a,.map b=>decide (a=b)
  | .nilmap,.nilmap=>true
  | .nilfn,.nilfn=>true
  | .niliface,.niliface=>true
  | .agg cs,.agg cs'=>sameL cs cs'
  | .tup cs,.tup cs'=>sameL cs cs'
  | _,_=>false
def sameL:List AVal→List AVal→Bool
  | [],[]=>true
  | x :: xs,y :: ys=>AVal.same x y && sameL xs ys
  | _,_=>false
end

mutual
theorem AVal.same_eq:∀ (x y:AVal),AVal.same x y=true→x=y
  | x,y,h=>by
    cases x <;> cases y <;> simp only [AVal.same,Bool.and_eq_true,decide_eq_true_eq,beq_iff_eq,Bool.false_eq_true] at h <;> (try exact h.elim) <;> (try rfl)
    all_goals first
      | (obtain ⟨rfl,rfl⟩ := h; rfl)
      | (subst h; rfl)
      | (rw [sameL_eq _ _ h])
      | (obtain ⟨⟨⟨⟨rfl,rfl⟩,rfl⟩,rfl⟩,rfl⟩ := h; rfl)
      | (obtain ⟨⟨h,rfl⟩,rfl⟩ := h; rw [sameL_eq _ _ h])
theorem sameL_eq:∀ (x y:List AVal),sameL x y=true→x=y
  | [],[],_=>rfl
  | x :: xs,[],h=>by simp [sameL] at h
  | [],y :: ys,h=>by simp [sameL] at h
  | x :: xs,y :: ys,h=>by
    simp only [sameL,Bool.and_eq_true] at h
    rw [AVal.same_eq x y h.1,sameL_eq xs ys h.2]
end

abbrev CallF := FuncId→List AVal→St→Option (AVal×St)

def execI (cf:CallF) (i:AIns) (r:Regs) (σ:St):Option (AVal×St) :=
  match i with
  | .op o=>(o.mapM (evalOpd r)).bind (evalV σ)
  | .pick c a b=>match evalOpd r c with
    | some (.bool t)=>(if t then evalOpd r a else evalOpd r b).map (·,σ)
    | _=>none
  | .call f args=>match evalOpd r f with
    | some (.fn f first caps)=>match listM (evalOpd r) args with
      | some vs=>cf f (first++vs++caps) σ
      | none=>none
    | _=>none
  | .next x=>match (evalOpd r x).bind (nextC σ) with
    | some [p]=>some p
    | _=>none
  | .panic _=>none

def execR (cf:CallF):List AOper→Regs→St→Option (Regs×St)
  | [],r,σ=>some (r,σ)
  | o :: rest,r,σ=>match o.guard with
    | none=>match execI cf o.ins r σ with
      | some (v,σ')=>execR cf rest (setR r o.dst v) σ'
      | none=>none
    | some (t,want)=>match r.lookup t with
      | some (.bool b)=>if b=want then match execI cf o.ins r σ with
          | some (v,σ')=>execR cf rest (setR r o.dst v) σ'
          | none=>none
        else execR cf rest (delU r o.dst) σ
      | some (.tup [])=>execR cf rest (delU r o.dst) σ
      | _=>none

def histB (i:AIns) (r:Regs) (σ:St) (σ':St):Bool :=
  match i with
  | .op o=>match o.mapM (evalOpd r) with
    | some av=>match evalV σ' av,evalV σ av with
      | some (x,_),some (y,_)=>AVal.same x y
      | _,_=>false
    | none=>true
  | _=>true

def againB (h:List (St→Bool)) (σ:St):List Nat→Bool
  | []=>true
  | i :: is=>(match h[i]? with
    | some p=>p σ
    | none=>false) && againB h σ is

def execD (cf:CallF):List (AOper×List Nat)→Regs→St→List (St→Bool)→Option (Regs×St)
  | [],r,σ,_=>some (r,σ)
  | p :: rest,r,σ,h=>match p.1.guard with
    | none=>match execI cf p.1.ins r σ with
      | some (v,σ')=>if againB h σ' p.2 then execD cf rest (setR r p.1.dst v) σ' (h++[histB p.1.ins r σ]) else none
      | none=>none
    | some (t,want)=>match r.lookup t with
      | some (.bool b)=>if b=want then match execI cf p.1.ins r σ with
          | some (v,σ')=>if againB h σ' p.2 then execD cf rest (setR r p.1.dst v) σ' (h++[histB p.1.ins r σ]) else none
          | none=>none
        else execD cf rest (delU r p.1.dst) σ (h++[fun _:St=>true])
      | _=>none

def loopF (body:Regs→St→Option (AExit×Regs×St)) (keep:List Nat):Nat→Regs→St→Option (AExit×Regs×St)
  | 0,_,_=>none
  | n+1,r,σ=>match body (norm keep r) σ with
    | some (.normal,r',σ')=>loopF body keep n r' σ'
    | x=>x

def execC (cf:CallF) (F:Nat):ACode→Regs→St→Option (AExit×Regs×St)
  | .skip,r,σ=>some (.normal,r,σ)
  | .reg keep ops,r,σ=>(execR cf ops r σ).map fun x=>(.normal,norm keep x.1,x.2)
  | .dreg keep ops,r,σ=>(execD cf ops r σ []).map fun x=>(.normal,norm keep x.1,x.2)
  | .seq a b,r,σ=>match execC cf F a r σ with
    | some (.normal,r',σ')=>execC cf F b r' σ'
    | x=>x
  | .cond c a b,r,σ=>match evalOpd r c with
    | some (.bool true)=>execC cf F a r σ
    | some (.bool false)=>execC cf F b r σ
    | _=>none
  | .block id a,r,σ=>match execC cf F a r σ with
    | some (.exit j,r',σ')=>if j=id then some (.normal,r',σ') else some (.exit j,r',σ')
    | x=>x
  | .loop keep a,r,σ=>loopF (execC cf F a) keep F r σ
  | .exit id,r,σ=>some (.exit id,r,σ)
  | .ret,r,σ=>some (.ret,r,σ)
  | .rangef ..,_,_=>none

abbrev Tab := FuncId→Option (ACode×List ARes×Nat)

def callT (T:Tab) (F:Nat):Nat→CallF
  | 0=>fun _ _ _=>none
  | d+1=>fun f args σ=>match T f with
    | some (ac,rs,n)=>if args.length=n then match execC (callT T F d) F ac (argR 0 args) σ with
        | some (.exit _,_,_)=>none
        | some (_,r,σ')=>(resA r σ' rs).map (·,σ')
        | none=>none
      else none
    | none=>none

def TabOk (P:Program) (T:Tab):Prop := P.follows .mixedOrders=true∧∀ f x,T f=some x→∃ fn h,Enterable P f∧P.funcs[f]?=some fn∧compF P fn h=some (x.1,x.2.1)∧x.2.2≤fn.ntmps

def CfOk (P:Program) (cf:CallF):Prop := ∀ f args σ v σ',cf f args σ=some (v,σ')→∀ Q:AVal→St→Prop,Q v σ'→ACall P f args σ Q

variable {P:Program} {cf:CallF}

theorem execI_wp (hcf:CfOk P cf) {i:AIns} {r:Regs} {σ σ':St} {v:AVal} (h:execI cf i r σ=some (v,σ')) {Q:AVal→St→Prop} (hq:Q v σ'):i.wp P r σ Q := by
  cases i with
  | op o =>
    simp only [execI] at h
    simp only [AIns.wp,h]; exact hq
  | pick c a b =>
    simp only [execI] at h
    simp only [AIns.wp]
    split at h
    · rename_i t ht
      try simp only [ht]
      cases hx:(if t then evalOpd r a else evalOpd r b) with
      | none=>rw [hx] at h; cases h
      | some x =>
        rw [hx] at h
        simp only [Option.map_some,Option.some.injEq,Prod.mk.injEq] at h
        obtain ⟨rfl,rfl⟩ := h
        exact hq
    · cases h
  | call f args =>
    simp only [execI] at h
    simp only [AIns.wp]
    split at h
    · rename_i g xs ys hf
      try simp only [hf]
      split at h
      · rename_i vs hvs
        try simp only [hvs]
        exact hcf _ _ _ _ _ h _ hq
      · cases h
    · cases h
  | next x =>
    simp only [execI] at h
    simp only [AIns.wp]
    split at h
    · rename_i p hp
      cases h
      rw [hp]
      intro q hq2
      simp only [List.mem_singleton] at hq2
      subst hq2
      exact hq
    · cases h
  | panic x=>simp only [execI] at h; cases h

theorem execR_wp (hcf:CfOk P cf):∀ {ops:List AOper} {r r':Regs} {σ σ':St},execR cf ops r σ=some (r',σ')→∀ {Q:Regs→St→Prop},Q r' σ'→rwp P ops r σ Q
  | [],r,r',σ,σ',h,Q,hq=>by
    simp only [execR,Option.some.injEq,Prod.mk.injEq] at h
    obtain ⟨rfl,rfl⟩ := h
    exact hq
  | o :: rest,r,r',σ,σ',h,Q,hq=>by
    simp only [execR] at h
    simp only [rwp]
    split at h
    · rename_i hg
      try simp only [hg]
      split at h
      · rename_i v σ1 h1
        exact execI_wp hcf h1 (execR_wp hcf h hq)
      · cases h
    · rename_i t want hg
      try simp only [hg]
      split at h
      · rename_i b hb
        try simp only [hb]
        split at h
        · rename_i hbw
          rw [if_pos hbw]
          split at h
          · rename_i v σ1 h1
            exact execI_wp hcf h1 (execR_wp hcf h hq)
          · cases h
        · rename_i hbw
          rw [if_neg hbw]
          exact execR_wp hcf h hq
      · rename_i hb
        try simp only [hb]
        exact execR_wp hcf h hq
      · cases h

theorem histB_of {i:AIns} {r:Regs} {σ σ':St} (h:histB i r σ σ'=true):histOf i r σ σ' := by
  cases i with
  | op o =>
    simp only [histB] at h
    try simp only [histOf]
    split at h
    · rename_i av hav
      try simp only [hav]
      split at h
      · rename_i x s y s' hx hy
        rw [hx,hy,AVal.same_eq _ _ h]; rfl
      · cases h
    · rename_i hn
      try simp only [hn]
  | pick c a b=>trivial
  | panic x=>trivial
  | call f args=>trivial
  | next x=>trivial

theorem againB_of {hb:List (St→Bool)} {h:Hist} (hl:h.length=hb.length) (hh:∀ (i:Nat) (p:St→Bool) (q:St→Prop),hb[i]?=some p→h[i]?=some q→∀ σ,p σ=true→q σ) {σ:St}:∀ {is:List Nat},againB hb σ is=true→again h σ is
  | [],_=>trivial
  | i :: is,hx=>by
    simp only [againB,Bool.and_eq_true] at hx
    refine ⟨?_,againB_of hl hh hx.2⟩
    have h1 := hx.1
    split at h1
    · rename_i p hp
      have hlt := (List.getElem?_eq_some_iff.1 hp).1
      rw [← hl] at hlt
      rw [List.getElem?_eq_getElem hlt]
      exact hh i p _ hp (List.getElem?_eq_getElem hlt) σ h1
    · cases h1

theorem snoc_ok {hb:List (St→Bool)} {h:Hist} {p:St→Bool} {q:St→Prop} (hl:h.length=hb.length) (hh:∀ (i:Nat) (p:St→Bool) (q:St→Prop),hb[i]?=some p→h[i]?=some q→∀ σ,p σ=true→q σ) (hpq:∀ σ,p σ=true→q σ) :
    (h++[q]).length=(hb++[p]).length∧∀ (i:Nat) (p':St→Bool) (q':St→Prop),(hb++[p])[i]?=some p'→(h++[q])[i]?=some q'→∀ σ,p' σ=true→q' σ := by
  refine ⟨by simp [hl],fun i p' q' h1 h2=>?_⟩
  by_cases hi:i<hb.length
  · rw [List.getElem?_append_left hi] at h1
    rw [List.getElem?_append_left (by omega)] at h2
    exact hh i p' q' h1 h2
  · rw [List.getElem?_append_right (by omega)] at h1 h2
    rw [hl] at h2
    cases hk:i - hb.length with
    | zero =>
      rw [hk] at h1 h2
      simp only [List.getElem?_cons_zero,Option.some.injEq] at h1 h2
      subst h1; subst h2; exact hpq
    | succ k=>rw [hk] at h1; simp at h1

theorem execD_wp (hcf:CfOk P cf):∀ {ops:List (AOper×List Nat)} {r r':Regs} {σ σ':St} {hb:List (St→Bool)} {hs:Hist},execD cf ops r σ hb=some (r',σ')→hs.length=hb.length→(∀ (i:Nat) (p:St→Bool) (q:St→Prop),hb[i]?=some p→hs[i]?=some q→∀ σ,p σ=true→q σ)→∀ {Q:Regs→St→Prop},Q r' σ'→dwp P ops r σ hs Q
  | [],r,r',σ,σ',hb,hs,h,hl,hh,Q,hq=>by
    simp only [execD,Option.some.injEq,Prod.mk.injEq] at h
    obtain ⟨rfl,rfl⟩ := h
    exact hq
  | o :: rest,r,r',σ,σ',hb,hs,h,hl,hh,Q,hq=>by
    simp only [execD] at h
    simp only [dwp]
    split at h
    · rename_i hg
      try simp only [hg]
      split at h
      · rename_i v σ1 h1
        split at h
        · rename_i hag
          have k := snoc_ok hl hh (p := histB o.1.ins r σ) (q := histOf o.1.ins r σ) fun _=>histB_of
          exact execI_wp hcf h1 ⟨againB_of hl hh hag,execD_wp hcf h k.1 k.2 hq⟩
        · cases h
      · cases h
    · rename_i t want hg
      try simp only [hg]
      split at h
      · rename_i b hb'
        try simp only [hb']
        split at h
        · rename_i hbw
          rw [if_pos hbw]
          split at h
          · rename_i v σ1 h1
            split at h
            · rename_i hag
              have k := snoc_ok hl hh (p := histB o.1.ins r σ) (q := histOf o.1.ins r σ) fun _=>histB_of
              exact execI_wp hcf h1 ⟨againB_of hl hh hag,execD_wp hcf h k.1 k.2 hq⟩
            · cases h
          · cases h
        · rename_i hbw
          rw [if_neg hbw]
          have k := snoc_ok hl hh (p := fun _:St=>true) (q := fun _:St=>True) fun _ _=>trivial
          exact execD_wp hcf h k.1 k.2 hq
      · cases h

theorem wp_mono' {P:Env}:∀ {ac:ACode} {Q Q':Post} {r:Regs} {σ:St},ac.wp P Q r σ→(∀ e r σ,Q e r σ→Q' e r σ)→ac.wp P Q' r σ := by
  have hi:∀ {P:Env} (i:AIns) (r:Regs) (σ:St) (Q Q':AVal→St→Prop),i.wp P r σ Q→(∀ v σ,Q v σ→Q' v σ)→i.wp P r σ Q' := by
    intro P i r σ Q Q' h hq
    cases i with
    | op o=>simp only [AIns.wp] at h ⊢; split at h <;> simp_all
    | pick c a b =>
      simp only [AIns.wp] at h ⊢
      split at h
      · split at h
        · simp_all
        · exact h.elim
      · exact h.elim
    | call f args =>
      simp only [AIns.wp] at h ⊢
      split at h
      · rename_i g xs ys hf
        split at h
        · rename_i vs hvs; exact h.mono hq
        · exact h.elim
      · split at h
        · obtain ⟨K,h1,h2⟩ := h; exact ⟨K,h1,fun v σ hk=>hq _ _ (h2 v σ hk)⟩
        · exact h.elim
      · exact h.elim
    | next x =>
      simp only [AIns.wp] at h ⊢
      split at h
      · exact fun p hp=>hq _ _ (h p hp)
      · exact h.elim
    | panic x=>simp only [AIns.wp] at h ⊢; exact h
  have hr:∀ (ops:List AOper) (r:Regs) (σ:St) (Q Q':Regs→St→Prop),rwp P ops r σ Q→(∀ v σ,Q v σ→Q' v σ)→rwp P ops r σ Q' := by
    intro ops
    induction ops with
    | nil=>intro r σ Q Q' h hq; exact hq _ _ h
    | cons o rest ih =>
      intro r σ Q Q' h hq
      simp only [rwp] at h ⊢
      split at h
      · rename_i hg; exact hi _ _ _ _ _ h fun v σ h=>ih _ _ _ _ h hq
      · split at h
        · rename_i hb
          split at h
          · rename_i hbw; simp only [if_pos hbw]; exact hi _ _ _ _ _ h fun v σ h=>ih _ _ _ _ h hq
          · rename_i hbw; simp only [if_neg hbw]; exact ih _ _ _ _ h hq
        · exact ih _ _ _ _ h hq
        · exact h.elim
  have hd:∀ {P:Env} (ops:List (AOper×List Nat)) (r:Regs) (σ:St) (hs:Hist) (Q Q':Regs→St→Prop),dwp P ops r σ hs Q→(∀ v σ,Q v σ→Q' v σ)→dwp P ops r σ hs Q' := by
    intro P ops
    induction ops with
    | nil=>intro r σ hs Q Q' h hq; exact hq _ _ h
    | cons o rest ih =>
      intro r σ hs Q Q' h hq
      simp only [dwp] at h ⊢
      split at h
      · rename_i hg; exact hi _ _ _ _ _ h fun v σ h=>⟨h.1,ih _ _ _ _ _ h.2 hq⟩
      · split at h
        · rename_i hb
          split at h
          · rename_i hbw; simp only [if_pos hbw]; exact hi _ _ _ _ _ h fun v σ h=>⟨h.1,ih _ _ _ _ _ h.2 hq⟩
          · rename_i hbw; simp only [if_neg hbw]; exact ih _ _ _ _ _ h hq
        · exact ih _ _ _ _ _ h hq
        · exact h.elim
  intro ac
  induction ac with
  | skip=>intro Q Q' r σ h hq; exact hq _ _ _ h
  | reg keep ops=>intro Q Q' r σ h hq; exact hr _ _ _ _ _ h fun r σ h=>hq _ _ _ h
  | dreg keep ops=>intro Q Q' r σ h hq; exact hd _ _ _ _ _ _ h fun r σ h=>hq _ _ _ h
  | seq a b iha ihb =>
    intro Q Q' r σ h hq
    refine iha h fun e r σ h=>?_
    cases e with
    | normal=>exact ihb h hq
    | exit _=>exact hq _ _ _ h
    | ret=>exact hq _ _ _ h
  | cond c a b iha ihb =>
    intro Q Q' r σ h hq
    simp only [ACode.wp] at h ⊢
    split at h
    · rename_i t ht
      cases t
      · exact ihb h hq
      · exact iha h hq
    · exact h.elim
  | block id a iha =>
    intro Q Q' r σ h hq
    refine iha h fun e r σ h=>?_
    cases e with
    | normal=>exact hq _ _ _ h
    | exit j =>
      simp only at h ⊢
      split at h
      · rename_i hj; rw [if_pos hj]; exact hq _ _ _ h
      · rename_i hj; rw [if_neg hj]; exact hq _ _ _ h
    | ret=>exact hq _ _ _ h
  | loop keep a iha =>
    intro Q Q' r σ h hq
    obtain ⟨J,n,h1,h2⟩ := h
    refine ⟨J,n,h1,fun m r σ hj=>iha (h2 m r σ hj) fun e r σ h=>?_⟩
    cases e with
    | normal=>exact h
    | exit _=>exact hq _ _ _ h
    | ret=>exact hq _ _ _ h
  | exit id=>intro Q Q' r σ h hq; exact hq _ _ _ h
  | ret=>intro Q Q' r σ h hq; exact hq _ _ _ h
  | rangef f ps a b _ _ =>
    intro Q Q' r σ h hq
    simp only [ACode.wp] at h ⊢
    split at h
    · intro lp h1 h2
      refine (h lp h1 h2).mono fun v σ' ⟨lq,k1,k2,k3⟩=>⟨lq,k1,k2,?_⟩
      revert k3
      cases lq.pending with
      | none=>exact fun k3=>hq _ _ _ k3
      | some c=>cases c <;> first | exact fun k3=>hq _ _ _ k3 | exact fun k3=>k3
    · exact h.elim

theorem execC_wp (hcf:CfOk P cf) {F:Nat}:∀ {ac:ACode} {r r':Regs} {σ σ':St} {e:AExit},execC cf F ac r σ=some (e,r',σ')→∀ {Q:Post},Q e r' σ'→ac.wp P Q r σ := by
  intro ac
  induction ac with
  | skip =>
    intro r r' σ σ' e h Q hq
    simp only [execC,Option.some.injEq,Prod.mk.injEq] at h
    obtain ⟨rfl,rfl,rfl⟩ := h
    exact hq
  | reg keep ops =>
    intro r r' σ σ' e h Q hq
    simp only [execC,Option.map_eq_some_iff,Prod.mk.injEq] at h
    obtain ⟨x,hx,rfl,rfl,rfl⟩ := h
    exact execR_wp hcf hx hq
  | dreg keep ops =>
    intro r r' σ σ' e h Q hq
    simp only [execC,Option.map_eq_some_iff,Prod.mk.injEq] at h
    obtain ⟨x,hx,rfl,rfl,rfl⟩ := h
    exact execD_wp hcf hx rfl (fun i p q hp=>by simp at hp) hq
  | seq a b iha ihb =>
    intro r r' σ σ' e h Q hq
    simp only [execC] at h
    simp only [ACode.wp]
    split at h
    · rename_i r1 σ1 h1
      exact iha h1 (ihb h hq)
    · rename_i hne
      refine iha h ?_
      cases e with
      | normal=>exact absurd h (by intro h; exact hne _ _ h)
      | exit _=>exact hq
      | ret=>exact hq
  | cond c a b iha ihb =>
    intro r r' σ σ' e h Q hq
    simp only [execC] at h
    simp only [ACode.wp]
    split at h
    · rename_i hc; simp only [hc,if_true]; exact iha h hq
    · rename_i hc; simp only [hc,Bool.false_eq_true,if_false]; exact ihb h hq
    · cases h
  | block id a iha =>
    intro r r' σ σ' e h Q hq
    simp only [execC] at h
    simp only [ACode.wp]
    split at h
    · rename_i j r1 σ1 h1
      refine iha h1 ?_
      simp only
      split at h
      · rename_i hj
        simp only [Option.some.injEq,Prod.mk.injEq] at h
        obtain ⟨rfl,rfl,rfl⟩ := h
        rw [if_pos hj]; exact hq
      · rename_i hj
        simp only [Option.some.injEq,Prod.mk.injEq] at h
        obtain ⟨rfl,rfl,rfl⟩ := h
        rw [if_neg hj]; exact hq
    · rename_i hne
      refine iha h ?_
      cases e with
      | normal=>exact hq
      | exit j=>exact absurd h (by intro h; exact hne _ _ _ h)
      | ret=>exact hq
  | loop keep a iha =>
    intro r r' σ σ' e h Q hq
    simp only [execC] at h
    simp only [ACode.wp]
    have key:∀ n r,loopF (execC cf F a) keep n r σ=some (e,r',σ')→True := fun _ _ _=>trivial
    refine ⟨fun n r1 σ1=>∃ r0,r1=norm keep r0∧loopF (execC cf F a) keep n r0 σ1=some (e,r',σ'),F,⟨r,rfl,h⟩,?_⟩
    rintro m r1 σ1 ⟨r0,rfl,hm⟩
    cases m with
    | zero=>simp [loopF] at hm
    | succ m =>
      simp only [loopF] at hm
      split at hm
      · rename_i r2 σ2 h2
        exact iha h2 ⟨m,Nat.lt_succ_self m,r2,rfl,hm⟩
      · rename_i hne
        refine iha hm ?_
        cases e with
        | normal=>exact absurd hm (by intro hm; exact hne _ _ hm)
        | exit _=>exact hq
        | ret=>exact hq
  | rangef f ps a b _ _=>intro r r' σ σ' e h; simp [execC] at h
  | exit id =>
    intro r r' σ σ' e h Q hq
    simp only [execC,Option.some.injEq,Prod.mk.injEq] at h
    obtain ⟨rfl,rfl,rfl⟩ := h
    exact hq
  | ret =>
    intro r r' σ σ' e h Q hq
    simp only [execC,Option.some.injEq,Prod.mk.injEq] at h
    obtain ⟨rfl,rfl,rfl⟩ := h
    exact hq

theorem callT_ok {T:Tab} (hT:TabOk P T) {F:Nat}:∀ d,CfOk P (callT T F d)
  | 0=>fun f args σ v σ' h=>by simp [callT] at h
  | d+1=>fun f args σ v σ' h Q hq=>by
    simp only [callT] at h
    split at h
    · rename_i ac rs n hf
      split at h
      · rename_i hn
        obtain ⟨fn,hh,h1,h2,h3,h4⟩ := hT.2 f _ hf
        refine ACall.of_compF hT.1 h1 h2 h3 h4 hn ?_
        split at h
        · cases h
        · rename_i e r σ1 hx he
          refine execC_wp (callT_ok hT d) he ?_
          simp only [Option.map_eq_some_iff,Prod.mk.injEq] at h
          obtain ⟨u,hu,rfl,rfl⟩ := h
          cases e with
          | normal=>simp only [retPost,hu]; exact hq
          | exit j=>exact (hx _ rfl).elim
          | ret=>simp only [retPost,hu]; exact hq
        · cases h
      · cases h
    · cases h

abbrev TabL := List (FuncId×ACode×List ARes×Nat)

def look:TabL→Tab
  | [],_=>none
  | (g,x) :: l,f=>if f=g then some x else look l f

theorem tab_nil (h:P.follows .mixedOrders=true):TabOk P (look []) := ⟨h,fun f x hx=>by cases hx⟩

theorem tab_cons {l:TabL} (hl:TabOk P (look l)) {f:FuncId} {fn:Func} {ac:ACode} {rs:List ARes} {h:Hints} {n:Nat} (hent:Enterable P f) (hf:P.funcs[f]?=some fn) (hc:compF P fn h=some (ac,rs)) (hn:n≤fn.ntmps):TabOk P (look ((f,ac,rs,n) :: l)) := by
  refine ⟨hl.1,fun g x hx=>?_⟩
  simp only [look] at hx
  split at hx
  · rename_i hg; subst hg
    injection hx with hx; subst hx
    exact ⟨fn,h,hent,hf,hc,hn⟩
  · exact hl.2 g x hx

theorem ACall.of_run {T:Tab} (hT:TabOk P T) (F d:Nat) {f:FuncId} {args:List AVal} {σ:St} {v:AVal} {σ':St} (h:callT T F d f args σ=some (v,σ')) {Q:AVal→St→Prop} (hq:Q v σ'):ACall P f args σ Q :=
  callT_ok hT d f args σ v σ' h Q hq

end Go.Proofs.YticefdfhcahlfaaGreatDoor.AM

/- What a call may leave out: a call that neither is given memory nor gives any leaves the abstract memory as it was. -/
namespace Go.Proofs.YticefdfhcahlfaaGreatDoor.AM
open Go.RowKit
set_option linter.unusedVariables false
set_option linter.unusedSimpArgs false

mutual
/-- All blocks that it names are below n. -/
def AVal.upto (n:Nat):AVal→Bool
  | .ptr a _=>decide (a<n)
  | .iptr cs=>uptoL n cs
  | .sl a _ _ _ _=>decide (a<n)
  | .isl cs _ _=>uptoL n cs
  | .map a=>decide (a<n)
  | .yld a=>decide (a<n)
  | .fn _ xs ys=>uptoL n xs && uptoL n ys
  | .iface _ v=>AVal.upto n v
  | .agg cs=>uptoL n cs
  | .tup vs=>uptoL n vs
  | _=>true
def uptoL (n:Nat):List AVal→Bool
  | []=>true
  | v :: vs=>AVal.upto n v && uptoL n vs
end

mutual
/-- It holds no memory at all. -/
def AVal.flat:AVal→Bool
  | .ptr ..=>false
  | .iptr _=>false
  | .sl ..=>false
  | .isl ..=>false
  | .map _=>false
  | .yld _=>false
  | .fn _ xs ys=>flatL xs && flatL ys
  | .iface _ v=>AVal.flat v
  | .agg cs=>flatL cs
  | .tup vs=>flatL vs
  | _=>true
def flatL:List AVal→Bool
  | []=>true
  | v :: vs=>AVal.flat v && flatL vs
end

section
variable {ρ ρ':Rho} {I I':Imm} {n:Nat}

mutual
theorem VRel.agree (h:∀ a,a<n→ρ' a=ρ a):(v:AVal)→(cv:Value)→v.upto n=true→VRel ρ I v cv→VRel ρ' I v cv
  | .ptr a o,cv,hu,hv=>by
    simp only [AVal.upto,decide_eq_true_eq] at hu
    simp only [VRel] at hv ⊢; rw [h a hu]; exact hv
  | .iptr cs,cv,hu,hv=>by
    simp only [AVal.upto] at hu
    simp only [VRel] at hv ⊢
    obtain ⟨ad,h1,h2,h3⟩ := hv
    exact ⟨ad,h1,h2,CRel.agree h cs _ hu h3⟩
  | .sl a o len cap t,cv,hu,hv=>by
    simp only [AVal.upto,decide_eq_true_eq] at hu
    simp only [VRel] at hv ⊢; rw [h a hu]; exact hv
  | .isl cs len t,cv,hu,hv=>by
    simp only [AVal.upto] at hu
    simp only [VRel] at hv ⊢
    obtain ⟨ad,c,h1,h2,h3,h4,h5,h6⟩ := hv
    exact ⟨ad,c,h1,h2,h3,h4,h5,CRel.agree h cs _ hu h6⟩
  | .map a,cv,hu,hv=>by
    simp only [AVal.upto,decide_eq_true_eq] at hu
    simp only [VRel] at hv ⊢; rw [h a hu]; exact hv
  | .yld a,cv,hu,hv=>by
    simp only [AVal.upto,decide_eq_true_eq] at hu
    simp only [VRel] at hv ⊢; rw [h a hu]; exact hv
  | .fn f xs ys,cv,hu,hv=>by
    simp only [AVal.upto,Bool.and_eq_true] at hu
    simp only [VRel] at hv ⊢
    obtain ⟨x,y,h1,h2,h3,h4,h5⟩ := hv
    exact ⟨x,y,h1,h2,h3,CRel.agree h xs _ hu.1 h4,CRel.agree h ys _ hu.2 h5⟩
  | .iface t x,cv,hu,hv=>by
    simp only [AVal.upto] at hu
    simp only [VRel] at hv ⊢
    obtain ⟨x',h1,h2⟩ := hv
    exact ⟨x',h1,VRel.agree h x x' hu h2⟩
  | .agg cs,cv,hu,hv=>by
    simp only [AVal.upto] at hu
    simp only [VRel] at hv ⊢
    obtain ⟨x',h1,h2,h3,h4⟩ := hv
    exact ⟨x',h1,h2,h3,CRel.agree h cs _ hu h4⟩
  | .tup cs,cv,hu,hv=>by
    simp only [AVal.upto] at hu
    simp only [VRel] at hv ⊢
    obtain ⟨x',h1,h2,h3⟩ := hv
    exact ⟨x',h1,h2,CRel.agree h cs _ hu h3⟩
  | .int k m,cv,_,hv=>by simp only [VRel] at hv ⊢; exact hv
  | .bool b,cv,_,hv=>by simp only [VRel] at hv ⊢; exact hv
  | .str s,cv,_,hv=>by simp only [VRel] at hv ⊢; exact hv
  | .nilp,cv,_,hv=>by simp only [VRel] at hv ⊢; exact hv
  | .nilsl,cv,_,hv=>by simp only [VRel] at hv ⊢; exact hv
  | .nilmap,cv,_,hv=>by simp only [VRel] at hv ⊢; exact hv
  | .nilfn,cv,_,hv=>by simp only [VRel] at hv ⊢; exact hv
  | .niliface,cv,_,hv=>by simp only [VRel] at hv ⊢; exact hv
theorem CRel.agree (h:∀ a,a<n→ρ' a=ρ a):(cs:List AVal)→(f:Nat→Option Value)→uptoL n cs=true→CRel ρ I cs f→CRel ρ' I cs f
  | [],f,_,_=>trivial
  | c :: cs,f,hu,hv=>by
    simp only [uptoL,Bool.and_eq_true] at hu
    simp only [CRel] at hv ⊢
    obtain ⟨⟨u,h1,h2⟩,h3⟩ := hv
    exact ⟨⟨u,h1,VRel.agree h c u hu.1 h2⟩,CRel.agree h cs _ hu.2 h3⟩
end

mutual
theorem VRel.upto (h:∀ a,n≤a→ρ a=none):(v:AVal)→(cv:Value)→VRel ρ I v cv→v.upto n=true
  | .ptr a o,cv,hv=>by
    simp only [VRel] at hv
    obtain ⟨p,h1,_⟩ := hv
    simp only [AVal.upto,decide_eq_true_eq]
    exact Nat.lt_of_not_le fun hle=>by rw [h a hle] at h1; cases h1
  | .iptr cs,cv,hv=>by
    simp only [VRel] at hv
    obtain ⟨ad,h1,h2,h3⟩ := hv
    simp only [AVal.upto]; exact CRel.uptoL h cs _ h3
  | .sl a o len cap t,cv,hv=>by
    simp only [VRel] at hv
    obtain ⟨p,_,_,h1,_⟩ := hv
    simp only [AVal.upto,decide_eq_true_eq]
    exact Nat.lt_of_not_le fun hle=>by rw [h a hle] at h1; cases h1
  | .isl cs len t,cv,hv=>by
    simp only [VRel] at hv
    obtain ⟨ad,c,h1,h2,h3,h4,h5,h6⟩ := hv
    simp only [AVal.upto]; exact CRel.uptoL h cs _ h6
  | .map a,cv,hv=>by
    simp only [VRel] at hv
    obtain ⟨p,h1,_⟩ := hv
    simp only [AVal.upto,decide_eq_true_eq]
    exact Nat.lt_of_not_le fun hle=>by rw [h a hle] at h1; cases h1
  | .yld a,cv,hv=>by
    simp only [VRel] at hv
    obtain ⟨p,h1,_⟩ := hv
    simp only [AVal.upto,decide_eq_true_eq]
    exact Nat.lt_of_not_le fun hle=>by rw [h a hle] at h1; cases h1
  | .fn f xs ys,cv,hv=>by
    simp only [VRel] at hv
    obtain ⟨x,y,h1,h2,h3,h4,h5⟩ := hv
    simp only [AVal.upto,Bool.and_eq_true]
    exact ⟨CRel.uptoL h xs _ h4,CRel.uptoL h ys _ h5⟩
  | .iface t x,cv,hv=>by
    simp only [VRel] at hv
    obtain ⟨x',h1,h2⟩ := hv
    simp only [AVal.upto]; exact VRel.upto h x x' h2
  | .agg cs,cv,hv=>by
    simp only [VRel] at hv
    obtain ⟨x',h1,h2,h3,h4⟩ := hv
    simp only [AVal.upto]; exact CRel.uptoL h cs _ h4
  | .tup cs,cv,hv=>by
    simp only [VRel] at hv
    obtain ⟨x',h1,h2,h3⟩ := hv
    simp only [AVal.upto]; exact CRel.uptoL h cs _ h3
  | .int k m,cv,_=>rfl
  | .bool b,cv,_=>rfl
  | .str s,cv,_=>rfl
  | .nilp,cv,_=>rfl
  | .nilsl,cv,_=>rfl
  | .nilmap,cv,_=>rfl
  | .nilfn,cv,_=>rfl
  | .niliface,cv,_=>rfl
theorem CRel.uptoL (h:∀ a,n≤a→ρ a=none):(cs:List AVal)→(f:Nat→Option Value)→CRel ρ I cs f→uptoL n cs=true
  | [],f,_=>rfl
  | c :: cs,f,hv=>by
    simp only [CRel] at hv
    obtain ⟨⟨u,h1,h2⟩,h3⟩ := hv
    simp only [uptoL,Bool.and_eq_true]
    exact ⟨VRel.upto h c u h2,CRel.uptoL h cs _ h3⟩
end

mutual
theorem VRel.flat:(v:AVal)→(cv:Value)→v.flat=true→VRel ρ I v cv→VRel ρ' I' v cv
  | .ptr a o,cv,hu,hv=>by simp [AVal.flat] at hu
  | .iptr cs,cv,hu,hv=>by simp [AVal.flat] at hu
  | .sl a o len cap t,cv,hu,hv=>by simp [AVal.flat] at hu
  | .isl cs len t,cv,hu,hv=>by simp [AVal.flat] at hu
  | .map a,cv,hu,hv=>by simp [AVal.flat] at hu
  | .yld a,cv,hu,hv=>by simp [AVal.flat] at hu
  | .fn f xs ys,cv,hu,hv=>by
    simp only [AVal.flat,Bool.and_eq_true] at hu
    simp only [VRel] at hv ⊢
    obtain ⟨x,y,h1,h2,h3,h4,h5⟩ := hv
    exact ⟨x,y,h1,h2,h3,CRel.flat xs _ hu.1 h4,CRel.flat ys _ hu.2 h5⟩
  | .iface t x,cv,hu,hv=>by
    simp only [AVal.flat] at hu
    simp only [VRel] at hv ⊢
    obtain ⟨x',h1,h2⟩ := hv
    exact ⟨x',h1,VRel.flat x x' hu h2⟩
  | .agg cs,cv,hu,hv=>by
    simp only [AVal.flat] at hu
    simp only [VRel] at hv ⊢
    obtain ⟨x',h1,h2,h3,h4⟩ := hv
    exact ⟨x',h1,h2,h3,CRel.flat cs _ hu h4⟩
  | .tup cs,cv,hu,hv=>by
    simp only [AVal.flat] at hu
    simp only [VRel] at hv ⊢
    obtain ⟨x',h1,h2,h3⟩ := hv
    exact ⟨x',h1,h2,CRel.flat cs _ hu h3⟩
  | .int k m,cv,_,hv=>by simp only [VRel] at hv ⊢; exact hv
  | .bool b,cv,_,hv=>by simp only [VRel] at hv ⊢; exact hv
  | .str s,cv,_,hv=>by simp only [VRel] at hv ⊢; exact hv
  | .nilp,cv,_,hv=>by simp only [VRel] at hv ⊢; exact hv
  | .nilsl,cv,_,hv=>by simp only [VRel] at hv ⊢; exact hv
  | .nilmap,cv,_,hv=>by simp only [VRel] at hv ⊢; exact hv
  | .nilfn,cv,_,hv=>by simp only [VRel] at hv ⊢; exact hv
  | .niliface,cv,_,hv=>by simp only [VRel] at hv ⊢; exact hv
theorem CRel.flat:(cs:List AVal)→(f:Nat→Option Value)→flatL cs=true→CRel ρ I cs f→CRel ρ' I' cs f
  | [],f,_,_=>trivial
  | c :: cs,f,hu,hv=>by
    simp only [flatL,Bool.and_eq_true] at hu
    simp only [CRel] at hv ⊢
    obtain ⟨⟨u,h1,h2⟩,h3⟩ := hv
    exact ⟨⟨u,h1,VRel.flat c u hu.1 h2⟩,CRel.flat cs _ hu.2 h3⟩
end

theorem BRel.agree {N:Nat} (h:∀ a,a<N→ρ' a=ρ a) {ρ0:Rho} {I0:Imm} {w0 w:World} {p0 p:Place} {b:Blk} (h0:∀ a,N≤a→ρ0 a=none) (hb0:BRel ρ0 I0 w0 p0 b) (hb:BRel ρ I w p b):BRel ρ' I w p b := by
  cases b with
  | cells es vals =>
    obtain ⟨_,_,_,c0,_,_,_,_,_,g⟩ := hb0
    obtain ⟨k1,k2,k3,c,e,fr,k4,k5,k6,k7⟩ := hb
    exact ⟨k1,k2,k3,c,e,fr,k4,k5,k6,CRel.agree h _ _ (CRel.uptoL h0 _ _ g) k7⟩
  | ro es vals =>
    obtain ⟨_,_,c0,_,g⟩ := hb0
    obtain ⟨k1,k2,c,k3,k4⟩ := hb
    exact ⟨k1,k2,c,k3,CRel.agree h _ _ (CRel.uptoL h0 _ _ g) k4⟩
  | map clock ents =>
    obtain ⟨a0,_,_,g⟩ := hb0
    obtain ⟨a,k1,k2,k3⟩ := hb
    refine ⟨a,k1,k2,fun j x hx=>?_⟩
    obtain ⟨m,m1,m2,m3,m4⟩ := k3 j x hx
    obtain ⟨_,_,_,g2,g3⟩ := g j x hx
    exact ⟨m,m1,m2,VRel.agree h _ _ (VRel.upto h0 _ _ g2) m3,VRel.agree h _ _ (VRel.upto h0 _ _ g3) m4⟩
  | loop l=>exact hb
  | iter m since seen last =>
    obtain ⟨_,_,_,g⟩ := hb0
    obtain ⟨k0,cm,k1,k2⟩ := hb
    refine ⟨k0,cm,k1,?_⟩
    rcases k2 with k2 | ⟨a,pm,k3,k4,k5⟩
    · exact .inl k2
    · rcases g with ⟨g1,_⟩ | ⟨a',pm',g1,g2,_⟩
      · rw [g1] at k3; cases k3
      · rw [g1] at k3; cases k3
        exact .inr ⟨_,pm,g1,by rw [h _ (Nat.lt_of_not_le fun hle=>by rw [h0 _ hle] at g2; cases g2)]; exact k4,k5⟩

end

/-- What was there is as it was. -/
def Old (σ σ':St):Prop := ∀ a,a<σ.next→σ'.mem.get a=σ.mem.get a

section
variable {P:Program} {B:Nat} {w0:Root} {w w':World} {ρ ρ':Rho} {I I':Imm} {σ σ':St}

/-- What is new is left out. -/
theorem Rel.scrub (rl:Rel B w0 ρ I σ w) (rl':Rel B w0 ρ' I' σ' w') (ex:Ext ρ I σ ρ' I' σ') (ho:Old σ σ'):Rel B w0 ρ I' σ w' where
  low := rl'.low
  base := rl'.base
  blk a p b h1 h2 := by
    have ha := rl.mlt h2
    refine BRel.agree (N := σ.next) (fun x hx=>(ex.rho x hx).symm) rl.dom (rl.blk a p b h1 h2) (rl'.blk a p b (by rw [ex.rho a ha]; exact h1) (by rw [ho a ha]; exact h2))
  inj a a' p p' b b' h1 h2 h3 h4 := by
    have ha := rl.mlt h3
    have ha' := rl.mlt h4
    exact rl'.inj a a' p p' b b' (by rw [ex.rho a ha]; exact h1) (by rw [ex.rho a' ha']; exact h2) (by rw [ho a ha]; exact h3) (by rw [ho a' ha']; exact h4)
  imm' := rl'.imm'
  sep a p b h1 h2 := by
    have ha := rl.mlt h2
    exact rl'.sep a p b (by rw [ex.rho a ha]; exact h1) (by rw [ho a ha]; exact h2)
  new a p b h1 h2 := by
    have ha := rl.mlt h2
    exact rl'.new a p b (by rw [ex.rho a ha]; exact h1) (by rw [ho a ha]; exact h2)
  lt a p h1 := rl'.lt a p (by rw [ex.rho a (rl.rlt h1)]; exact h1)
  dom := rl.dom
  memdom := rl.memdom
  ilow := rl'.ilow

theorem ACall.scrub {f:FuncId} {args:List AVal} {Q:AVal→St→Prop} (h:ACall P f args σ fun v σ'=>v.upto σ.next=true∧Old σ σ'∧Q v σ):ACall P f args σ Q := by
  refine ACall.ofCalls h.1 fun B w0 ρ I w cargs rl h1 h2=>(h.calls B w0 ρ I w cargs rl h1 h2).mono ?_
  rintro e w' ⟨v,σ',ρ',I',cv,rfl,hv,rl',ex,hu,ho,hq⟩
  refine ⟨v,σ,ρ,I',cv,rfl,VRel.agree (fun a ha=>(ex.rho a ha).symm) _ _ hu hv,rl.scrub rl' ex ho,⟨fun _ _=>rfl,ex.imm,Nat.le_refl _,fun _ _ _=>rfl⟩,hq⟩

theorem Rel.below (rl:Rel B w0 ρ I σ w) (h:Below w.heap.size w w') (h6:w.drawn≤w'.drawn := by exact Nat.le_refl _):Rel B w0 ρ I σ w' where
  low := ⟨rl.low.below.trans (h.mono rl.base),fun b hb=>(h.block b (rl.low.mkLt hb)).trans (rl.low.mks b hb),Nat.le_trans rl.low.drawn h6⟩
  base := Nat.le_trans rl.base h.size
  blk a p b h1 h2 := (rl.blk a p b h1 h2).world (RLe.refl _) (ILe.refl _) (h.block _ (rl.lt a p h1))
  inj := rl.inj
  imm' := ⟨fun b c hb=>by
    obtain ⟨e,fr,hh⟩ := rl.imm b c hb
    exact ⟨e,fr,by rw [h.block _ (rl.immlt hb)]; exact hh⟩,rl.gok⟩
  sep := rl.sep
  new := rl.new
  lt a p h1 := Nat.lt_of_lt_of_le (rl.lt a p h1) h.size
  dom := rl.dom
  memdom := rl.memdom
  ilow := rl.ilow

theorem Rel.empty (rl:Rel B w0 ρ I σ w):Rel w.heap.size ⟨w,fun b=>(I b).isSome,[],fun _=>False⟩ ρ0 I σ0 w where
  low := ⟨Below.refl _ _,fun b h=>h.elim,Nat.le_refl _⟩
  base := Nat.le_refl _
  blk a p b h := by cases h
  inj a a' p p' b b' h := by cases h
  imm' := rl.imm'
  sep a p b h := by cases h
  new a p b h := by cases h
  lt a p h := by cases h
  dom a _ := rfl
  memdom a _ := rfl
  ilow b c h _ := by show (I b).isSome=true; rw [h]; rfl

/-- What is computed from unchanging values in an empty memory is computed in any. -/
theorem ACall.frame {f:FuncId} {args:List AVal} {Q:AVal→St→Prop} (h:ACall P f args σ0 fun v _=>v.flat=true∧Q v σ) (ha:uptoL 0 args=true):ACall P f args σ Q := by
  refine ACall.ofCalls h.1 fun B w0 ρ I w cargs rl h1 h2=>(h.calls w.heap.size _ ρ0 I w cargs rl.empty h1 (CRel.agree (n := 0) (fun a ha=>by omega) _ _ ha h2)).mono ?_
  rintro e w' ⟨v,σ',ρ',I',cv,rfl,hv,rl',ex,hu,hq⟩
  exact ⟨v,σ,ρ,I,cv,rfl,VRel.flat _ _ hu hv,rl.below rl'.low.below rl'.low.drawn,Ext.refl _ _ _,hq⟩

end
end Go.Proofs.YticefdfhcahlfaaGreatDoor.AM

/- The abstract machine's code, step by step: what remains to be done stands as a word, until its turn comes. -/
namespace Go.Proofs.YticefdfhcahlfaaGreatDoor.AM
set_option linter.unusedVariables false
set_option linter.unusedSimpArgs false

section
variable {P:Env}

def seqK (P:Env) (b:ACode) (Q:Post):Post := fun e r σ=>match e with
  | .normal=>b.wp P Q r σ
  | e=>Q e r σ
def blockK (id:Nat) (Q:Post):Post := fun e r σ=>match e with
  | .exit j=>if j=id then Q .normal r σ else Q (.exit j) r σ
  | e=>Q e r σ
def regK (keep:List Nat) (Q:Post):Regs→St→Prop := fun r σ=>Q .normal (norm keep r) σ
def condK (P:Env) (a b:ACode) (Q:Post) (r:Regs) (σ:St):Option AVal→Prop
  | some (.bool t)=>if t then a.wp P Q r σ else b.wp P Q r σ
  | _=>False
def stepK (P:Env) (rest:List AOper) (d:Option Nat) (r:Regs) (Q:Regs→St→Prop):Option (AVal×St)→Prop
  | some (v,σ')=>rwp P rest (setR r d v) σ' Q
  | none=>False
def retK (P:Env) (rest:List AOper) (d:Option Nat) (r:Regs) (Q:Regs→St→Prop):AVal→St→Prop := fun v σ'=>rwp P rest (setR r d v) σ' Q
def callK (P:Env) (rest:List AOper) (d:Option Nat) (r:Regs) (σ:St) (Q:Regs→St→Prop):Option AVal→Option (List AVal)→Prop
  | some (.fn f first caps),some vs=>ACall P f (first++vs++caps) σ (retK P rest d r Q)
  | some (.yld a),some vs=>∃ K,P.yld a vs σ K∧∀ v σ,K v σ→retK P rest d r Q v σ
  | _,_=>False
def pickK (P:Env) (rest:List AOper) (d:Option Nat) (r:Regs) (σ:St) (Q:Regs→St→Prop) (a b:Opd):Option AVal→Prop
  | some (.bool true)=>stepK P rest d r Q ((evalOpd r a).map (·,σ))
  | some (.bool false)=>stepK P rest d r Q ((evalOpd r b).map (·,σ))
  | _=>False
def guardK (P:Env) (o:AOper) (want:Bool) (rest:List AOper) (r:Regs) (σ:St) (Q:Regs→St→Prop):Option AVal→Prop
  | some (.bool b)=>if b=want then rwp P (⟨o.dst,o.ins,none⟩ :: rest) r σ Q else rwp P rest (delU r o.dst) σ Q
  | some (.tup [])=>rwp P rest (delU r o.dst) σ Q
  | _=>False

/-- A range over the function g. -/
def rangeW (P:Env) (g:FuncId) (first caps:List AVal) (ps:List Nat) (a b:ACode) (Q:Post) (r:Regs) (σ:St):Prop :=
  ∀ lp:Loop,lp.state=.ready→lp.pending=none →
    ACall ⟨P.prog,fun _ _=>False,roundY (a.wp (Env.of P.prog)) (b.wp (Env.of P.prog)) σ.next lp ps r⟩ g (first++[.yld σ.next]++caps) ⟨σ.mem.set σ.next (.loop lp),σ.next+1⟩
      (fun _ σ'=>∃ lq,σ'.mem.get σ.next=some (.loop lq)∧lq.state≠.busy∧afterQ Q r ⟨σ'.mem.del σ.next,σ'.next⟩ lq.pending)
def rangeK (P:Env) (ps:List Nat) (a b:ACode) (Q:Post) (r:Regs) (σ:St):Option AVal→Prop
  | some (.fn g first caps)=>rangeW P g first caps ps a b Q r σ
  | _=>False
@[simp] theorem rangeK_some (ps:List Nat) (a b:ACode) (Q:Post) (r:Regs) (σ:St) (g:FuncId) (first caps:List AVal):rangeK P ps a b Q r σ (some (.fn g first caps))=rangeW P g first caps ps a b Q r σ := Eq.trans rfl rfl
@[simp] theorem wp_rangef (f:Opd) (ps:List Nat) (a b:ACode) (Q:Post) (r:Regs) (σ:St):ACode.wp P (.rangef f ps a b) Q r σ=rangeK P ps a b Q r σ (evalOpd r f) := by
  simp only [ACode.wp,rangeK,rangeW]
  cases evalOpd r f with
  | none=>rfl
  | some v=>cases v <;> rfl
@[simp] theorem wp_skip (Q:Post) (r:Regs) (σ:St):ACode.wp P .skip Q r σ=Q .normal r σ := Eq.trans rfl rfl
@[simp] theorem wp_ret (Q:Post) (r:Regs) (σ:St):ACode.wp P .ret Q r σ=Q .ret r σ := Eq.trans rfl rfl
@[simp] theorem wp_exit (Q:Post) (id:Nat) (r:Regs) (σ:St):ACode.wp P (.exit id) Q r σ=Q (.exit id) r σ := Eq.trans rfl rfl
@[simp] theorem wp_seq (a b:ACode) (Q:Post) (r:Regs) (σ:St):ACode.wp P (.seq a b) Q r σ=a.wp P (seqK P b Q) r σ := Eq.trans rfl rfl
@[simp] theorem wp_block (id:Nat) (a:ACode) (Q:Post) (r:Regs) (σ:St):ACode.wp P (.block id a) Q r σ=a.wp P (blockK id Q) r σ := Eq.trans rfl rfl
@[simp] theorem wp_cond (c:Opd) (a b:ACode) (Q:Post) (r:Regs) (σ:St):ACode.wp P (.cond c a b) Q r σ=condK P a b Q r σ (evalOpd r c) := Eq.trans rfl rfl
@[simp] theorem wp_reg (keep:List Nat) (ops:List AOper) (Q:Post) (r:Regs) (σ:St):ACode.wp P (.reg keep ops) Q r σ=rwp P ops r σ (regK keep Q) := Eq.trans rfl rfl
@[simp] theorem seqK_normal (b:ACode) (Q:Post) (r:Regs) (σ:St):seqK P b Q .normal r σ=b.wp P Q r σ := Eq.trans rfl rfl
@[simp] theorem seqK_exit (b:ACode) (Q:Post) (j:Nat) (r:Regs) (σ:St):seqK P b Q (.exit j) r σ=Q (.exit j) r σ := Eq.trans rfl rfl
@[simp] theorem seqK_ret (b:ACode) (Q:Post) (r:Regs) (σ:St):seqK P b Q .ret r σ=Q .ret r σ := Eq.trans rfl rfl
@[simp] theorem blockK_normal (i:Nat) (Q:Post) (r:Regs) (σ:St):blockK i Q .normal r σ=Q .normal r σ := Eq.trans rfl rfl
@[simp] theorem blockK_exit (i j:Nat) (Q:Post) (r:Regs) (σ:St):blockK i Q (.exit j) r σ=if j=i then Q .normal r σ else Q (.exit j) r σ := Eq.trans rfl rfl
@[simp] theorem blockK_ret (i:Nat) (Q:Post) (r:Regs) (σ:St):blockK i Q .ret r σ=Q .ret r σ := Eq.trans rfl rfl
@[simp] theorem regK_app (keep:List Nat) (Q:Post) (r:Regs) (σ:St):regK keep Q r σ=Q .normal (norm keep r) σ := Eq.trans rfl rfl
@[simp] theorem condK_true (a b:ACode) (Q:Post) (r:Regs) (σ:St):condK P a b Q r σ (some (.bool true))=a.wp P Q r σ := Eq.trans rfl rfl
@[simp] theorem condK_false (a b:ACode) (Q:Post) (r:Regs) (σ:St):condK P a b Q r σ (some (.bool false))=b.wp P Q r σ := Eq.trans rfl rfl
@[simp] theorem stepK_some (rest:List AOper) (d:Option Nat) (r:Regs) (Q:Regs→St→Prop) (v:AVal) (σ:St):stepK P rest d r Q (some (v,σ))=rwp P rest (setR r d v) σ Q := Eq.trans rfl rfl
@[simp] theorem stepK_none (rest:List AOper) (d:Option Nat) (r:Regs) (Q:Regs→St→Prop):stepK P rest d r Q none=False := Eq.trans rfl rfl
@[simp] theorem retK_app (rest:List AOper) (d:Option Nat) (r:Regs) (Q:Regs→St→Prop) (v:AVal) (σ:St):retK P rest d r Q v σ=rwp P rest (setR r d v) σ Q := Eq.trans rfl rfl
@[simp] theorem callK_yld (rest:List AOper) (d:Option Nat) (r:Regs) (σ:St) (Q:Regs→St→Prop) (a:Nat) (vs:List AVal):callK P rest d r σ Q (some (.yld a)) (some vs)=∃ K,P.yld a vs σ K∧∀ v σ,K v σ→retK P rest d r Q v σ := Eq.trans rfl rfl
@[simp] theorem callK_some (rest:List AOper) (d:Option Nat) (r:Regs) (σ:St) (Q:Regs→St→Prop) (f:FuncId) (xs vs ys:List AVal):callK P rest d r σ Q (some (.fn f xs ys)) (some vs)=ACall P f (xs++vs++ys) σ (retK P rest d r Q) := Eq.trans rfl rfl
@[simp] theorem pickK_true (rest:List AOper) (d:Option Nat) (r:Regs) (σ:St) (Q:Regs→St→Prop) (a b:Opd):pickK P rest d r σ Q a b (some (.bool true))=stepK P rest d r Q ((evalOpd r a).map (·,σ)) := Eq.trans rfl rfl
@[simp] theorem pickK_false (rest:List AOper) (d:Option Nat) (r:Regs) (σ:St) (Q:Regs→St→Prop) (a b:Opd):pickK P rest d r σ Q a b (some (.bool false))=stepK P rest d r Q ((evalOpd r b).map (·,σ)) := Eq.trans rfl rfl
@[simp] theorem guardK_tt (o:AOper) (rest:List AOper) (r:Regs) (σ:St) (Q:Regs→St→Prop):guardK P o true rest r σ Q (some (.bool true))=rwp P (⟨o.dst,o.ins,none⟩ :: rest) r σ Q := Eq.trans rfl rfl
@[simp] theorem guardK_ff (o:AOper) (rest:List AOper) (r:Regs) (σ:St) (Q:Regs→St→Prop):guardK P o false rest r σ Q (some (.bool false))=rwp P (⟨o.dst,o.ins,none⟩ :: rest) r σ Q := Eq.trans rfl rfl
@[simp] theorem guardK_tf (o:AOper) (rest:List AOper) (r:Regs) (σ:St) (Q:Regs→St→Prop):guardK P o true rest r σ Q (some (.bool false))=rwp P rest (delU r o.dst) σ Q := Eq.trans rfl rfl
@[simp] theorem guardK_ft (o:AOper) (rest:List AOper) (r:Regs) (σ:St) (Q:Regs→St→Prop):guardK P o false rest r σ Q (some (.bool true))=rwp P rest (delU r o.dst) σ Q := Eq.trans rfl rfl
@[simp] theorem guardK_u (o:AOper) (want:Bool) (rest:List AOper) (r:Regs) (σ:St) (Q:Regs→St→Prop):guardK P o want rest r σ Q (some (.tup []))=rwp P rest (delU r o.dst) σ Q := Eq.trans rfl rfl
@[simp] theorem rwp_nil (r:Regs) (σ:St) (Q:Regs→St→Prop):rwp P [] r σ Q=Q r σ := Eq.trans rfl rfl
@[simp] theorem rwp_op (d:Option Nat) (o:AOp Opd) (rest:List AOper) (r:Regs) (σ:St) (Q:Regs→St→Prop):rwp P (⟨d,.op o,none⟩ :: rest) r σ Q=stepK P rest d r Q ((o.mapM (evalOpd r)).bind (evalV σ)) := by
  simp only [rwp,AIns.wp,stepK]
  cases (o.mapM (evalOpd r)).bind (evalV σ) <;> rfl
@[simp] theorem rwp_pick (d:Option Nat) (c a b:Opd) (rest:List AOper) (r:Regs) (σ:St) (Q:Regs→St→Prop):rwp P (⟨d,.pick c a b,none⟩ :: rest) r σ Q=pickK P rest d r σ Q a b (evalOpd r c) := by
  simp only [rwp,AIns.wp]
  cases evalOpd r c with
  | none=>rfl
  | some v =>
    cases v <;> first | rfl | skip
    rename_i t
    cases t
    · simp only [pickK,stepK,Bool.false_eq_true,if_false]; cases evalOpd r b <;> rfl
    · simp only [pickK,stepK,if_true]; cases evalOpd r a <;> rfl
@[simp] theorem rwp_call (d:Option Nat) (f:Opd) (args:List Opd) (rest:List AOper) (r:Regs) (σ:St) (Q:Regs→St→Prop):rwp P (⟨d,.call f args,none⟩ :: rest) r σ Q=callK P rest d r σ Q (evalOpd r f) (listM (evalOpd r) args) := by
  simp only [rwp,AIns.wp]
  cases evalOpd r f with
  | none=>rfl
  | some v=>cases v <;> first | rfl | (cases listM (evalOpd r) args <;> rfl)
def nextK (P:Env) (rest:List AOper) (d:Option Nat) (r:Regs) (Q:Regs→St→Prop):Option (List (AVal×St))→Prop
  | some l=>∀ p∈l,rwp P rest (setR r d p.1) p.2 Q
  | none=>False
@[simp] theorem nextK_some (rest:List AOper) (d:Option Nat) (r:Regs) (Q:Regs→St→Prop) (l:List (AVal×St)):nextK P rest d r Q (some l)=∀ p∈l,rwp P rest (setR r d p.1) p.2 Q := Eq.trans rfl rfl
@[simp] theorem rwp_next (d:Option Nat) (x:Opd) (rest:List AOper) (r:Regs) (σ:St) (Q:Regs→St→Prop):rwp P (⟨d,.next x,none⟩ :: rest) r σ Q=nextK P rest d r Q ((evalOpd r x).bind (nextC σ)) := by
  simp only [rwp,AIns.wp,nextK]
  cases (evalOpd r x).bind (nextC σ) <;> rfl
def panicK (P:Env) (σ:St):Option AVal→Prop
  | some (.iface t v)=>P.thr (.iface t v) σ
  | _=>False
@[simp] theorem panicK_some (σ:St) (t:TypeId) (v:AVal):panicK P σ (some (.iface t v))=P.thr (.iface t v) σ := Eq.trans rfl rfl
@[simp] theorem rwp_panic (d:Option Nat) (x:Opd) (rest:List AOper) (r:Regs) (σ:St) (Q:Regs→St→Prop):rwp P (⟨d,.panic x,none⟩ :: rest) r σ Q=panicK P σ (evalOpd r x) := by
  simp only [rwp,AIns.wp,panicK]
  rfl
@[simp] theorem rwp_guard (d:Option Nat) (i:AIns) (t:Nat) (want:Bool) (rest:List AOper) (r:Regs) (σ:St) (Q:Regs→St→Prop):rwp P (⟨d,i,some (t,want)⟩ :: rest) r σ Q=guardK P ⟨d,i,none⟩ want rest r σ Q (r.lookup t) := by
  simp only [rwp,guardK]
  cases List.lookup t r with
  | none=>rfl
  | some v=>cases v <;> first | rfl | (rename_i vs; cases vs <;> rfl)

def loopK (keep:List Nat) (J:Nat→Regs→St→Prop) (m:Nat) (Q:Post):Post := fun e r σ=>match e with
  | .normal=>∃ m',m'<m∧J m' (norm keep r) σ
  | e=>Q e r σ
@[simp] theorem loopK_normal (keep:List Nat) (J:Nat→Regs→St→Prop) (m:Nat) (Q:Post) (r:Regs) (σ:St):loopK keep J m Q .normal r σ=∃ m',m'<m∧J m' (norm keep r) σ := Eq.trans rfl rfl
@[simp] theorem loopK_exit (keep:List Nat) (J:Nat→Regs→St→Prop) (m:Nat) (Q:Post) (j:Nat) (r:Regs) (σ:St):loopK keep J m Q (.exit j) r σ=Q (.exit j) r σ := Eq.trans rfl rfl
@[simp] theorem loopK_ret (keep:List Nat) (J:Nat→Regs→St→Prop) (m:Nat) (Q:Post) (r:Regs) (σ:St):loopK keep J m Q .ret r σ=Q .ret r σ := Eq.trans rfl rfl
theorem wp_loop {keep:List Nat} {a:ACode} {Q:Post} {r:Regs} {σ:St} (J:Nat→Regs→St→Prop) (n:Nat) (h0:J n (norm keep r) σ) (hs:∀ m r σ,J m r σ→a.wp P (loopK keep J m Q) r σ):ACode.wp P (.loop keep a) Q r σ :=
  ⟨J,n,h0,hs⟩

/-! ### The same in an order of one's own -/

def dstepK (P:Env) (rest:List (AOper×List Nat)) (d:Option Nat) (rc:List Nat) (hs:Hist) (h:St→Prop) (r:Regs) (Q:Regs→St→Prop):Option (AVal×St)→Prop
  | some (v,σ')=>again hs σ' rc∧dwp P rest (setR r d v) σ' (hs++[h]) Q
  | none=>False
def dretK (P:Env) (rest:List (AOper×List Nat)) (d:Option Nat) (rc:List Nat) (hs:Hist) (r:Regs) (Q:Regs→St→Prop):AVal→St→Prop := fun v σ'=>again hs σ' rc∧dwp P rest (setR r d v) σ' (hs++[fun _=>True]) Q
def dcallK (P:Env) (rest:List (AOper×List Nat)) (d:Option Nat) (rc:List Nat) (hs:Hist) (r:Regs) (σ:St) (Q:Regs→St→Prop):Option AVal→Option (List AVal)→Prop
  | some (.fn f first caps),some vs=>ACall P f (first++vs++caps) σ (dretK P rest d rc hs r Q)
  | some (.yld a),some vs=>∃ K,P.yld a vs σ K∧∀ v σ,K v σ→dretK P rest d rc hs r Q v σ
  | _,_=>False
def dpickK (P:Env) (rest:List (AOper×List Nat)) (d:Option Nat) (rc:List Nat) (hs:Hist) (r:Regs) (σ:St) (Q:Regs→St→Prop) (a b:Opd):Option AVal→Prop
  | some (.bool true)=>dstepK P rest d rc hs (fun _=>True) r Q ((evalOpd r a).map (·,σ))
  | some (.bool false)=>dstepK P rest d rc hs (fun _=>True) r Q ((evalOpd r b).map (·,σ))
  | _=>False
def dguardK (P:Env) (o:AOper) (rc:List Nat) (want:Bool) (rest:List (AOper×List Nat)) (hs:Hist) (r:Regs) (σ:St) (Q:Regs→St→Prop):Option AVal→Prop
  | some (.bool b)=>if b=want then dwp P ((⟨o.dst,o.ins,none⟩,rc) :: rest) r σ hs Q else dwp P rest (delU r o.dst) σ (hs++[fun _:St=>True]) Q
  | some (.tup [])=>dwp P rest (delU r o.dst) σ (hs++[fun _:St=>True]) Q
  | _=>False

@[simp] theorem wp_dreg (keep:List Nat) (ops:List (AOper×List Nat)) (Q:Post) (r:Regs) (σ:St):ACode.wp P (.dreg keep ops) Q r σ=dwp P.mute ops r σ [] (regK keep Q) := Eq.trans rfl rfl
@[simp] theorem dstepK_some (rest:List (AOper×List Nat)) (d:Option Nat) (rc:List Nat) (hs:Hist) (h:St→Prop) (r:Regs) (Q:Regs→St→Prop) (v:AVal) (σ:St):dstepK P rest d rc hs h r Q (some (v,σ))=(again hs σ rc∧dwp P rest (setR r d v) σ (hs++[h]) Q) := Eq.trans rfl rfl
@[simp] theorem dstepK_none (rest:List (AOper×List Nat)) (d:Option Nat) (rc:List Nat) (hs:Hist) (h:St→Prop) (r:Regs) (Q:Regs→St→Prop):dstepK P rest d rc hs h r Q none=False := Eq.trans rfl rfl
@[simp] theorem dretK_app (rest:List (AOper×List Nat)) (d:Option Nat) (rc:List Nat) (hs:Hist) (r:Regs) (Q:Regs→St→Prop) (v:AVal) (σ:St):dretK P rest d rc hs r Q v σ=(again hs σ rc∧dwp P rest (setR r d v) σ (hs++[fun _=>True]) Q) := Eq.trans rfl rfl
@[simp] theorem dcallK_some (rest:List (AOper×List Nat)) (d:Option Nat) (rc:List Nat) (hs:Hist) (r:Regs) (σ:St) (Q:Regs→St→Prop) (f:FuncId) (xs vs ys:List AVal):dcallK P rest d rc hs r σ Q (some (.fn f xs ys)) (some vs)=ACall P f (xs++vs++ys) σ (dretK P rest d rc hs r Q) := Eq.trans rfl rfl
@[simp] theorem dpickK_true (rest:List (AOper×List Nat)) (d:Option Nat) (rc:List Nat) (hs:Hist) (r:Regs) (σ:St) (Q:Regs→St→Prop) (a b:Opd):dpickK P rest d rc hs r σ Q a b (some (.bool true))=dstepK P rest d rc hs (fun _=>True) r Q ((evalOpd r a).map (·,σ)) := Eq.trans rfl rfl
@[simp] theorem dpickK_false (rest:List (AOper×List Nat)) (d:Option Nat) (rc:List Nat) (hs:Hist) (r:Regs) (σ:St) (Q:Regs→St→Prop) (a b:Opd):dpickK P rest d rc hs r σ Q a b (some (.bool false))=dstepK P rest d rc hs (fun _=>True) r Q ((evalOpd r b).map (·,σ)) := Eq.trans rfl rfl
@[simp] theorem dguardK_tt (o:AOper) (rc:List Nat) (rest:List (AOper×List Nat)) (hs:Hist) (r:Regs) (σ:St) (Q:Regs→St→Prop):dguardK P o rc true rest hs r σ Q (some (.bool true))=dwp P ((⟨o.dst,o.ins,none⟩,rc) :: rest) r σ hs Q := Eq.trans rfl rfl
@[simp] theorem dguardK_ff (o:AOper) (rc:List Nat) (rest:List (AOper×List Nat)) (hs:Hist) (r:Regs) (σ:St) (Q:Regs→St→Prop):dguardK P o rc false rest hs r σ Q (some (.bool false))=dwp P ((⟨o.dst,o.ins,none⟩,rc) :: rest) r σ hs Q := Eq.trans rfl rfl
@[simp] theorem dguardK_tf (o:AOper) (rc:List Nat) (rest:List (AOper×List Nat)) (hs:Hist) (r:Regs) (σ:St) (Q:Regs→St→Prop):dguardK P o rc true rest hs r σ Q (some (.bool false))=dwp P rest (delU r o.dst) σ (hs++[fun _:St=>True]) Q := Eq.trans rfl rfl
@[simp] theorem dguardK_ft (o:AOper) (rc:List Nat) (rest:List (AOper×List Nat)) (hs:Hist) (r:Regs) (σ:St) (Q:Regs→St→Prop):dguardK P o rc false rest hs r σ Q (some (.bool true))=dwp P rest (delU r o.dst) σ (hs++[fun _:St=>True]) Q := Eq.trans rfl rfl
@[simp] theorem dguardK_u (o:AOper) (rc:List Nat) (want:Bool) (rest:List (AOper×List Nat)) (hs:Hist) (r:Regs) (σ:St) (Q:Regs→St→Prop):dguardK P o rc want rest hs r σ Q (some (.tup []))=dwp P rest (delU r o.dst) σ (hs++[fun _:St=>True]) Q := Eq.trans rfl rfl
@[simp] theorem dwp_nil (r:Regs) (σ:St) (hs:Hist) (Q:Regs→St→Prop):dwp P [] r σ hs Q=Q r σ := Eq.trans rfl rfl
/-- What an operation gave, if it gives that again. -/
def readK (av:Option (AOp AVal)) (was:Option AVal):St→Prop := fun σ'=>match av with
  | some av=>(evalV σ' av).map (·.1)=was
  | none=>True
theorem dwp_op (d:Option Nat) (o:AOp Opd) (rc:List Nat) (rest:List (AOper×List Nat)) (r:Regs) (σ:St) (hs:Hist) (Q:Regs→St→Prop) :
    dwp P ((⟨d,.op o,none⟩,rc) :: rest) r σ hs Q=dstepK P rest d rc hs (histOf (.op o) r σ) r Q ((o.mapM (evalOpd r)).bind (evalV σ)) := by
  simp only [dwp,AIns.wp,dstepK]
  cases (o.mapM (evalOpd r)).bind (evalV σ) <;> rfl
theorem histOf_op (o:AOp Opd) (r:Regs) (σ:St):histOf (.op o) r σ=readK (o.mapM (evalOpd r)) (((o.mapM (evalOpd r)).bind (evalV σ)).map (·.1)) := by
  funext σ'
  simp only [histOf,readK]
  cases o.mapM (evalOpd r) <;> rfl
@[simp] theorem readK_some (av:AOp AVal) (was:Option AVal) (σ:St):readK (some av) was σ=((evalV σ av).map (·.1)=was) := Eq.trans rfl rfl
@[simp] theorem dwp_op' (d:Option Nat) (o:AOp Opd) (rc:List Nat) (rest:List (AOper×List Nat)) (r:Regs) (σ:St) (hs:Hist) (Q:Regs→St→Prop) :
    dwp P ((⟨d,.op o,none⟩,rc) :: rest) r σ hs Q=dstepK P rest d rc hs (readK (o.mapM (evalOpd r)) (((o.mapM (evalOpd r)).bind (evalV σ)).map (·.1))) r Q ((o.mapM (evalOpd r)).bind (evalV σ)) := by
  rw [dwp_op,histOf_op]
@[simp] theorem dwp_pick (d:Option Nat) (c a b:Opd) (rc:List Nat) (rest:List (AOper×List Nat)) (r:Regs) (σ:St) (hs:Hist) (Q:Regs→St→Prop):dwp P ((⟨d,.pick c a b,none⟩,rc) :: rest) r σ hs Q=dpickK P rest d rc hs r σ Q a b (evalOpd r c) := by
  simp only [dwp,AIns.wp]
  have hh:histOf (.pick c a b) r σ=fun _=>True := Eq.trans rfl rfl
  rw [hh]
  cases evalOpd r c with
  | none=>rfl
  | some v =>
    cases v <;> first | rfl | skip
    rename_i t
    cases t
    · simp only [dpickK,dstepK,Bool.false_eq_true,if_false]; cases evalOpd r b <;> rfl
    · simp only [dpickK,dstepK,if_true]; cases evalOpd r a <;> rfl
@[simp] theorem dwp_call (d:Option Nat) (f:Opd) (args:List Opd) (rc:List Nat) (rest:List (AOper×List Nat)) (r:Regs) (σ:St) (hs:Hist) (Q:Regs→St→Prop):dwp P ((⟨d,.call f args,none⟩,rc) :: rest) r σ hs Q=dcallK P rest d rc hs r σ Q (evalOpd r f) (listM (evalOpd r) args) := by
  simp only [dwp,AIns.wp]
  have hh:histOf (.call f args) r σ=fun _=>True := Eq.trans rfl rfl
  rw [hh]
  cases evalOpd r f with
  | none=>rfl
  | some v=>cases v <;> first | rfl | (cases listM (evalOpd r) args <;> rfl)
@[simp] theorem dwp_panic (d:Option Nat) (x:Opd) (rc:List Nat) (rest:List (AOper×List Nat)) (r:Regs) (σ:St) (hs:Hist) (Q:Regs→St→Prop):dwp P ((⟨d,.panic x,none⟩,rc) :: rest) r σ hs Q=panicK P σ (evalOpd r x) := by
  simp only [dwp,AIns.wp,panicK]
  rfl
@[simp] theorem dwp_guard (d:Option Nat) (i:AIns) (t:Nat) (want:Bool) (rc:List Nat) (rest:List (AOper×List Nat)) (r:Regs) (σ:St) (hs:Hist) (Q:Regs→St→Prop):dwp P ((⟨d,i,some (t,want)⟩,rc) :: rest) r σ hs Q=dguardK P ⟨d,i,none⟩ rc want rest hs r σ Q (r.lookup t) := by
  simp only [dwp,dguardK]
  cases List.lookup t r with
  | none=>rfl
  | some v=>cases v <;> first | rfl | (rename_i vs; cases vs <;> rfl)

@[simp] theorem again_nil (h:Hist) (σ:St):again h σ []=True := Eq.trans rfl rfl
def histK (σ:St):Option (St→Prop)→Prop
  | some p=>p σ
  | none=>False
@[simp] theorem histK_some (σ:St) (p:St→Prop):histK σ (some p)=p σ := Eq.trans rfl rfl
@[simp] theorem again_cons (h:Hist) (σ:St) (i:Nat) (is:List Nat):again h σ (i :: is)=(histK σ h[i]?∧again h σ is) := by
  simp only [again]
  cases h[i]? <;> rfl

def resK (rs:List ARes) (Q:AVal→St→Prop) (σ:St):Option AVal→Prop
  | some v=>Q v σ
  | none=>False
@[simp] theorem resK_some (rs:List ARes) (Q:AVal→St→Prop) (σ:St) (v:AVal):resK rs Q σ (some v)=Q v σ := Eq.trans rfl rfl
@[simp] theorem resK_none (rs:List ARes) (Q:AVal→St→Prop) (σ:St):resK rs Q σ none=False := Eq.trans rfl rfl
@[simp] theorem retPost_normal (rs:List ARes) (Q:AVal→St→Prop) (r:Regs) (σ:St):retPost rs Q .normal r σ=resK rs Q σ (resA r σ rs) := by
  simp only [retPost]; cases resA r σ rs <;> rfl
@[simp] theorem retPost_ret (rs:List ARes) (Q:AVal→St→Prop) (r:Regs) (σ:St):retPost rs Q .ret r σ=resK rs Q σ (resA r σ rs) := by
  simp only [retPost]; cases resA r σ rs <;> rfl

theorem lk_cons (t k:Nat) (v:AVal) (l:Regs):List.lookup t ((k,v) :: l)=if t=k then some v else List.lookup t l := by
  simp only [List.lookup]
  by_cases h:t=k
  · simp [h]
  · have:(t == k)=false := by simpa using h
    rw [this,if_neg h]
@[simp] theorem norm_nil (r:Regs):norm [] r=[] := Eq.trans rfl rfl
def consK (k:Nat) (l:Regs):Option AVal→Regs
  | some v=>(k,v) :: l
  | none=>l
@[simp] theorem consK_some (k:Nat) (l:Regs) (v:AVal):consK k l (some v)=(k,v) :: l := Eq.trans rfl rfl
@[simp] theorem consK_none (k:Nat) (l:Regs):consK k l none=l := Eq.trans rfl rfl
@[simp] theorem norm_cons (k:Nat) (ks:List Nat) (r:Regs):norm (k :: ks) r=consK k (norm ks r) (r.lookup k) := by
  simp only [norm,List.filterMap_cons]
  cases r.lookup k <;> rfl
@[simp] theorem setR_some (r:Regs) (d:Nat) (v:AVal):setR r (some d) v=(d,v) :: r := Eq.trans rfl rfl
@[simp] theorem setR_none (r:Regs) (v:AVal):setR r none v=r := Eq.trans rfl rfl
@[simp] theorem delU_some (r:Regs) (d:Nat):delU r (some d)=(d,.tup []) :: r := Eq.trans rfl rfl
@[simp] theorem delU_none (r:Regs):delU r none=r := Eq.trans rfl rfl
@[simp] theorem delR_none (r:Regs):delR r none=r := Eq.trans rfl rfl
@[simp] theorem delR_nil (d:Nat):delR [] (some d)=[] := Eq.trans rfl rfl
@[simp] theorem delR_cons (d k:Nat) (v:AVal) (r:Regs):delR ((k,v) :: r) (some d)=if k=d then delR r (some d) else (k,v) :: delR r (some d) := by
  simp only [delR,List.filter_cons]
  by_cases h:k=d <;> simp [h]
@[simp] theorem evalOpd_t (r:Regs) (n:Nat):evalOpd r (.t n)=r.lookup n := Eq.trans rfl rfl
@[simp] theorem evalOpd_c (r:Regs) (v:AVal):evalOpd r (.c v)=some v := Eq.trans rfl rfl
@[simp] theorem listM_nil {α β:Type} (f:α→Option β):listM f []=some [] := Eq.trans rfl rfl
@[simp] theorem listM_cons {α β:Type} (f:α→Option β) (x:α) (xs:List α):listM f (x :: xs)=(f x).bind fun y=>(listM f xs).map (y :: ·) := Eq.trans rfl rfl
@[simp] theorem resA_one (r:Regs) (σ:St) (x:ARes):resA r σ [x]=resOne r σ x := by
  simp only [resA,listM]; cases resOne r σ x <;> rfl
@[simp] theorem resA_many (r:Regs) (σ:St) (x y:ARes) (l:List ARes):resA r σ (x :: y :: l)=(listM (resOne r σ) (x :: y :: l)).map .tup := by
  simp only [resA,listM]
  cases resOne r σ x with
  | none=>rfl
  | some a =>
    cases resOne r σ y with
    | none=>rfl
    | some b=>cases listM (resOne r σ) l <;> rfl
@[simp] theorem resA_none (r:Regs) (σ:St):resA r σ []=some (.tup []) := Eq.trans rfl rfl
@[simp] theorem resOne_t (r:Regs) (σ:St) (n:Nat):resOne r σ (.t n)=r.lookup n := Eq.trans rfl rfl
@[simp] theorem resOne_c1 (r:Regs) (σ:St) (n:Nat):resOne r σ (.c1 n)=(r.lookup n).bind (load1 σ) := Eq.trans rfl rfl
@[simp] theorem resOne_cn (r:Regs) (σ:St) (n k:Nat):resOne r σ (.cn n k)=(r.lookup n).bind fun x=>(loadL σ k x).map .agg := Eq.trans rfl rfl
@[simp] theorem argR_nil (n:Nat):argR n []=[] := Eq.trans rfl rfl
@[simp] theorem argR_cons (n:Nat) (v:AVal) (vs:List AVal):argR n (v :: vs)=(n,v) :: argR (n+1) vs := Eq.trans rfl rfl

@[simp] theorem cellsOf_int (k:IntKind) (n:Int):cellsOf (.int k n)=[.int k n] := Eq.trans rfl rfl
@[simp] theorem one_int (k:IntKind) (n:Int):AVal.one (.int k n)=true := Eq.trans rfl rfl
@[simp] theorem cellsOf_bool (b:Bool):cellsOf (.bool b)=[.bool b] := Eq.trans rfl rfl
@[simp] theorem one_bool (b:Bool):AVal.one (.bool b)=true := Eq.trans rfl rfl
@[simp] theorem cellsOf_str (s:ByteArray):cellsOf (.str s)=[.str s] := Eq.trans rfl rfl
@[simp] theorem one_str (s:ByteArray):AVal.one (.str s)=true := Eq.trans rfl rfl
@[simp] theorem cellsOf_ptr (a o:Nat):cellsOf (.ptr a o)=[.ptr a o] := Eq.trans rfl rfl
@[simp] theorem one_ptr (a o:Nat):AVal.one (.ptr a o)=true := Eq.trans rfl rfl
@[simp] theorem cellsOf_nilp :cellsOf (.nilp)=[.nilp] := Eq.trans rfl rfl
@[simp] theorem one_nilp :AVal.one (.nilp)=true := Eq.trans rfl rfl
@[simp] theorem cellsOf_iptr (cs:List AVal):cellsOf (.iptr cs)=[.iptr cs] := Eq.trans rfl rfl
@[simp] theorem one_iptr (cs:List AVal):AVal.one (.iptr cs)=true := Eq.trans rfl rfl
@[simp] theorem cellsOf_sl (a o l c:Nat) (t:Bool):cellsOf (.sl a o l c t)=[.sl a o l c t] := Eq.trans rfl rfl
@[simp] theorem one_sl (a o l c:Nat) (t:Bool):AVal.one (.sl a o l c t)=true := Eq.trans rfl rfl
@[simp] theorem cellsOf_nilsl :cellsOf (.nilsl)=[.nilsl] := Eq.trans rfl rfl
@[simp] theorem one_nilsl :AVal.one (.nilsl)=true := Eq.trans rfl rfl
@[simp] theorem cellsOf_isl (cs:List AVal) (l:Nat) (t:Bool):cellsOf (.isl cs l t)=[.isl cs l t] := Eq.trans rfl rfl
@[simp] theorem one_isl (cs:List AVal) (l:Nat) (t:Bool):AVal.one (.isl cs l t)=true := Eq.trans rfl rfl
@[simp] theorem cellsOf_map (a:Nat):cellsOf (.map a)=[.map a] := Eq.trans rfl rfl
@[simp] theorem one_map (a:Nat):AVal.one (.map a)=true := Eq.trans rfl rfl
@[simp] theorem cellsOf_nilmap :cellsOf (.nilmap)=[.nilmap] := Eq.trans rfl rfl
@[simp] theorem one_nilmap :AVal.one (.nilmap)=true := Eq.trans rfl rfl
@[simp] theorem cellsOf_fn (f:FuncId) (x y:List AVal):cellsOf (.fn f x y)=[.fn f x y] := Eq.trans rfl rfl
@[simp] theorem one_fn (f:FuncId) (x y:List AVal):AVal.one (.fn f x y)=true := Eq.trans rfl rfl
@[simp] theorem cellsOf_nilfn :cellsOf (.nilfn)=[.nilfn] := Eq.trans rfl rfl
@[simp] theorem one_nilfn :AVal.one (.nilfn)=true := Eq.trans rfl rfl
@[simp] theorem cellsOf_iface (t:TypeId) (v:AVal):cellsOf (.iface t v)=[.iface t v] := Eq.trans rfl rfl
@[simp] theorem one_iface (t:TypeId) (v:AVal):AVal.one (.iface t v)=true := Eq.trans rfl rfl
@[simp] theorem cellsOf_niliface :cellsOf (.niliface)=[.niliface] := Eq.trans rfl rfl
@[simp] theorem one_niliface :AVal.one (.niliface)=true := Eq.trans rfl rfl
@[simp] theorem cellsOf_agg (cs:List AVal):cellsOf (.agg cs)=cs := Eq.trans rfl rfl
@[simp] theorem one_agg (cs:List AVal):AVal.one (.agg cs)=false := Eq.trans rfl rfl
@[simp] theorem one_tup (cs:List AVal):AVal.one (.tup cs)=false := Eq.trans rfl rfl
attribute [simp] AOp.mapM evalV isNil aeqn abin abinI made allocV load1 loadL

end
end Go.Proofs.YticefdfhcahlfaaGreatDoor.AM

/- What a call makes and gives may be taken as unchanging: its slices then hold their cells themselves, and the memory is as it was. -/
namespace Go.Proofs.YticefdfhcahlfaaGreatDoor.AM
open Go.RowKit
set_option linter.unusedVariables false
set_option linter.unusedSimpArgs false

/-- A slice over a block that is new: its cells. -/
def frz1 (lo:Nat) (m:Mem):AVal→Option AVal
  | .sl n o len cap t=>if n<lo then some (.sl n o len cap t) else match m.get n with
    | some (.cells es vals)=>if o+len*es≤vals.length∧uptoL lo vals=true then some (.isl ((vals.drop o).take (len*es)) len (t && decide (cap=len))) else none
    | some (.ro es vals)=>if o+len*es≤vals.length∧uptoL lo vals=true then some (.isl ((vals.drop o).take (len*es)) len (t && decide (cap=len))) else none
    | _=>none
  | v=>if v.upto lo then some v else none

def frz (lo:Nat) (m:Mem):AVal→Option AVal
  | .tup vs=>(listM (frz1 lo m) vs).map .tup
  | v=>frz1 lo m v

section
variable {P:Program} {B:Nat} {w0:Root} {w w':World} {ρ ρ':Rho} {I I':Imm} {σ σ':St}

open Classical in
/-- The new blocks' cells, as they are now. -/
noncomputable def frzI (lo:Nat) (ρ:Rho) (σ:St) (w:World) (I:Imm):Imm := fun b=>match I b with
  | some c=>some c
  | none=>if ∃ n p es vals,lo≤n∧ρ n=some p∧p.b=b∧σ.mem.get n=some (.cells es vals) then
      match w.heap[b]? with
      | some (.cells c _ _)=>some c
      | _=>none
    else none

theorem frzI_le (lo:Nat) (ρ:Rho) (σ:St) (w:World) (I:Imm):ILe I (frzI lo ρ σ w I) := fun b c h=>by simp only [frzI,h]

theorem frzI_new {lo:Nat} {n es:Nat} {p:Place} {vals:List AVal} {c:Array Value} {e:TypeId} {fr:Nat×Nat} (hI:I p.b=none) (hn:lo≤n) (hρ:ρ n=some p) (hm:σ.mem.get n=some (.cells es vals)) (hh:w.heap[p.b]?=some (.cells c e fr)):frzI lo ρ σ w I p.b=some c := by
  simp only [frzI,hI,hh]
  rw [if_pos ⟨n,p,es,vals,hn,hρ,rfl,hm⟩]

/-- New blocks are left out, what is in them stands as unchanging. -/
theorem Rel.freeze (rl:Rel B w0 ρ I σ w) (rl':Rel B w0 ρ' I' σ' w') (ex:Ext ρ I σ ρ' I' σ') (ho:Old σ σ'):Rel B w0 ρ (frzI σ.next ρ' σ' w' I') σ w' := by
  have rs := rl.scrub rl' ex ho
  exact {
    low := rs.low
    base := rs.base
    blk := fun a p b h1 h2=>(rs.blk a p b h1 h2).world (RLe.refl _) (frzI_le _ _ _ _ _) rfl
    inj := rs.inj
    imm' := ⟨(fun b c hb=>by
      simp only [frzI] at hb
      split at hb
      · rename_i c' hc'
        cases hb
        exact rs.imm b c hc'
      · split at hb
        · split at hb
          · rename_i c' e fr hh; cases hb; exact ⟨e,fr,hh⟩
          · cases hb
        · cases hb),rs.gok.mono (frzI_le _ _ _ _ _)⟩
    sep := fun a p b h1 h2 h3=>by
      simp only [frzI,rs.sep a p b h1 h2 h3]
      rw [if_neg]
      rintro ⟨n,p',es,vals,g1,g2,g3,g4⟩
      have ha := rl.mlt h2
      exact rl'.inj a n p p' b (.cells es vals) (by rw [ex.rho a ha]; exact h1) g2 (by rw [ho a ha]; exact h2) g4 h3 (by omega) g3.symm
    new := rs.new
    lt := rs.lt
    dom := rs.dom
    memdom := rs.memdom
    ilow := fun b c hb hlt=>by
      simp only [frzI] at hb
      split at hb
      · rename_i c' hc'
        exact rs.ilow b c' hc' hlt
      · split at hb
        · rename_i hex
          obtain ⟨n,p,es,vals,g1,g2,g3,g4⟩ := hex
          have := (rl'.new n p _ g2 g4 rfl).1
          omega
        · cases hb }

theorem frz1_rel (rl:Rel B w0 ρ I σ w) (rl':Rel B w0 ρ' I' σ' w') (ex:Ext ρ I σ ρ' I' σ') {v v':AVal} {cv:Value} (h:frz1 σ.next σ'.mem v=some v') (hv:VRel ρ' I' v cv):VRel ρ (frzI σ.next ρ' σ' w' I') v' cv := by
  have hle := frzI_le σ.next ρ' σ' w' I'
  have old:∀ {x:AVal} {cx:Value},x.upto σ.next=true→VRel ρ' I' x cx→VRel ρ (frzI σ.next ρ' σ' w' I') x cx := fun hu hx =>
    (VRel.agree (fun a ha=>(ex.rho a ha).symm) _ _ hu hx).mono (RLe.refl _) hle
  have cold:∀ {xs:List AVal} {f:Nat→Option Value},uptoL σ.next xs=true→CRel ρ' I' xs f→CRel ρ (frzI σ.next ρ' σ' w' I') xs f := fun hu hx =>
    (CRel.agree (fun a ha=>(ex.rho a ha).symm) _ _ hu hx).mono (RLe.refl _) hle _ _ _ (fun _ _ h=>h)
  cases v with
  | sl n o len cap t =>
    simp only [frz1] at h
    split at h
    · rename_i hn
      cases h
      exact old (by simp [AVal.upto,hn]) hv
    · rename_i hn
      have key:∀ (es:Nat) (vals:List AVal) (c:Array Value) (p:Place),o+len*es≤vals.length→uptoL σ.next vals=true→ρ' n=some p→vals.all AVal.one=true→p.es=es→CRel ρ' I' vals (fun j=>c[p.base+j]?)→frzI σ.next ρ' σ' w' I' p.b=some c →
          VRel ρ (frzI σ.next ρ' σ' w' I') (.isl ((vals.drop o).take (len*es)) len (t && decide (cap=len))) cv := by
        intro es vals c p hl hu hp hone hes hc hI
        simp only [VRel] at hv ⊢
        obtain ⟨p',ad,cap',hp',rfl,h1,h2,h3,h4,h5,h6⟩ := hv
        rw [hp] at hp'; cases hp'
        refine ⟨ad,cap',rfl,by omega,h3,?_,?_,?_⟩
        · intro ht
          simp only [Bool.and_eq_true,decide_eq_true_eq] at ht
          rw [h4 ht.1]; exact ht.2
        · rw [List.all_eq_true]
          intro x hx
          exact List.all_eq_true.1 hone x (List.mem_of_mem_drop (List.mem_of_mem_take hx))
        · rcases h5 with h5 | h5
          · have hl0:len=0 := by omega
            subst hl0
            simp [CRel]
          · subst h5
            have hd := ((cold hu hc).drop o).take (len*es)
            refine hd.congr fun j hj=>?_
            by_cases hj0:j=0 <;> simp [icell,Addr.add,hj0,hI,Nat.add_assoc]
      split at h
      · rename_i es vals hm
        split at h
        · rename_i hh
          cases h
          have hv0 := hv
          simp only [VRel] at hv0
          obtain ⟨p,_,_,hp,_⟩ := hv0
          have hb := rl'.blk n p _ hp hm
          obtain ⟨k1,k2,k3,c,e,fr,k4,k5,k6,k7⟩ := hb
          exact key es vals c p hh.1 hh.2 hp k2 k1 k7 (frzI_new (rl'.sep n p _ hp hm rfl) (by omega) hp hm k4)
        · cases h
      · rename_i es vals hm
        split at h
        · rename_i hh
          cases h
          have hv0 := hv
          simp only [VRel] at hv0
          obtain ⟨p,_,_,hp,_⟩ := hv0
          have hb := rl'.blk n p _ hp hm
          obtain ⟨k1,k2,c,k3,k4⟩ := hb
          exact key es vals c p hh.1 hh.2 hp k2 k1 k4 (hle _ _ k3)
        · cases h
      · cases h
  | _ =>
    simp only [frz1] at h
    split at h
    · rename_i hu; cases h; exact old hu hv
    · cases h

theorem ACall.freeze {f:FuncId} {args:List AVal} {Q:AVal→St→Prop} (h:ACall P f args σ fun v σ'=>Old σ σ'∧∃ v',frz σ.next σ'.mem v=some v'∧Q v' σ):ACall P f args σ Q := by
  refine ACall.ofCalls h.1 fun B w0 ρ I w cargs rl h1 h2=>(h.calls B w0 ρ I w cargs rl h1 h2).mono ?_
  rintro e w' ⟨v,σ',ρ',I',cv,rfl,hv,rl',ex,ho,v',hf,hq⟩
  refine ⟨v',σ,ρ,frzI σ.next ρ' σ' w' I',cv,rfl,?_,rl.freeze rl' ex ho,⟨fun _ _=>rfl,fun b c hb=>frzI_le _ _ _ _ _ b c (ex.imm b c hb),Nat.le_refl _,fun _ _ _=>rfl⟩,hq⟩
  cases v with
  | tup vs =>
    simp only [frz,Option.map_eq_some_iff] at hf
    obtain ⟨us,hus,rfl⟩ := hf
    obtain ⟨l1,l2⟩ := listM_get hus
    simp only [VRel] at hv ⊢
    obtain ⟨vs',rfl,hs,hc⟩ := hv
    refine ⟨vs',rfl,by rw [hs,l1],CRel.mk fun j y hy=>?_⟩
    obtain ⟨x,hx,hxy⟩ := l2 j y hy
    obtain ⟨u,hu,hux⟩ := hc.get j x hx
    exact ⟨u,hu,frz1_rel rl rl' ex hxy hux⟩
  | _=>simp only [frz] at hf; exact frz1_rel rl rl' ex hf hv

/-- What is computed from unchanging values alone, in no memory, gives unchanging values, in any. -/
theorem ACall.pure {f:FuncId} {args:List AVal} {Q:AVal→St→Prop} (ha:uptoL 0 args=true) (h:ACall P f args σ0 fun v σ'=>∃ v',frz 0 σ'.mem v=some v'∧v'.upto 0=true∧Q v' σ):ACall P f args σ Q := by
  have h := ACall.freeze (Q := fun v _=>v.upto 0=true∧Q v σ) (h.mono fun v σ' ⟨v',h1,h2,h3⟩=>⟨fun a ha=>absurd ha (by simp),v',h1,h2,h3⟩)
  refine ACall.ofCalls h.1 fun B w0 ρ I w cargs rl h1 h2=>(h.calls w.heap.size _ ρ0 I w cargs rl.empty h1 (CRel.agree (n := 0) (fun a ha=>by omega) _ _ ha h2)).mono ?_
  rintro e w' ⟨v,σ',ρ',I',cv,rfl,hv,rl',ex,hu,hq⟩
  have rb := rl.below rl'.low.below rl'.low.drawn
  have hlow:∀ b c,I' b=some c→b<w.heap.size→I b=some c := fun b c hb hlt=>by
    have h3 := rl'.ilow b c hb hlt
    obtain ⟨c',h4⟩ := Option.isSome_iff_exists.1 h3
    rw [ex.imm b c' h4] at hb
    cases hb; exact h4
  refine ⟨v,σ,ρ,I',cv,rfl,VRel.agree (n := 0) (fun a ha=>by omega) _ _ hu hv,?_,⟨fun _ _=>rfl,ex.imm,Nat.le_refl _,fun _ _ _=>rfl⟩,hq⟩
  exact {
    low := rb.low
    base := rb.base
    blk := fun a p b h1 h2=>(rb.blk a p b h1 h2).world (RLe.refl _) ex.imm rfl
    inj := rb.inj
    imm' := rl'.imm'
    sep := fun a p b h1 h2 h3=>by
      cases hb:I' p.b with
      | none=>rfl
      | some c =>
        have := hlow _ _ hb (rl.lt a p h1)
        rw [rl.sep a p b h1 h2 h3] at this
        cases this
    new := rb.new
    lt := rb.lt
    dom := rb.dom
    memdom := rb.memdom
    ilow := fun b c hb hlt=>rl.ilow b c (hlow b c hb (Nat.lt_of_lt_of_le hlt rl.base)) hlt }

end
end Go.Proofs.YticefdfhcahlfaaGreatDoor.AM

/- A slice that a call gives, taken as unchanging, though the call has written elsewhere. -/
namespace Go.Proofs.YticefdfhcahlfaaGreatDoor.AM
open Go.RowKit
set_option linter.unusedVariables false
set_option linter.unusedSimpArgs false

section
variable {P:Program} {B:Nat} {w0:Root} {w w':World} {ρ ρ':Rho} {I I':Imm} {σ σ':St}

def frzB (b:Nat) (c:Array Value) (I:Imm):Imm := fun k=>if k=b then some c else I k

theorem Rel.freeze1 (rl:Rel B w0 ρ I σ w) {n es:Nat} {vals:List AVal} {p:Place} (hρ:ρ n=some p) (hm:σ.mem.get n=some (.cells es vals)) :
    ∃ c,CRel ρ I vals (fun j=>c[p.base+j]?)∧p.es=es∧vals.all AVal.one=true∧ILe I (frzB p.b c I)∧Rel B w0 ρ (frzB p.b c I) ⟨σ.mem.del n,σ.next⟩ w := by
  obtain ⟨k1,k2,k3,c,e,fr,k4,k5,k6,k7⟩ := rl.blk n p _ hρ hm
  have hI := rl.sep n p _ hρ hm rfl
  have hle:ILe I (frzB p.b c I) := fun b c' hb=>by
    simp only [frzB]
    split
    · rename_i hbp; rw [hbp,hI] at hb; cases hb
    · exact hb
  have g:∀ {a:Nat} {b:Blk},(σ.mem.del n).get a=some b→a≠n∧σ.mem.get a=some b := fun {a b} h=>by
    rw [Mem.get_del] at h
    split at h
    · cases h
    · rename_i hne; exact ⟨hne,h⟩
  refine ⟨c,k7,k1,k2,hle,?_⟩
  exact {
    low := rl.low
    base := rl.base
    blk := fun a q b h1 h2=>(rl.blk a q b h1 (g h2).2).world (RLe.refl _) hle rfl
    inj := fun a a' q q' b b' h1 h2 h3 h4=>rl.inj a a' q q' b b' h1 h2 (g h3).2 (g h4).2
    imm' := ⟨(fun b c' hb=>by
      simp only [frzB] at hb
      split at hb
      · rename_i hbp; cases hb; rw [hbp]; exact ⟨e,fr,k4⟩
      · exact rl.imm b c' hb),rl.gok.mono hle⟩
    sep := fun a q b h1 h2 h3=>by
      have := rl.inj a n q p b _ h1 hρ (g h2).2 hm h3 (g h2).1
      simp only [frzB,if_neg this]
      exact rl.sep a q b h1 (g h2).2 h3
    new := fun a q b h1 h2=>rl.new a q b h1 (g h2).2
    lt := rl.lt
    dom := rl.dom
    memdom := fun a ha=>by
      show (σ.mem.del n).get a=none
      rw [Mem.get_del]; split
      · rfl
      · exact rl.memdom a ha
    ilow := fun b c' hb hlt=>by
      simp only [frzB] at hb
      split at hb
      · rename_i hbp
        have := (rl.new n p _ hρ hm rfl).1
        omega
      · exact rl.ilow b c' hb hlt }

theorem ACall.freeze1 {f:FuncId} {args:List AVal} {Q:AVal→St→Prop} (h:ACall P f args σ fun v σ'=>Q v σ'∨∃ n o len cap t es vals,v=.sl n o len cap t∧σ'.mem.get n=some (.cells es vals)∧σ.next≤n∧o+len*es≤vals.length ∧
    Q (.isl ((vals.drop o).take (len*es)) len (t && decide (cap=len))) ⟨σ'.mem.del n,σ'.next⟩):ACall P f args σ Q := by
  refine ACall.ofCalls h.1 fun B w0 ρ I w cargs rl h1 h2=>(h.calls B w0 ρ I w cargs rl h1 h2).mono ?_
  rintro e w' ⟨v,σ',ρ',I',cv,rfl,hv,rl',ex,hq | ⟨n,o,len,cap,t,es,vals,rfl,hm,hn,hl,hq⟩⟩
  · exact ⟨v,σ',ρ',I',cv,rfl,hv,rl',ex,hq⟩
  · have hv0 := hv
    simp only [VRel] at hv
    obtain ⟨p,ad,cap',hp,rfl,g1,g2,g3,g4,g5,g6⟩ := hv
    obtain ⟨c,hc,hes,hone,hle,rl2⟩ := rl'.freeze1 hp hm
    refine ⟨_,_,ρ',frzB p.b c I',_,rfl,?_,rl2,⟨ex.rho,fun b c' hb=>hle _ _ (ex.imm _ _ hb),ex.next,fun a ha hna=>by
      show (σ'.mem.del n).get a=_
      rw [Mem.get_del,if_neg (by omega)]; exact ex.keep a ha hna⟩,hq⟩
    simp only [VRel]
    refine ⟨ad,cap',rfl,by omega,g3,?_,?_,?_⟩
    · intro ht
      simp only [Bool.and_eq_true,decide_eq_true_eq] at ht
      rw [g4 ht.1]; exact ht.2
    · rw [List.all_eq_true]
      intro x hx
      exact List.all_eq_true.1 hone x (List.mem_of_mem_drop (List.mem_of_mem_take hx))
    · rcases g5 with g5 | g5
      · have hl0:len=0 := by omega
        subst hl0
        simp [CRel]
      · subst g5
        have hd := (((hc.mono (RLe.refl _) hle _ _ _ (fun _ _ h=>h)):CRel ρ' (frzB p.b c I') vals (fun j=>c[p.base+j]?)).drop o).take (len*es)
        refine hd.congr fun j hj=>?_
        by_cases hj0:j=0 <;> simp [icell,Addr.add,hj0,frzB,Nat.add_assoc]

end
end Go.Proofs.YticefdfhcahlfaaGreatDoor.AM

/- The same for slices of slices: what lies in a new block is taken as unchanging too. -/
namespace Go.Proofs.YticefdfhcahlfaaGreatDoor.AM
open Go.RowKit
set_option linter.unusedVariables false
set_option linter.unusedSimpArgs false

/-- A value with its new slices' cells in it, d blocks deep. -/
def frzD (lo:Nat) (m:Mem):Nat→AVal→Option AVal
  | 0,v=>if v.upto lo then some v else none
  | d+1,v=>match v with
    | .sl n o len cap t=>if n<lo then some (.sl n o len cap t) else match m.get n with
      | some (.cells es vals)=>if o+len*es≤vals.length then (listM (frzD lo m d) ((vals.drop o).take (len*es))).map fun cs=>.isl cs len (t && decide (cap=len)) else none
      | _=>none
    | .tup vs=>(listM (frzD lo m d) vs).map .tup
    | .agg vs=>(listM (frzD lo m d) vs).map .agg
    | v=>if v.upto lo then some v else none

section
variable {P:Program} {B:Nat} {w0:Root} {w w':World} {ρ ρ':Rho} {I I':Imm} {σ σ':St}

theorem frzD_one (lo:Nat) (m:Mem):∀ (d:Nat) (v v':AVal),frzD lo m d v=some v'→v.one=true→v'.one=true := by
  intro d v v' h h1
  cases d with
  | zero =>
    simp only [frzD] at h
    split at h
    · cases h; exact h1
    · cases h
  | succ d =>
    cases v <;> simp only [frzD] at h
    case sl n o len cap t =>
      split at h
      · cases h; rfl
      · split at h
        · split at h
          · simp only [Option.map_eq_some_iff] at h
            obtain ⟨cs,_,rfl⟩ := h; rfl
          · cases h
        · cases h
    case tup vs=>simp at h1
    case agg vs=>simp at h1
    all_goals
      split at h
      · cases h; exact h1
      · cases h

theorem frzD_rel (rl:Rel B w0 ρ I σ w) (rl':Rel B w0 ρ' I' σ' w') (ex:Ext ρ I σ ρ' I' σ'):∀ (d:Nat) {v v':AVal} {cv:Value},frzD σ.next σ'.mem d v=some v'→VRel ρ' I' v cv→VRel ρ (frzI σ.next ρ' σ' w' I') v' cv := by
  have hle := frzI_le σ.next ρ' σ' w' I'
  have old:∀ {x:AVal} {cx:Value},x.upto σ.next=true→VRel ρ' I' x cx→VRel ρ (frzI σ.next ρ' σ' w' I') x cx := fun hu hx =>
    (VRel.agree (fun a ha=>(ex.rho a ha).symm) _ _ hu hx).mono (RLe.refl _) hle
  intro d
  induction d with
  | zero =>
    intro v v' cv h hv
    simp only [frzD] at h
    split at h
    · rename_i hu; cases h; exact old hu hv
    · cases h
  | succ d ih =>
    intro v v' cv h hv
    have ihl:∀ {xs ys:List AVal} {f:Nat→Option Value},listM (frzD σ.next σ'.mem d) xs=some ys→CRel ρ' I' xs f→CRel ρ (frzI σ.next ρ' σ' w' I') ys f := fun {xs ys f} hl hc=>by
      obtain ⟨l1,l2⟩ := listM_get hl
      refine CRel.mk fun j y hy=>?_
      obtain ⟨x,hx,hxy⟩ := l2 j y hy
      obtain ⟨u,hu,hux⟩ := hc.get j x hx
      exact ⟨u,hu,ih hxy hux⟩
    have ihone:∀ {xs ys:List AVal},listM (frzD σ.next σ'.mem d) xs=some ys→xs.all AVal.one=true→ys.all AVal.one=true := fun {xs ys} hl h1=>by
      obtain ⟨l1,l2⟩ := listM_get hl
      rw [List.all_eq_true]
      intro y hy
      obtain ⟨j,hj⟩ := List.mem_iff_getElem?.1 hy
      obtain ⟨x,hx,hxy⟩ := l2 j y hj
      exact frzD_one _ _ d x y hxy (List.all_eq_true.1 h1 x (List.mem_of_getElem? hx))
    cases v <;> simp only [frzD] at h
    case sl n o len cap t =>
      split at h
      · rename_i hn
        cases h
        exact old (by simp [AVal.upto,hn]) hv
      · rename_i hn
        split at h
        · rename_i es vals hm
          split at h
          · rename_i hl
            simp only [Option.map_eq_some_iff] at h
            obtain ⟨cs,hcs,rfl⟩ := h
            simp only [VRel] at hv ⊢
            obtain ⟨p,ad,cap',hp,rfl,h1,h2,h3,h4,h5,h6⟩ := hv
            obtain ⟨k1,k2,k3,c,e,fr,k4,k5,k6,k7⟩ := rl'.blk n p _ hp hm
            have hI := frzI_new (rl'.sep n p _ hp hm rfl) (by omega:σ.next≤n) hp hm k4
            refine ⟨ad,cap',rfl,by omega,h3,?_,ihone hcs ?_,?_⟩
            · intro ht
              simp only [Bool.and_eq_true,decide_eq_true_eq] at ht
              rw [h4 ht.1]; exact ht.2
            · rw [List.all_eq_true]
              intro x hx
              exact List.all_eq_true.1 k2 x (List.mem_of_mem_drop (List.mem_of_mem_take hx))
            · have hlen := (listM_get hcs).1
              rcases h5 with h5 | h5
              · have hl0:len=0 := by omega
                subst hl0
                simp at hlen
                subst hlen
                simp [CRel]
              · subst h5
                have hd := (k7.drop o).take (len*es)
                refine (ihl hcs hd).congr fun j hj=>?_
                by_cases hj0:j=0 <;> simp [icell,Addr.add,hj0,hI,Nat.add_assoc]
          · cases h
        · cases h
    case tup vs =>
      simp only [Option.map_eq_some_iff] at h
      obtain ⟨us,hus,rfl⟩ := h
      simp only [VRel] at hv ⊢
      obtain ⟨vs',rfl,hs,hc⟩ := hv
      exact ⟨vs',rfl,by rw [hs,(listM_get hus).1],ihl hus hc⟩
    case agg vs =>
      simp only [Option.map_eq_some_iff] at h
      obtain ⟨us,hus,rfl⟩ := h
      simp only [VRel] at hv ⊢
      obtain ⟨vs',rfl,hs,ho,hc⟩ := hv
      exact ⟨vs',rfl,by rw [hs,(listM_get hus).1],ihone hus ho,ihl hus hc⟩
    all_goals
      split at h
      · rename_i hu; cases h; exact old hu hv
      · cases h

theorem ACall.freezeD (d:Nat) {f:FuncId} {args:List AVal} {Q:AVal→St→Prop} (h:ACall P f args σ fun v σ'=>Old σ σ'∧∃ v',frzD σ.next σ'.mem d v=some v'∧Q v' σ):ACall P f args σ Q := by
  refine ACall.ofCalls h.1 fun B w0 ρ I w cargs rl h1 h2=>(h.calls B w0 ρ I w cargs rl h1 h2).mono ?_
  rintro e w' ⟨v,σ',ρ',I',cv,rfl,hv,rl',ex,ho,v',hf,hq⟩
  exact ⟨v',σ,ρ,frzI σ.next ρ' σ' w' I',cv,rfl,frzD_rel rl rl' ex d hf hv,rl.freeze rl' ex ho,⟨fun _ _=>rfl,fun b c hb=>frzI_le _ _ _ _ _ b c (ex.imm b c hb),Nat.le_refl _,fun _ _ _=>rfl⟩,hq⟩

end
end Go.Proofs.YticefdfhcahlfaaGreatDoor.AM

/- What an argument's width says of its number. -/
namespace Go.Proofs.YticefdfhcahlfaaGreatDoor.AM
open Go.RowKit
theorem wf_u8 {n:Int} (h:(Lit.int .u8 n).wf=true):∃ k:Nat,n=(k:Int)∧k<256 := by
  have h2:IntKind.u8.min≤n∧n≤IntKind.u8.max := by simpa [Lit.wf] using h
  have e1:IntKind.u8.min=0 := by decide +kernel
  have e2:IntKind.u8.max=255 := by decide +kernel
  exact ⟨n.toNat,by omega,by omega⟩
theorem wf_u16 {n:Int} (h:(Lit.int .u16 n).wf=true):∃ k:Nat,n=(k:Int)∧k<65536 := by
  have h2:IntKind.u16.min≤n∧n≤IntKind.u16.max := by simpa [Lit.wf] using h
  have e1:IntKind.u16.min=0 := by decide +kernel
  have e2:IntKind.u16.max=65535 := by decide +kernel
  exact ⟨n.toNat,by omega,by omega⟩
theorem wf_u32 {n:Int} (h:(Lit.int .u32 n).wf=true):∃ k:Nat,n=(k:Int)∧k<4294967296 := by
  have h2:IntKind.u32.min≤n∧n≤IntKind.u32.max := by simpa [Lit.wf] using h
  have e1:IntKind.u32.min=0 := by decide +kernel
  have e2:IntKind.u32.max=4294967295 := by decide +kernel
  exact ⟨n.toNat,by omega,by omega⟩
theorem wf_u64 {n:Int} (h:(Lit.int .u64 n).wf=true):∃ k:Nat,n=(k:Int)∧k<18446744073709551616 := by
  have h2:IntKind.u64.min≤n∧n≤IntKind.u64.max := by simpa [Lit.wf] using h
  have e1:IntKind.u64.min=0 := by decide +kernel
  have e2:IntKind.u64.max=18446744073709551615 := by decide +kernel
  exact ⟨n.toNat,by omega,by omega⟩
theorem wf_i64 {n:Int} (h:(Lit.int .i64 n).wf=true):-9223372036854775808≤n∧n≤9223372036854775807 := by
  have h2:IntKind.i64.min≤n∧n≤IntKind.i64.max := by simpa [Lit.wf] using h
  have e1:IntKind.i64.min = -9223372036854775808 := by decide +kernel
  have e2:IntKind.i64.max=9223372036854775807 := by decide +kernel
  omega
end Go.Proofs.YticefdfhcahlfaaGreatDoor.AM

/- Small things for contracts: lists in step, bytes, what is frozen. -/
namespace Go.Proofs.YticefdfhcahlfaaGreatDoor.AM
open Go.RowKit
set_option maxRecDepth 100000
set_option linter.unusedVariables false
set_option linter.unusedSimpArgs false

mutual
theorem AVal.upto_mono {n m:Nat} (h:n≤m):(v:AVal)→v.upto n=true→v.upto m=true
  | .ptr a _,hv=>by simp only [AVal.upto,decide_eq_true_eq] at *; omega
  | .iptr cs,hv=>by simp only [AVal.upto] at *; exact AVal.uptoL_mono h cs hv
  | .sl a _ _ _ _,hv=>by simp only [AVal.upto,decide_eq_true_eq] at *; omega
  | .isl cs _ _,hv=>by simp only [AVal.upto] at *; exact AVal.uptoL_mono h cs hv
  | .map a,hv=>by simp only [AVal.upto,decide_eq_true_eq] at *; omega
  | .yld a,hv=>by simp only [AVal.upto,decide_eq_true_eq] at *; omega
  | .fn _ xs ys,hv=>by
    simp only [AVal.upto,Bool.and_eq_true] at *
    exact ⟨AVal.uptoL_mono h xs hv.1,AVal.uptoL_mono h ys hv.2⟩
  | .iface _ v,hv=>by simp only [AVal.upto] at *; exact AVal.upto_mono h v hv
  | .agg cs,hv=>by simp only [AVal.upto] at *; exact AVal.uptoL_mono h cs hv
  | .tup vs,hv=>by simp only [AVal.upto] at *; exact AVal.uptoL_mono h vs hv
  | .int _ _,_=>rfl
  | .bool _,_=>rfl
  | .str _,_=>rfl
  | .nilp,_=>rfl
  | .nilsl,_=>rfl
  | .nilmap,_=>rfl
  | .nilfn,_=>rfl
  | .niliface,_=>rfl
theorem AVal.uptoL_mono {n m:Nat} (h:n≤m):(vs:List AVal)→uptoL n vs=true→uptoL m vs=true
  | [],_=>rfl
  | v :: vs,hv=>by
    simp only [uptoL,Bool.and_eq_true] at *
    exact ⟨AVal.upto_mono h v hv.1,AVal.uptoL_mono h vs hv.2⟩
end

def All2 {α β:Type} (R:α→β→Prop):List α→List β→Prop
  | [],[]=>True
  | a :: la,b :: bs=>R a b∧All2 R la bs
  | _,_=>False
theorem All2.snoc {α β:Type} {R:α→β→Prop} {a:α} {b:β} (hr:R a b):∀ {la:List α} {bs:List β},All2 R la bs→All2 R (la++[a]) (bs++[b])
  | [],[],_=>⟨hr,trivial⟩
  | x :: la,y :: bs,h=>⟨h.1,All2.snoc hr h.2⟩
  | [],_ :: _,h=>h.elim
  | _ :: _,[],h=>h.elim
theorem All2.imp {α β:Type} {R S:α→β→Prop} (hrs:∀ a b,R a b→S a b):∀ {la:List α} {bs:List β},All2 R la bs→All2 S la bs
  | [],[],_=>trivial
  | x :: la,y :: bs,h=>⟨hrs _ _ h.1,All2.imp hrs h.2⟩
  | [],_ :: _,h=>h.elim
  | _ :: _,[],h=>h.elim
theorem All2.len {α β:Type} {R:α→β→Prop}:∀ {la:List α} {bs:List β},All2 R la bs→la.length=bs.length
  | [],[],_=>rfl
  | x :: la,y :: bs,h=>by simp [All2.len h.2]
  | [],_ :: _,h=>h.elim
  | _ :: _,[],h=>h.elim
theorem All2.listM {α β:Type} {R:α→β→Prop} {f:β→Option AVal} {g:α→AVal} (hr:∀ a b,R a b→f b=some (g a)):∀ {la:List α} {bs:List β},All2 R la bs→AM.listM f bs=some (la.map g)
  | [],[],_=>rfl
  | x :: la,y :: bs,h=>by
    rw [listM_cons,hr _ _ h.1,All2.listM hr h.2]; rfl
  | [],_ :: _,h=>h.elim
  | _ :: _,[],h=>h.elim
theorem listM_id {f:AVal→Option AVal}:∀ {l:List AVal},(∀ x∈l,f x=some x)→listM f l=some l
  | [],_=>rfl
  | x :: l,h=>by rw [listM_cons,h x (by simp),listM_id (fun y hy=>h y (by simp [hy]))]; rfl

theorem All2.get {α β:Type} {R:α→β→Prop}:∀ {xs:List α} {ys:List β} {i:Nat} {x:α},All2 R xs ys→xs[i]?=some x→∃ y,ys[i]?=some y∧R x y
  | [],_,_,_,_,h=>by simp at h
  | x :: xs,y :: ys,0,a,h,hx=>by simp at hx; subst hx; exact ⟨y,rfl,h.1⟩
  | x :: xs,y :: ys,i+1,a,h,hx=>by
    obtain ⟨b,hb,hr⟩ := All2.get (i := i) h.2 (by simpa using hx)
    exact ⟨b,by simpa using hb,hr⟩
  | _ :: _,[],_,_,h,_=>h.elim

theorem frzD_tup (lo:Nat) (m:Mem) (d:Nat) (vs:List AVal):frzD lo m (d+1) (.tup vs)=(listM (frzD lo m d) vs).map .tup := by simp only [frzD]
theorem frzD_sl {lo:Nat} {m:Mem} {d n o len cap es:Nat} {t:Bool} {vals:List AVal} (hn:lo≤n) (hm:m.get n=some (.cells es vals)) (hl:o+len*es≤vals.length) :
    frzD lo m (d+1) (.sl n o len cap t)=(listM (frzD lo m d) ((vals.drop o).take (len*es))).map fun cs=>.isl cs len (t && decide (cap=len)) := by
  simp only [frzD]
  rw [if_neg (by omega),hm]
  simp only
  rw [if_pos hl]

theorem condK_mid {P:Env} {a b:ACode} {Q:Post} {r:Regs} {σ:St} {o:Option AVal} (M:Regs→St→Prop) (h:condK P a b (fun e r σ=>e=.normal∧M r σ) r σ o) (hq:∀ r σ,M r σ→Q .normal r σ):condK P a b Q r σ o := by
  cases o with
  | none=>exact h.elim
  | some v =>
    cases v <;> first | exact h.elim | skip
    rename_i t
    cases t
    · exact wp_mono' h (fun e r σ ⟨he,hm⟩=>he ▸ hq r σ hm)
    · exact wp_mono' h (fun e r σ ⟨he,hm⟩=>he ▸ hq r σ hm)

def bytesV (l:List UInt8):List AVal := l.map fun b=>.int .u8 (b.toNat:Int)
/-- A slice of bytes that does not change. -/
def BytesOf (d:AVal) (l:List UInt8):Prop := d=.nilsl∧l=[]∨∃ t,d=.isl (bytesV l) l.length t
theorem bytesV_len (l:List UInt8):(bytesV l).length=l.length := by simp [bytesV]
theorem bytesV_upto (lo:Nat) (l:List UInt8):uptoL lo (bytesV l)=true := by
  induction l with
  | nil=>rfl
  | cons x l ih =>
    simp only [bytesV] at ih
    simp only [bytesV,List.map_cons,uptoL,AVal.upto,ih,Bool.and_true]
theorem bytesV_bytes:∀ (l:List UInt8),listM byteOfA (bytesV l)=some l
  | []=>rfl
  | x :: l=>by
    have h:byteOfA (.int .u8 (x.toNat:Int))=some x := by simp [byteOfA]
    have ih := bytesV_bytes l
    simp only [bytesV] at ih
    simp only [bytesV,List.map_cons,listM_cons,h,ih]
    rfl
theorem BytesOf.str {d:AVal} {l:List UInt8} (h:BytesOf d l) (ρ:St):evalV ρ (.bytesStr d)=some (.str ⟨l.toArray⟩,ρ) := by
  rcases h with ⟨rfl,rfl⟩ | ⟨t,rfl⟩
  · rfl
  · simp only [evalV,srcL,bytesV_len,Nat.mul_one,if_true,Option.bind_some,bytesV_bytes,Option.map_some]
theorem BytesOf.len {d:AVal} {l:List UInt8} (h:BytesOf d l) (ρ:St):evalV ρ (.len 1 d)=some (.int .i64 (l.length:Int),ρ) := by
  rcases h with ⟨rfl,rfl⟩ | ⟨t,rfl⟩ <;> simp
theorem BytesOf.one {d:AVal} {l:List UInt8} (h:BytesOf d l):d.one=true∧cellsOf d=[d] := by
  rcases h with ⟨rfl,rfl⟩ | ⟨t,rfl⟩ <;> simp
/-- A slice of bytes, as an argument has it. -/
theorem bytes_arg {d:AVal} {ok:List AVal→Prop} (hok:∀ x,ok x→∃ n,x=[.int .u8 n]∧(Lit.int .u8 n).wf=true) (h:[d]=[.nilsl]∨∃ xs:List (List AVal),[d]=[.isl xs.flatten xs.length false]∧(∀ x∈xs,x.length=1∧ok x)∧xs.length≤9223372036854775807∧xs.length*1≤140737488351232) :
    ∃ l,BytesOf d l∧l.length≤140737488351232 := by
  rcases h with h | ⟨xs,h,hx,_,hl⟩
  · cases h; exact ⟨[],.inl ⟨rfl,rfl⟩,by simp⟩
  · cases h
    have:∀ xs:List (List AVal),(∀ x∈xs,x.length=1∧ok x)→∃ l:List UInt8,xs.flatten=bytesV l∧l.length=xs.length := by
      intro xs
      induction xs with
      | nil=>intro _; exact ⟨[],rfl,rfl⟩
      | cons x xs ih =>
        intro h
        obtain ⟨l,h1,h2⟩ := ih (fun y hy=>h y (by simp [hy]))
        obtain ⟨n,rfl,hw⟩ := hok x (h x (by simp)).2
        obtain ⟨k,rfl,hk⟩ := wf_u8 hw
        refine ⟨UInt8.ofNat k :: l,?_,by simp [h2]⟩
        have:(UInt8.ofNat k).toNat=k := by simp; omega
        simp [bytesV,h1,this]
    obtain ⟨l,h1,h2⟩ := this xs hx
    exact ⟨l,.inr ⟨false,by rw [h1,h2]⟩,by omega⟩
theorem list_arg {R:AVal→List UInt8→Prop} {ok:List AVal→Prop} (hok:∀ d,ok [d]→∃ l,R d l):∀ xs:List (List AVal),(∀ x∈xs,x.length=1∧ok x)→∃ (ds:List AVal) (ls:List (List UInt8)),xs.flatten=ds∧ds.length=xs.length∧All2 R ds ls
  | [],_=>⟨[],[],rfl,rfl,trivial⟩
  | x :: xs,h=>by
    obtain ⟨ds,ls,h1,h2,h3⟩ := list_arg hok xs (fun y hy=>h y (by simp [hy]))
    obtain ⟨hx,hox⟩ := h x (by simp)
    obtain ⟨d,rfl⟩ := List.length_eq_one_iff.1 hx
    obtain ⟨l,hl⟩ := hok d hox
    exact ⟨d :: ds,l :: ls,by simp [h1],by simp [h2],hl,h3⟩
theorem nats_arg {ok:List AVal→Prop} (hok:∀ x,ok x→∃ n,x=[.int .u16 n]∧(Lit.int .u16 n).wf=true):∀ xs:List (List AVal),(∀ x∈xs,x.length=1∧ok x)→∃ os:List Nat,xs.flatten=(os.map fun (o:Nat)=>AVal.int .u16 (o:Int))∧os.length=xs.length∧∀ o∈os,o<65536
  | [],_=>⟨[],rfl,rfl,fun o ho=>by simp at ho⟩
  | x :: xs,h=>by
    obtain ⟨os,h1,h2,h3⟩ := nats_arg hok xs (fun y hy=>h y (by simp [hy]))
    obtain ⟨n,rfl,hw⟩ := hok x (h x (by simp)).2
    obtain ⟨k,rfl,hk⟩ := wf_u16 hw
    refine ⟨k :: os,by simp [h1],by simp [h2],fun o ho=>?_⟩
    rcases List.mem_cons.1 ho with rfl | ho
    · exact hk
    · exact h3 o ho


attribute [simp] AVal.upto uptoL
/-- A pointer-free value. -/
theorem BytesOf.upto {d:AVal} {l:List UInt8} (h:BytesOf d l) (lo:Nat):d.upto lo=true := by
  rcases h with ⟨rfl,rfl⟩ | ⟨t,rfl⟩
  · rfl
  · simp [bytesV_upto]
theorem str_eq (a b:List UInt8):abinS .eql ⟨a.toArray⟩ ⟨b.toArray⟩=some (.bool (decide (a=b))) := by
  have h:((⟨a.toArray⟩:ByteArray).toList == (⟨b.toArray⟩:ByteArray).toList)=decide (a=b) := by
    rw [ByteArray.toList_eq,ByteArray.toList_eq]
    by_cases hab:a=b
    · subst hab; simp
    · simp [hab]
  simp only [abinS,h]
theorem str_ne (a b:List UInt8):abinS .neq ⟨a.toArray⟩ ⟨b.toArray⟩=some (.bool (decide (a≠b))) := by
  have h:((⟨a.toArray⟩:ByteArray).toList == (⟨b.toArray⟩:ByteArray).toList)=decide (a=b) := by
    rw [ByteArray.toList_eq,ByteArray.toList_eq]
    by_cases hab:a=b
    · subst hab; simp
    · simp [hab]
  simp only [abinS,h]
  by_cases hab:a=b <;> simp [hab]
end Go.Proofs.YticefdfhcahlfaaGreatDoor.AM

/- The abstract machine: a map that isn't changed, walked whole. -/
namespace Go.Proofs.YticefdfhcahlfaaGreatDoor.AM
open Go.RowKit
set_option linter.unusedVariables false
set_option linter.unusedSimpArgs false

abbrev MEnt := Nat×AVal×AVal
/-- What the next step of a walk may be: the end only when all was met. -/
theorem next_all {σ:St} {it mp clock:Nat} {S:List Nat} {ents:List MEnt} (hi:σ.mem.get it=some (.iter (some mp) clock S clock)) (hm:σ.mem.get mp=some (.map clock ents)) (hs:∀ e∈ents,e.1<clock) :
    ∃ L,nextC σ (.ptr it 0)=some L∧∀ p∈L,(p=(.tup [.bool false],σ)∧∀ e∈ents,e.1∈S)∨∃ e∈ents,e.1 ∉ S∧p=(.tup [.bool true,e.2.1,e.2.2],⟨σ.mem.set it (.iter (some mp) clock (S++[e.1]) clock),σ.next⟩) := by
  have hno:(!S.isEmpty && !ents.isEmpty && ents.all fun e=>decide (clock≤e.1))=false := by
    cases ents with
    | nil=>simp
    | cons e es =>
      have := hs e (by simp)
      have:decide (clock≤e.1)=false := by simp; omega
      simp [this]
  simp only [nextC,hi,hm,hno]
  refine ⟨_,rfl,fun p hp=>?_⟩
  rcases List.mem_append.1 hp with hp | hp
  · split at hp
    · rename_i hem
      simp at hp
      refine .inl ⟨hp,fun e he=>?_⟩
      rw [List.isEmpty_iff,List.filter_eq_nil_iff] at hem
      by_cases h:e.1∈S
      · exact h
      · exact absurd (hs e he) (by have := hem e (List.mem_filter.2 ⟨he,by simpa using h⟩); simpa using this)
    · cases hp
  · obtain ⟨e,he,rfl⟩ := List.mem_map.1 hp
    have he2:e∈ents∧e.1 ∉ S := by
      rcases List.mem_append.1 he with he | he <;>
      · rw [List.mem_filter,List.mem_filter] at he
        exact ⟨he.1.1,by simpa using he.1.2⟩
    exact .inr ⟨e,he2.1,he2.2,rfl⟩

theorem stamp_eq {a b:MEnt}:∀ {ents:List MEnt},(ents.map (·.1)).Nodup→a∈ents→b∈ents→a.1=b.1→a=b
  | x :: l,hn,ha,hb,he=>by
    simp only [List.map_cons,List.nodup_cons] at hn
    have hx:∀ y∈l,y.1≠x.1 := fun y hy e=>hn.1 (List.mem_map.2 ⟨y,hy,e⟩)
    rcases List.mem_cons.1 ha with ha1 | ha1 <;> rcases List.mem_cons.1 hb with hb1 | hb1
    · rw [ha1,hb1]
    · exact absurd (he.symm.trans (by rw [ha1])) (hx b hb1)
    · exact absurd (he.trans (by rw [hb1])) (hx a ha1)
    · exact stamp_eq hn.2 ha1 hb1 he
theorem stamp_find {e:MEnt} {ents:List MEnt} (hn:(ents.map (·.1)).Nodup) (he:e∈ents):ents.find? (fun x=>x.1 == e.1)=some e := by
  cases hf:ents.find? (fun x=>x.1 == e.1) with
  | none=>exact absurd (List.find?_eq_none.1 hf e he) (by simp)
  | some x =>
    have h1 := List.mem_of_find?_eq_some hf
    have h2 := List.find?_some hf
    rw [stamp_eq hn h1 he (by simpa using h2)]
/-- The entry that was met last. -/
theorem entry_last {σ:St} {it mp clock:Nat} {S:List Nat} {ents:List MEnt} {e:MEnt} (hi:σ.mem.get it=some (.iter (some mp) clock (S++[e.1]) clock)) (hm:σ.mem.get mp=some (.map clock ents)) (hn:(ents.map (·.1)).Nodup) (he:e∈ents) :
    evalV σ (.entryM (.ptr it 0))=some (.tup [e.2.1,e.2.2],σ) := by
  have hf := stamp_find hn he
  simp [evalV,hi,hm,hf]
/-- All were met: each once. -/
theorem walked {V ents:List MEnt} (hn:(ents.map (·.1)).Nodup) (hv:(V.map (·.1)).Nodup) (hs:∀ e∈V,e∈ents) (ha:∀ e∈ents,e.1∈V.map (·.1)):V.Perm ents := by
  have nd:∀ {l:List MEnt},(l.map (·.1)).Nodup→l.Nodup := fun {l} h=>by
    induction l with
    | nil=>exact List.nodup_nil
    | cons x l ih =>
      simp only [List.map_cons,List.nodup_cons] at h ⊢
      exact ⟨fun hx=>h.1 (List.mem_map.2 ⟨x,hx,rfl⟩),ih h.2⟩
  refine (List.perm_ext_iff_of_nodup (nd hv) (nd hn)).2 fun e=>⟨hs e,fun he=>?_⟩
  obtain ⟨y,hy,hye⟩ := List.mem_map.1 (ha e he)
  rw [← stamp_eq hn (hs y hy) he hye]; exact hy
end Go.Proofs.YticefdfhcahlfaaGreatDoor.AM

/- Rows: slices whose elements take several cells each, in memory. -/
namespace Go.Proofs.YticefdfhcahlfaaGreatDoor.AM
open Go.RowKit
set_option linter.unusedVariables false
set_option linter.unusedSimpArgs false

/-- How an element is told in cells. -/
structure Rw (α:Type) (k:Nat) where
  a:α→List AVal
  la:∀ x,(a x).length=k
  one:∀ x,(a x).all AVal.one=true

section
variable {α:Type} {k:Nat} (R:Rw α k)
def rws (l:List α):List AVal := (l.map R.a).flatten
theorem rws_nil:rws R []=[] := rfl
theorem rws_cons (x:α) (l:List α):rws R (x :: l)=R.a x++rws R l := rfl
theorem rws_app (l m:List α):rws R (l++m)=rws R l++rws R m := by simp [rws]
theorem rws_one (x:α):rws R [x]=R.a x := by simp [rws]
theorem rws_len:∀ l:List α,(rws R l).length=l.length*k
  | []=>by simp [rws]
  | x :: l=>by rw [rws_cons,List.length_append,R.la,rws_len l,List.length_cons,Nat.succ_mul]; omega
theorem rws_take:∀ (l:List α) (n:Nat),(rws R l).take (n*k)=rws R (l.take n)
  | [],n=>by simp [rws]
  | x :: l,0=>by simp [rws]
  | x :: l,n+1=>by
    rw [rws_cons,List.take_succ_cons,rws_cons,← rws_take l n,Nat.succ_mul,Nat.add_comm (n*k) k,List.take_append,R.la,List.take_of_length_le (by rw [R.la]; omega)]
    congr 2
    omega
theorem rws_drop:∀ (l:List α) (n:Nat),(rws R l).drop (n*k)=rws R (l.drop n)
  | [],n=>by simp [rws]
  | x :: l,0=>by simp [rws]
  | x :: l,n+1=>by
    rw [rws_cons,List.drop_succ_cons,← rws_drop l n,Nat.succ_mul,Nat.add_comm (n*k) k,List.drop_append,R.la,List.drop_of_length_le (by rw [R.la]; omega),List.nil_append]
    congr 1
    omega
theorem rws_at {l:List α} {i:Nat} {x:α} (h:l[i]?=some x):((rws R l).drop (i*k)).take k=R.a x := by
  rw [rws_drop]
  obtain ⟨hi,he⟩ := List.getElem?_eq_some_iff.1 h
  rw [List.drop_eq_getElem_cons hi,he,rws_cons,List.take_append,R.la,List.take_of_length_le (by rw [R.la]; exact Nat.le_refl _)]
  simp
theorem rws_get {l:List α} {i:Nat} {x:α} (h:l[i]?=some x) {j:Nat} (hj:j<k):(rws R l)[i*k+j]?=(R.a x)[j]? := by
  have h1 := congrArg (·[j]?) (rws_at R h)
  simp only [List.getElem?_take,List.getElem?_drop] at h1
  rw [if_pos hj] at h1
  exact h1
theorem rws_set {y:α} {j:Nat} {v:AVal} (hj:j<k):∀ {l:List α} {i:Nat} {x:α},l[i]?=some x→R.a y=(R.a x).set j v→(rws R l).set (i*k+j) v=rws R (l.set i y)
  | [],i,x,h,_=>by simp at h
  | z :: l,0,x,h,e=>by
    simp at h; subst h
    rw [rws_cons,List.set_cons_zero,rws_cons,e,Nat.zero_mul,Nat.zero_add,List.set_append,if_pos (by rw [R.la]; exact hj)]
  | z :: l,i+1,x,h,e=>by
    have ih := rws_set hj (l := l) (i := i) (x := x) (by simpa using h) e
    rw [rws_cons,List.set_cons_succ,rws_cons,← ih,List.set_append,if_neg (by rw [R.la,Nat.succ_mul]; omega),R.la]
    congr 2
    rw [Nat.succ_mul]; omega
theorem rws_all:∀ l:List α,(rws R l).all AVal.one=true
  | []=>rfl
  | x :: l=>by rw [rws_cons,List.all_append,R.one,rws_all l]; rfl

/-- A slice of them in memory: block b. -/
def GS (σ:St) (v:AVal) (l:List α) (b:Option Nat):Prop := v=.nilsl∧l=[]∧b=none∨∃ o t,b=some o∧v=.sl o 0 l.length l.length t∧o<σ.next∧σ.mem.get o=some (.cells k (rws R l))
variable {R}
theorem GS.nil (σ:St):GS R σ .nilsl [] none := .inl ⟨rfl,rfl,rfl⟩
theorem GS.keep {σ σ':St} {v:AVal} {l:List α} {b:Option Nat} (h:GS R σ v l b) (hn:σ.next≤σ'.next) (hm:∀ a,a<σ.next→b=some a→σ'.mem.get a=σ.mem.get a):GS R σ' v l b := by
  rcases h with h | ⟨o,t,h1,h2,h3,h4⟩
  · exact .inl h
  · exact .inr ⟨o,t,h1,h2,by omega,(hm o h3 h1).trans h4⟩
theorem GS.lt {σ:St} {v:AVal} {l:List α} {b:Option Nat} (h:GS R σ v l b) {a:Nat} (ha:b=some a):a<σ.next := by
  rcases h with ⟨_,_,h0⟩ | ⟨o,t,h1,_,h3,_⟩
  · rw [h0] at ha; cases ha
  · rw [h1] at ha; cases ha; exact h3
theorem GS.len {σ:St} {v:AVal} {l:List α} {b:Option Nat} (h:GS R σ v l b) (ρ:St):evalV ρ (.len 1 v)=some (.int .i64 (l.length:Int),ρ) := by
  rcases h with ⟨rfl,rfl,_⟩ | ⟨o,t,_,rfl,_⟩ <;> simp
theorem GS.one {σ:St} {v:AVal} {l:List α} {b:Option Nat} (h:GS R σ v l b):v.one=true∧cellsOf v=[v] := by
  rcases h with ⟨rfl,_⟩ | ⟨o,t,_,rfl,_⟩ <;> simp
theorem GS.src {σ:St} {v:AVal} {l:List α} {b:Option Nat} (h:GS R σ v l b):srcL σ k v=some (rws R l,l.length) := by
  rcases h with ⟨rfl,rfl,_⟩ | ⟨o,t,_,rfl,_,h4⟩
  · rfl
  · simp [srcL,h4,rws_len,List.take_of_length_le]

theorem GS.idx {σ:St} {v:AVal} {l:List α} {b:Option Nat} (h:GS R σ v l b) {i:Nat} (hi:i<l.length):∃ o,b=some o∧o<σ.next∧σ.mem.get o=some (.cells k (rws R l))∧∀ ρ,evalV ρ (.idxAddr k v (.int .i64 (i:Int)))=some (.ptr o (i*k),ρ) := by
  rcases h with ⟨_,rfl,_⟩ | ⟨o,t,h1,rfl,h3,h4⟩
  · simp at hi
  · exact ⟨o,h1,h3,h4,fun ρ=>by simp [hi]⟩
/-- One more behind them. -/
theorem gs_app1 {σ:St} {v:AVal} {l:List α} {b:Option Nat} (h:GS R σ v l b) {nb by_:Nat} {t:Bool} {x:α} (hk:0<k) (hb:σ.mem.get nb=some (.cells k (R.a x))) (hnb:b≠some nb) (hl:(l.length+1)*by_≤140737488355328) (hl2:l.length<9223372036854775807) :
    ∃ σ',evalV σ (.append k by_ v (.sl nb 0 1 1 t))=some (.sl σ.next 0 (l.length+1) (l.length+1) false,σ')∧GS R σ' (.sl σ.next 0 (l.length+1) (l.length+1) false) (l++[x]) (some σ.next)∧σ'.next=σ.next+1∧∀ a,a<σ.next→b≠some a→σ'.mem.get a=σ.mem.get a := by
  have hk0:¬ k=0 := by omega
  have hla:(R.a x).length=k := R.la x
  have hsrc:srcL σ k (.sl nb 0 1 1 t)=some (R.a x,1) := by simp [srcL,hb,hla,List.take_of_length_le]
  rcases h with ⟨rfl,rfl,rfl⟩ | ⟨o,t',rfl,rfl,h3,h4⟩
  · simp at hl
    refine ⟨⟨σ.mem.set σ.next (.cells k (R.a x)),σ.next+1⟩,by simp only [evalV,hsrc]; simp [hk0,hl],.inr ⟨σ.next,false,rfl,by simp,by simp,by simp [rws]⟩,rfl,fun a ha _=>by simp [show ¬ a=σ.next by omega]⟩
  · have c1:¬ l.length+1≤l.length := by omega
    have c2:l.length*k≤(rws R l).length := by rw [rws_len]; exact Nat.le_refl _
    have c3:(rws R l).take (l.length*k)=rws R l := List.take_of_length_le (by rw [rws_len]; exact Nat.le_refl _)
    have c4:l.length≤9223372036854775806 := by omega
    cases t'
    · refine ⟨⟨(σ.mem.del o).set σ.next (.cells k (rws R l++R.a x)),σ.next+1⟩,by simp only [evalV,hsrc]; simp [hk0,h4,c1,c2,c3,c4,hl],.inr ⟨σ.next,false,rfl,by simp,by simp,by simp [rws_app,rws_one]⟩,rfl,fun a ha hne=>?_⟩
      have:¬ a=o := fun e=>hne (by rw [e])
      simp [show ¬ a=σ.next by omega,this]
    · refine ⟨⟨σ.mem.set σ.next (.cells k (rws R l++R.a x)),σ.next+1⟩,by simp only [evalV,hsrc]; simp [hk0,h4,c1,c2,c3,c4,hl],.inr ⟨σ.next,false,rfl,by simp,by simp,by simp [rws_app,rws_one]⟩,rfl,fun a ha hne=>?_⟩
      simp [show ¬ a=σ.next by omega]
/-- Others behind them. -/
theorem gs_appN {σ:St} {v:AVal} {l:List α} {b:Option Nat} (h:GS R σ v l b) {by_:Nat} {w:AVal} {m:List α} (hk:0<k) (hsrc:srcL σ k w=some (rws R m,m.length)) (hl:(l.length+m.length)*by_≤140737488355328) (hl2:l.length+m.length≤9223372036854775807) :
    ∃ v' σ' b',evalV σ (.append k by_ v w)=some (v',σ')∧GS R σ' v' (l++m) b'∧(b'=b∨b'=some σ.next)∧σ.next≤σ'.next∧∀ a,a<σ.next→b≠some a→σ'.mem.get a=σ.mem.get a := by
  have hk0:¬ k=0 := by omega
  rcases h with ⟨rfl,rfl,rfl⟩ | ⟨o,t',rfl,rfl,h3,h4⟩
  · cases m with
    | nil=>exact ⟨.nilsl,σ,none,by simp only [evalV,hsrc]; simp [hk0],.inl ⟨rfl,rfl,rfl⟩,.inl rfl,Nat.le_refl _,fun a _ _=>rfl⟩
    | cons x m =>
      simp at hl hl2
      exact ⟨.sl σ.next 0 (m.length+1) (m.length+1) false,⟨σ.mem.set σ.next (.cells k (rws R (x :: m))),σ.next+1⟩,some σ.next,by simp only [evalV,hsrc]; simp [hk0,hl,hl2],.inr ⟨σ.next,false,rfl,by simp,by simp,by simp⟩,.inr rfl,by simp,fun a ha _=>by simp [show ¬ a=σ.next by omega]⟩
  · have c2:l.length*k≤(rws R l).length := by rw [rws_len]; exact Nat.le_refl _
    have c3:(rws R l).take (l.length*k)=rws R l := List.take_of_length_le (by rw [rws_len]; exact Nat.le_refl _)
    cases m with
    | nil =>
      have e0:storeL (rws R l) (l.length*k) (rws R ([]:List α))=rws R l := by simp [rws_nil,storeL]
      refine ⟨.sl o 0 l.length l.length t',⟨σ.mem.set o (.cells k (rws R l)),σ.next⟩,some o,by simp only [evalV,hsrc]; simp [hk0,h4,c2,e0],.inr ⟨o,t',rfl,by simp,h3,by simp⟩,.inl rfl,Nat.le_refl _,fun a ha hne=>?_⟩
      by_cases e:a=o
      · exact absurd (by rw [e]) hne
      · simp [e]
    | cons x m =>
      have c1:¬ l.length+(m.length+1)≤l.length := by omega
      simp only [List.length_cons] at hl hl2 hsrc
      cases t'
      · refine ⟨.sl σ.next 0 (l.length+(m.length+1)) (l.length+(m.length+1)) false,⟨(σ.mem.del o).set σ.next (.cells k (rws R l++rws R (x :: m))),σ.next+1⟩,some σ.next,by simp only [evalV,hsrc]; simp [hk0,h4,c1,c2,c3,hl,hl2],.inr ⟨σ.next,false,rfl,by simp,by simp,by simp [rws_app]⟩,.inr rfl,by simp,fun a ha hne=>?_⟩
        have:¬ a=o := fun e=>hne (by rw [e])
        simp [show ¬ a=σ.next by omega,this]
      · refine ⟨.sl σ.next 0 (l.length+(m.length+1)) (l.length+(m.length+1)) false,⟨σ.mem.set σ.next (.cells k (rws R l++rws R (x :: m))),σ.next+1⟩,some σ.next,by simp only [evalV,hsrc]; simp [hk0,h4,c1,c2,c3,hl,hl2],.inr ⟨σ.next,false,rfl,by simp,by simp,by simp [rws_app]⟩,.inr rfl,by simp,fun a ha hne=>?_⟩
        simp [show ¬ a=σ.next by omega]
/-- What points to a slice: w its block, b the block of the elements. -/
def HB (R:Rw α k) (σ:St) (w:Nat) (l:List α) (b:Option Nat):Prop := ∃ v,σ.mem.get w=some (.cells 1 [v])∧GS R σ v l b∧b≠some w∧w<σ.next
theorem HB.keep {σ σ':St} {w:Nat} {l:List α} {b:Option Nat} (h:HB R σ w l b) (hn:σ.next≤σ'.next) (hm:∀ a,a<σ.next→a=w∨b=some a→σ'.mem.get a=σ.mem.get a):HB R σ' w l b := by
  obtain ⟨v,h1,h2,h3,h4⟩ := h
  exact ⟨v,(hm w h4 (.inl rfl)).trans h1,h2.keep hn fun a ha hb=>hm a ha (.inr hb),h3,by omega⟩
/-- Two parts of a slice. -/
def partA (v:AVal) (i:Nat):AVal := match v with
  | .sl o _ _ _ _=>.sl o 0 i i true
  | _=>.nilsl
def partB (k:Nat) (v:AVal) (i:Nat):AVal := match v with
  | .sl o _ n _ t=>.sl o (i*k) (n - i) (n - i) t
  | _=>.nilsl
theorem gs_parts {ρ:St} {v:AVal} {l:List α} {b:Option Nat} (h:GS R ρ v l b) (hk:0<k) {i:Nat} (hat:i≤l.length) :
    evalV ρ (.slice k v none (some (.int .i64 (i:Int))) (some (.int .i64 (i:Int))))=some (partA v i,ρ)∧evalV ρ (.slice k v (some (.int .i64 (i:Int))) none none)=some (partB k v i,ρ) := by
  have hk0:¬ k=0 := by omega
  rcases h with ⟨rfl,rfl,_⟩ | ⟨o,t,rfl,rfl,h3,h4⟩
  · simp at hat; subst hat
    exact ⟨by simp [hk0,asliceSl,bnd,partA],by simp [hk0,asliceSl,bnd,partB]⟩
  · exact ⟨by simp [hk0,h4,asliceSl,bnd,hat,partA],by simp [hk0,h4,asliceSl,bnd,hat,partB]⟩
/-- One put between the parts. -/
theorem gs_ins {σ:St} {v:AVal} {l:List α} {b:Option Nat} (h:GS R σ v l b) (hk:0<k) {at':Nat} (hat:at'≤l.length)
    {nx by_:Nat} {x:α} (hx:σ.mem.get nx=some (.cells k (R.a x))) (hnx:nx<σ.next) (hb:b≠some nx) (hl:(l.length+1)*by_≤140737488355328) (hl2:l.length≤1000000000) :
    ∃ v1 σ1 v2 σ2 y,evalV σ (.append k by_ (.sl nx 0 1 1 true) (partB k v at'))=some (v1,σ1)∧evalV σ1 (.append k by_ (partA v at') v1)=some (v2,σ2)∧GS R σ2 v2 (l.take at'++x :: l.drop at') (some y)∧σ.next≤y∧σ.next≤σ2.next∧σ.next≤σ1.next∧(∀ a,a<σ.next→σ1.mem.get a=σ.mem.get a)∧(∀ a,a<σ.next→σ2.mem.get a=σ.mem.get a) := by
  have hk0:¬ k=0 := by omega
  have hg1:GS R σ (.sl nx 0 1 1 true) [x] (some nx) := .inr ⟨nx,true,rfl,rfl,hnx,by rw [rws_one]; exact hx⟩
  have hset:∀ c,(σ.mem.set nx (.cells k (R.a x))).get c=σ.mem.get c := fun c=>by
    by_cases e:c=nx
    · subst e; simp [hx]
    · simp [e]
  have hs:v=.nilsl∨∃ o t,b=some o∧v=.sl o 0 l.length l.length t := by
    rcases h with ⟨h1,_⟩ | ⟨o,t,h1,h2,_⟩
    · exact .inl h1
    · exact .inr ⟨o,t,h1,h2⟩
  rcases hs with rfl | ⟨o,t,rfl,rfl⟩
  · rcases h with ⟨_,rfl,_⟩ | ⟨_,_,_,e,_⟩
    · simp at hat hl; subst hat
      simp only [partA,partB]
      have hxl := R.la x
      have e0:storeL (R.a x) k []=R.a x := by simp [storeL]
      refine ⟨.sl nx 0 1 1 true,⟨σ.mem.set nx (.cells k (R.a x)),σ.next⟩,.sl σ.next 0 1 1 false,⟨(σ.mem.set nx (.cells k (R.a x))).set σ.next (.cells k (R.a x)),σ.next+1⟩,σ.next,by simp [srcL,hk0,hx,hxl,e0],by simp [srcL,hk0,hxl,hl,List.take_of_length_le],.inr ⟨σ.next,false,rfl,rfl,by simp,by simp [rws_one]⟩,Nat.le_refl _,by simp,Nat.le_refl _,fun a _=>hset a,fun a ha=>by rw [← hset a]; simp only [Mem.get_set,if_neg (show ¬ a=σ.next by omega)]⟩
    · cases e
  · simp only [partA,partB]
    obtain ⟨_,_,e5⟩:o<σ.next∧True∧σ.mem.get o=some (.cells k (rws R l)) := by
      rcases h with ⟨e,_⟩ | ⟨o',t',e1,e2,h3,h4⟩
      · cases e
      · cases e1; exact ⟨h3,trivial,h4⟩
    have hnl:(rws R l).length=l.length*k := rws_len R l
    have hle:at'*k+(l.length - at')*k=l.length*k := by rw [← Nat.add_mul]; congr 1; omega
    have hsrc2:srcL σ k (.sl o (at'*k) (l.length - at') (l.length - at') t)=some (rws R (l.drop at'),(l.drop at').length) := by
      simp only [srcL,e5,hnl,hle,Nat.le_refl,if_true,List.length_drop]
      rw [rws_drop,List.take_of_length_le (by rw [rws_len,List.length_drop]; exact Nat.le_refl _)]
    have hon:o≠nx := fun e=>hb (by rw [e])
    have p2:(1+(l.drop at').length)*by_≤(l.length+1)*by_ := Nat.mul_le_mul_right _ (by rw [List.length_drop]; omega)
    -- the first append: over nx, its block stays as it is
    have first:∃ v1 σ1,evalV σ (.append k by_ (.sl nx 0 1 1 true) (.sl o (at'*k) (l.length - at') (l.length - at') t))=some (v1,σ1)∧srcL σ1 k v1=some (rws R (x :: l.drop at'),(l.drop at').length+1)∧σ.next≤σ1.next∧∀ a,a<σ.next→σ1.mem.get a=σ.mem.get a := by
      have hxl := R.la x
      by_cases hd:(l.drop at').length=0
      · have hd':l.drop at'=[] := List.eq_nil_of_length_eq_zero hd
        have e0:storeL (R.a x) k []=R.a x := by simp [storeL]
        rw [hd'] at hsrc2
        refine ⟨.sl nx 0 1 1 true,⟨σ.mem.set nx (.cells k (R.a x)),σ.next⟩,by simp only [evalV,hsrc2]; simp [hk0,hx,hxl,rws_nil,e0],by simp [srcL,hxl,hd',rws_one,List.take_of_length_le],Nat.le_refl _,fun a _=>hset a⟩
      · have c1:¬ 1+(l.drop at').length≤1 := by omega
        have c2:(1+(l.drop at').length)*by_≤140737488355328 := Nat.le_trans p2 hl
        have c3:(l.drop at').length≤9223372036854775806 := by rw [List.length_drop]; omega
        have c4:¬ (l.drop at').length=0 := hd
        have c5:1+(l.drop at').length≤9223372036854775807 := by omega
        refine ⟨.sl σ.next 0 (1+(l.drop at').length) (1+(l.drop at').length) false,⟨σ.mem.set σ.next (.cells k (R.a x++rws R (l.drop at'))),σ.next+1⟩,?_,?_,by simp,fun a ha=>by simp [show ¬ a=σ.next by omega]⟩
        · simp only [evalV,hsrc2]
          simp only [hk0,if_false,Option.bind_some,hx,if_true,if_neg c1,Nat.one_mul,Nat.zero_add,hxl,Nat.le_refl,c2,c5,and_self,List.drop_zero]
          rw [List.take_of_length_le (by rw [hxl]; exact Nat.le_refl _)]
        · have c6:(R.a x++rws R (l.drop at')).length=(1+(l.drop at').length)*k := by
            rw [List.length_append,hxl,rws_len,Nat.add_mul,Nat.one_mul]
          simp only [srcL,Mem.get_set_self,Nat.zero_add,c6,Nat.le_refl,if_true,List.drop_zero]
          rw [List.take_of_length_le (by rw [c6]; exact Nat.le_refl _),rws_cons,Nat.add_comm 1]
    obtain ⟨v1,σ1,f1,f2,f3,f4⟩ := first
    have m1 := (f4 o (by omega)).trans e5
    have hll:(l.drop at').length=l.length - at' := List.length_drop
    have c1:¬ at'+((l.drop at').length+1)≤at' := by omega
    have c2:(at'+((l.drop at').length+1))*by_≤140737488355328 := by
      rw [show at'+((l.drop at').length+1)=l.length+1 by omega]; exact hl
    have c3:at'+((l.drop at').length+1)≤9223372036854775807 := by omega
    have c4:at'*k≤(rws R l).length := by rw [hnl]; exact Nat.mul_le_mul_right _ hat
    refine ⟨v1,σ1,.sl σ1.next 0 (at'+((l.drop at').length+1)) (at'+((l.drop at').length+1)) false,⟨σ1.mem.set σ1.next (.cells k ((rws R l).take (at'*k)++rws R (x :: l.drop at'))),σ1.next+1⟩,σ1.next,f1,?_,.inr ⟨σ1.next,false,rfl,?_,by simp,?_⟩,f3,by simp; omega,f3,f4,fun a ha=>by simp only [Mem.get_set,if_neg (show ¬ a=σ1.next by omega)]; exact f4 a ha⟩
    · simp only [evalV,f2]
      simp only [hk0,if_false,Option.bind_some,m1,if_true,if_neg c1,Nat.zero_add,c4,c2,c3,and_self,List.drop_zero]
    · simp [Nat.min_eq_left hat]
    · simp only [Mem.get_set_self]
      rw [rws_take,← rws_app]
end

/-- From one time to a later one: but for w and b all is as it was. -/
structure WStp (w:Nat) (b b':Option Nat) (σ σ':St):Prop where
  next:σ.next≤σ'.next
  own:∀ x,b'=some x→b=some x∨σ.next≤x
  keep:∀ a,a<σ.next→a≠w→b≠some a→σ'.mem.get a=σ.mem.get a
theorem WStp.refl (w:Nat) (b:Option Nat) (σ:St):WStp w b b σ σ := ⟨Nat.le_refl _,fun _ h=>.inl h,fun _ _ _ _=>rfl⟩
theorem WStp.trans {w:Nat} {b b1 b2:Option Nat} {σ σ1 σ2:St} (h:WStp w b b1 σ σ1) (k:WStp w b1 b2 σ1 σ2):WStp w b b2 σ σ2 :=
  ⟨Nat.le_trans h.next k.next,fun x hx=>by
    rcases k.own x hx with hx | hx
    · exact h.own x hx
    · exact .inr (Nat.le_trans h.next hx),fun a ha hw hb=>(k.keep a (Nat.lt_of_lt_of_le ha h.next) hw (fun e=>by
      rcases h.own a e with e | e
      · exact hb e
      · omega)).trans (h.keep a ha hw hb)⟩
/-- From one time to a later one: but for b all is as it was. -/
structure BStp (b b':Option Nat) (σ σ':St):Prop where
  next:σ.next≤σ'.next
  own:∀ x,b'=some x→b=some x∨σ.next≤x
  keep:∀ a,a<σ.next→b≠some a→σ'.mem.get a=σ.mem.get a
theorem BStp.refl (b:Option Nat) (σ:St):BStp b b σ σ := ⟨Nat.le_refl _,fun _ h=>.inl h,fun _ _ _=>rfl⟩
theorem BStp.trans {b b1 b2:Option Nat} {σ σ1 σ2:St} (h:BStp b b1 σ σ1) (k:BStp b1 b2 σ1 σ2):BStp b b2 σ σ2 :=
  ⟨Nat.le_trans h.next k.next,fun x hx=>by
    rcases k.own x hx with hx | hx
    · exact h.own x hx
    · exact .inr (Nat.le_trans h.next hx),fun a ha hb=>(k.keep a (Nat.lt_of_lt_of_le ha h.next) (fun e=>by
      rcases h.own a e with e | e
      · exact hb e
      · omega)).trans (h.keep a ha hb)⟩

/-- Bytes. -/
def rwB:Rw UInt8 1 := ⟨fun b=>[.int .u8 (b.toNat:Int)],fun _=>rfl,fun _=>rfl⟩
theorem rwsB:∀ l:List UInt8,rws rwB l=bytesV l
  | []=>rfl
  | x :: l=>by rw [rws_cons,rwsB l]; rfl
theorem BytesOf.src {d:AVal} {l:List UInt8} (h:BytesOf d l) (σ:St):srcL σ 1 d=some (rws rwB l,l.length) := by
  rcases h with ⟨rfl,rfl⟩ | ⟨t,rfl⟩
  · rfl
  · simp [srcL,bytesV_len,rwsB]
theorem GS.bytesStr {σ:St} {v:AVal} {l:List UInt8} {b:Option Nat} (h:GS rwB σ v l b):evalV σ (.bytesStr v)=some (.str ⟨l.toArray⟩,σ) := by
  have hs := h.src
  have hb := bytesV_bytes l
  rcases h with ⟨rfl,rfl,_⟩ | ⟨o,t,_,rfl,_⟩
  · rfl
  · simp only [evalV,hs,Option.bind_some,rwsB,hb,Option.map_some]
/-- Numbers as bytes, the greatest first. -/
def beN:Nat→Nat→List UInt8
  | 0,_=>[]
  | k+1,n=>UInt8.ofNat (n / 256 ^ k) :: beN k n
theorem beN_len:∀ k n,(beN k n).length=k
  | 0,_=>rfl
  | k+1,n=>by simp [beN,beN_len k n]
/-- Code cut in two: what stands between. -/
theorem wp_cutE {P:Env} {a b:ACode} {Q:Post} {r:Regs} {σ:St} (M:Regs→St→Prop) (h:a.wp P (fun e r σ=>e=.normal∧M r σ) r σ) (hq:∀ r σ,M r σ→b.wp P Q r σ):ACode.wp P (.seq a b) Q r σ := by
  simp only [ACode.wp]
  refine wp_mono' h ?_
  rintro e r σ ⟨rfl,hm⟩
  exact hq r σ hm
theorem wp_cutKE {P:Env} {a:ACode} {Q:Post} {r:Regs} {σ:St} (M:Regs→St→Prop) (h:a.wp P (fun e r σ=>e=.normal∧M r σ) r σ) (hq:∀ r σ,M r σ→Q .normal r σ):ACode.wp P a Q r σ := by
  refine wp_mono' h ?_
  rintro e r σ ⟨rfl,hm⟩
  exact hq r σ hm
end Go.Proofs.YticefdfhcahlfaaGreatDoor.AM

/- Bytes that are read: unchanging, or in a block that stays as it is; words and bits. -/
namespace Go.Proofs.YticefdfhcahlfaaGreatDoor.AM
open Go.RowKit
set_option linter.unusedVariables false
set_option linter.unusedSimpArgs false

def RdB (σ:St) (v:AVal) (l:List UInt8) (c:Option Nat):Prop := (BytesOf v l∧c=none)∨∃ o off cap t vals,c=some o∧v=.sl o off l.length cap t∧l.length≤cap∧o<σ.next∧σ.mem.get o=some (.cells 1 vals)∧off+l.length≤vals.length∧(vals.drop off).take l.length=bytesV l
section
variable {σ σ':St} {v:AVal} {l:List UInt8} {c:Option Nat}
theorem RdB.keep (h:RdB σ v l c) (hn:σ.next≤σ'.next) (hm:∀ a,a<σ.next→c=some a→σ'.mem.get a=σ.mem.get a):RdB σ' v l c := by
  rcases h with h | ⟨o,off,cap,t,vals,h1,h2,h3,h4,h5,h6,h7⟩
  · exact .inl h
  · exact .inr ⟨o,off,cap,t,vals,h1,h2,h3,by omega,(hm o h4 h1).trans h5,h6,h7⟩
theorem RdB.lt (h:RdB σ v l c) {a:Nat} (ha:c=some a):a<σ.next := by
  rcases h with ⟨_,h⟩ | ⟨o,_,_,_,_,h1,_,_,h4,_⟩
  · rw [h] at ha; cases ha
  · rw [h1] at ha; cases ha; exact h4
theorem RdB.ofI (h:BytesOf v l) (σ:St):RdB σ v l none := .inl ⟨h,rfl⟩
theorem RdB.ofGS {b:Option Nat} (h:GS rwB σ v l b):RdB σ v l b := by
  rcases h with ⟨h1,h2,h3⟩ | ⟨o,t,h1,h2,h3,h4⟩
  · exact .inl ⟨.inl ⟨h1,h2⟩,h3⟩
  · exact .inr ⟨o,0,_,t,_,h1,h2,Nat.le_refl _,h3,h4,by rw [rws_len]; omega,by rw [List.drop_zero,rwsB,List.take_of_length_le (by rw [bytesV_len]; exact Nat.le_refl _)]⟩
theorem RdB.len (h:RdB σ v l c) (ρ:St):evalV ρ (.len 1 v)=some (.int .i64 (l.length:Int),ρ) := by
  rcases h with ⟨h,_⟩ | ⟨o,off,cap,t,vals,_,rfl,_⟩
  · exact h.len ρ
  · simp
theorem RdB.one (h:RdB σ v l c):v.one=true∧cellsOf v=[v] := by
  rcases h with ⟨h,_⟩ | ⟨o,off,cap,t,vals,_,rfl,_⟩
  · exact h.one
  · simp
theorem RdB.src (h:RdB σ v l c):srcL σ 1 v=some (rws rwB l,l.length) := by
  rcases h with ⟨h,_⟩ | ⟨o,off,cap,t,vals,_,rfl,h3,h4,h5,h6,h7⟩
  · exact h.src σ
  · simp [srcL,h5,h6,h7,rwsB]
theorem RdB.str (h:RdB σ v l c):evalV σ (.bytesStr v)=some (.str ⟨l.toArray⟩,σ) := by
  have hs := h.src
  have hb := bytesV_bytes l
  rcases h with ⟨h,_⟩ | ⟨o,off,cap,t,vals,_,rfl,_⟩
  · exact h.str σ
  · simp only [evalV,hs,Option.bind_some,rwsB,hb,Option.map_some]
theorem RdB.at (h:RdB σ v l c) {i:Nat} {x:UInt8} (hx:l[i]?=some x) {z:Int} (hz:z=(i:Int)):∃ p,(∀ ρ,evalV ρ (.idxAddr 1 v (.int .i64 z))=some (p,ρ))∧∀ ρ:St,(∀ a,c=some a→ρ.mem.get a=σ.mem.get a)→evalV ρ (.ld1 p)=some (.int .u8 (x.toNat:Int),ρ) := by
  subst hz
  have hi := (List.getElem?_eq_some_iff.1 hx).1
  rcases h with ⟨⟨rfl,rfl⟩ | ⟨t,rfl⟩,_⟩ | ⟨o,off,cap,t,vals,rfl,rfl,h3,h4,h5,h6,h7⟩
  · simp at hx
  · refine ⟨_,fun ρ=>by simp [hi]; rfl,fun ρ _=>?_⟩
    simp [bytesV,hx]
  · refine ⟨_,fun ρ=>by simp [hi]; rfl,fun ρ hρ=>?_⟩
    have h8 := congrArg (·[i]?) h7
    simp only [List.getElem?_take,if_pos hi,List.getElem?_drop] at h8
    have h9:(bytesV l)[i]?=some (.int .u8 (x.toNat:Int)) := by simp [bytesV,hx]
    rw [h9] at h8
    simp [hρ o rfl,h5,h8]
theorem RdB.cut (h:RdB σ v l c) {n:Nat} (hn:n≤l.length) (k:IntKind) {z:Int} (hz:z=(n:Int)):∃ v',(∀ ρ:St,(∀ a,c=some a→ρ.mem.get a=σ.mem.get a)→evalV ρ (.slice 1 v (some (.int k z)) none none)=some (v',ρ))∧RdB σ v' (l.drop n) c := by
  subst hz
  rcases h with ⟨⟨rfl,rfl⟩ | ⟨t,rfl⟩,rfl⟩ | ⟨o,off,cap,t,vals,rfl,rfl,h3,h4,h5,h6,h7⟩
  · simp at hn; subst hn
    exact ⟨.nilsl,fun ρ _=>by simp [asliceSl,bnd],.inl ⟨.inl ⟨rfl,by simp⟩,rfl⟩⟩
  · refine ⟨_,fun ρ _=>by simp [asliceSl,bnd,hn]; rfl,.inl ⟨.inr ⟨t,?_⟩,rfl⟩⟩
    simp [bytesV,List.map_drop]
    rw [List.take_of_length_le]; simp
  · refine ⟨_,fun ρ hρ=>by simp [hρ o rfl,h5,asliceSl,bnd,hn,h3]; rfl,.inr ⟨o,off+n,cap - n,t,vals,rfl,by simp,by simp; omega,h4,h5,by simp; omega,?_⟩⟩
    have h8 := congrArg (List.drop n) h7
    rw [List.drop_take,List.drop_drop] at h8
    rw [List.length_drop,h8]; simp [bytesV,List.map_drop]
theorem RdB.pre (h:RdB σ v l c) {n:Nat} (hn:n≤l.length) (k:IntKind) {z:Int} (hz:z=(n:Int)):∃ v',(∀ ρ:St,(∀ a,c=some a→ρ.mem.get a=σ.mem.get a)→evalV ρ (.slice 1 v none (some (.int k z)) none)=some (v',ρ))∧RdB σ v' (l.take n) c := by
  subst hz
  rcases h with ⟨⟨rfl,rfl⟩ | ⟨t,rfl⟩,rfl⟩ | ⟨o,off,cap,t,vals,rfl,rfl,h3,h4,h5,h6,h7⟩
  · simp at hn; subst hn
    exact ⟨.nilsl,fun ρ _=>by simp [asliceSl,bnd],.inl ⟨.inl ⟨rfl,by simp⟩,rfl⟩⟩
  · refine ⟨_,fun ρ _=>by simp [asliceSl,bnd,hn]; rfl,.inl ⟨.inr ⟨t && n == l.length,?_⟩,rfl⟩⟩
    simp [bytesV,List.map_take,Nat.min_eq_left hn]
  · have hc:n≤cap := by omega
    refine ⟨_,fun ρ hρ=>by simp [hρ o rfl,h5,asliceSl,bnd,hc]; rfl,.inr ⟨o,off,cap,t,vals,rfl,by simp [Nat.min_eq_left hn],by simp; omega,h4,h5,by simp; omega,?_⟩⟩
    have h8 := congrArg (List.take n) h7
    rw [List.take_take,Nat.min_eq_left hn] at h8
    rw [List.length_take,Nat.min_eq_left hn,h8,bytesV,bytesV,List.map_take]
theorem RdB.full (h:RdB σ v l c):∃ v',evalV σ (.slice 1 v none (some (.int .i64 (l.length:Int))) (some (.int .i64 (l.length:Int))))=some (v',σ)∧RdB σ v' l c := by
  rcases h with ⟨⟨rfl,rfl⟩ | ⟨t,rfl⟩,rfl⟩ | ⟨o,off,cap,t,vals,rfl,rfl,h3,h4,h5,h6,h7⟩
  · exact ⟨.nilsl,by simp [asliceSl,bnd],.inl ⟨.inl ⟨rfl,rfl⟩,rfl⟩⟩
  · refine ⟨_,by simp [asliceSl,bnd]; rfl,.inl ⟨.inr ⟨true,?_⟩,rfl⟩⟩
    rw [List.take_of_length_le (by rw [bytesV_len]; exact Nat.le_refl _)]
  · exact ⟨_,by simp [h5,asliceSl,bnd,h3],.inr ⟨o,off,_,true,vals,rfl,rfl,Nat.le_refl _,h4,h5,h6,h7⟩⟩
end

/-! ### Words -/
theorem or64 {a b:Nat} (ha:a<18446744073709551616) (hb:b<18446744073709551616):abits .or .u64 (a:Int) (b:Int)=some (.int .u64 ((a ||| b:Nat):Int)) := by
  have h2:((BitVec.ofInt IntKind.u64.bits (a:Int)) ||| (BitVec.ofInt IntKind.u64.bits (b:Int))).toNat=a ||| b := by
    have e:IntKind.u64.bits=64 := rfl
    rw [e]
    simp only [BitVec.ofInt_natCast,BitVec.toNat_or,BitVec.toNat_ofNat]
    rw [Nat.mod_eq_of_lt ha,Nat.mod_eq_of_lt hb]
  have h3:a ||| b<18446744073709551616 := Nat.or_lt_two_pow (n := 64) ha hb
  simp only [abits,h2]
  rw [IntWalk.u64_in] <;> omega
theorem and64 {a b:Nat} (ha:a<18446744073709551616) (hb:b<18446744073709551616):abits .and .u64 (a:Int) (b:Int)=some (.int .u64 ((a &&& b:Nat):Int)) := by
  have h2:((BitVec.ofInt IntKind.u64.bits (a:Int)) &&& (BitVec.ofInt IntKind.u64.bits (b:Int))).toNat=a &&& b := by
    have e:IntKind.u64.bits=64 := rfl
    rw [e]
    simp only [BitVec.ofInt_natCast,BitVec.toNat_and,BitVec.toNat_ofNat]
    rw [Nat.mod_eq_of_lt ha,Nat.mod_eq_of_lt hb]
  have h3:a &&& b<18446744073709551616 := Nat.and_lt_two_pow (n := 64) a hb
  simp only [abits,h2]
  rw [IntWalk.u64_in] <;> omega
theorem and8 {a b:Nat} (ha:a<256) (hb:b<256):abits .and .u8 (a:Int) (b:Int)=some (.int .u8 ((a &&& b:Nat):Int)) := by
  have h2:((BitVec.ofInt IntKind.u8.bits (a:Int)) &&& (BitVec.ofInt IntKind.u8.bits (b:Int))).toNat=a &&& b := by
    have e:IntKind.u8.bits=8 := rfl
    rw [e]
    simp only [BitVec.ofInt_natCast,BitVec.toNat_and,BitVec.toNat_ofNat]
    rw [Nat.mod_eq_of_lt ha,Nat.mod_eq_of_lt hb]
  have h3:a &&& b<256 := Nat.and_lt_two_pow (n := 8) a hb
  simp only [abits,h2]
  rw [IntWalk.u8_in]; omega
theorem shl64 {a s:Nat} (ha:a<256) (hs:s≤56):ashift .shl .u64 (a:Int) (s:Int)=some (.int .u64 ((a <<< s:Nat):Int)) := by
  have h1:¬ ((s:Int)<0) := by omega
  have h2:min (s:Int).toNat (IntKind.bits .u64)=s := by
    have:IntKind.bits .u64=64 := rfl
    rw [this,Int.toNat_natCast]; omega
  have h3:a <<< s<18446744073709551616 := by
    rw [Nat.shiftLeft_eq]
    have h4:(2:Nat) ^ s≤2 ^ 56 := Nat.pow_le_pow_right (by omega) hs
    have h5:a*2 ^ s≤255*2 ^ 56 := Nat.mul_le_mul (by omega) h4
    have:255*2 ^ 56<18446744073709551616 := by decide
    omega
  simp only [ashift,if_neg h1,h2]
  have h6:(a:Int)*2 ^ s=((a <<< s:Nat):Int) := by rw [Nat.shiftLeft_eq]; simp
  rw [h6]
  generalize a <<< s=y at h3
  rw [IntWalk.u64_in] <;> omega
/-- Eight bytes as one number. -/
def wordN (a b c d e f g h:Nat):Nat := ((((((a ||| b <<< 8) ||| c <<< 16) ||| d <<< 24) ||| e <<< 32) ||| f <<< 40) ||| g <<< 48) ||| h <<< 56
def hiM:Nat := 9259542123273814144
theorem hi_or {a b:Nat} (h:(a ||| b) &&& hiM=0):a &&& hiM=0∧b &&& hiM=0 := by
  rw [Nat.and_or_distrib_right] at h
  exact Nat.or_eq_zero_iff.1 h
theorem hi_sh {x:Nat} (hx:x<256) (i:Nat) (hi:i<8) (h:(x <<< (8*i)) &&& hiM=0):x<128 := by
  have h1 := congrArg (·.testBit (8*i+7)) h
  simp only [Nat.testBit_and,Nat.testBit_shiftLeft,Nat.zero_testBit] at h1
  have h2:hiM.testBit (8*i+7)=true := by
    rcases (by omega:i=0∨i=1∨i=2∨i=3∨i=4∨i=5∨i=6∨i=7) with rfl | rfl | rfl | rfl | rfl | rfl | rfl | rfl <;> decide
  rw [h2] at h1
  have h3:8*i+7 - 8*i=7 := by omega
  simp [h3] at h1
  rw [Nat.testBit_eq_decide_div_mod_eq] at h1
  simp at h1
  omega
theorem word_hi {a b c d e f g h:Nat} (ha:a<256) (hb:b<256) (hc:c<256) (hd:d<256) (he:e<256) (hf:f<256) (hg:g<256) (hh:h<256) (hw:wordN a b c d e f g h &&& hiM=0):a<128∧b<128∧c<128∧d<128∧e<128∧f<128∧g<128∧h<128 := by
  unfold wordN at hw
  obtain ⟨hw,k7⟩ := hi_or hw
  obtain ⟨hw,k6⟩ := hi_or hw
  obtain ⟨hw,k5⟩ := hi_or hw
  obtain ⟨hw,k4⟩ := hi_or hw
  obtain ⟨hw,k3⟩ := hi_or hw
  obtain ⟨hw,k2⟩ := hi_or hw
  obtain ⟨hw,k1⟩ := hi_or hw
  exact ⟨hi_sh ha 0 (by omega) (by simpa using hw),hi_sh hb 1 (by omega) k1,hi_sh hc 2 (by omega) k2,hi_sh hd 3 (by omega) k3,hi_sh he 4 (by omega) k4,hi_sh hf 5 (by omega) k5,hi_sh hg 6 (by omega) k6,hi_sh hh 7 (by omega) k7⟩
end Go.Proofs.YticefdfhcahlfaaGreatDoor.AM

/- The abstract machine: slices.SortFunc over rows of flat cells: by the kit's contract. -/
namespace Go.Proofs.YticefdfhcahlfaaGreatDoor.AM
open Go.RowKit Go.Shelf
open Go.Sort hiding Below ahead
set_option linter.unusedVariables false
set_option linter.unusedSimpArgs false

/-- Elements as rows of k cells without memory. -/
structure RowOf (α : Type) (k : Nat) where
  a : α → List AVal
  c : α → List Value
  la : ∀ x, (a x).length = k
  lc : ∀ x, (c x).length = k
  rel : ∀ (x : α) (i : Nat) (v : AVal) (u : Value), (a x)[i]? = some v → (c x)[i]? = some u → ∀ (ρ : Rho) (I : Imm) (u' : Value), VRel ρ I v u' ↔ u' = u
  one : ∀ x, (a x).all AVal.one = true
  onec : ∀ x, ∀ v ∈ c x, v.oneCell' = true

section
variable {α : Type} {k : Nat}
def rowsA (R : RowOf α k) (l : List α) : List AVal := (l.map R.a).flatten
theorem rowsA_len (R : RowOf α k) : ∀ l : List α, (rowsA R l).length = l.length * k
  | [] => by simp [rowsA]
  | x :: l => by
    have := rowsA_len R l
    simp only [rowsA, List.map_cons, List.flatten_cons, List.length_append, R.la, List.length_cons] at this ⊢
    rw [this, Nat.add_mul, Nat.one_mul, Nat.add_comm]
theorem rowsA_get (R : RowOf α k) (hk : 0 < k) : ∀ (l : List α) (t : Nat), t < l.length * k → ∃ x, l[t / k]? = some x ∧ (rowsA R l)[t]? = (R.a x)[t % k]?
  | [], t, h => by simp at h
  | x :: l, t, h => by
    by_cases ht : t < k
    · refine ⟨x, by rw [Nat.div_eq_of_lt ht]; rfl, ?_⟩
      simp only [rowsA, List.map_cons, List.flatten_cons]
      rw [List.getElem?_append_left (by rw [R.la]; exact ht), Nat.mod_eq_of_lt ht]
    · have h' : t - k < l.length * k := by simp only [List.length_cons, Nat.add_mul, Nat.one_mul] at h; omega
      obtain ⟨y, h1, h2⟩ := rowsA_get R hk l (t - k) h'
      have e : t = (t - k) + k := by omega
      refine ⟨y, ?_, ?_⟩
      · rw [e, Nat.add_div_right _ hk]; simpa using h1
      · simp only [rowsA, List.map_cons, List.flatten_cons] at h2 ⊢
        rw [List.getElem?_append_right (by rw [R.la]; omega), R.la, h2]
        congr 1
        conv => rhs; rw [e]
        rw [Nat.add_mod_right]
theorem rowsA_one (R : RowOf α k) (l : List α) : (rowsA R l).all AVal.one = true := by
  rw [List.all_eq_true]
  intro v hv
  simp only [rowsA, List.mem_flatten, List.mem_map] at hv
  obtain ⟨_, ⟨x, _, rfl⟩, h⟩ := hv
  exact List.all_eq_true.1 (R.one x) v h

/-- What is laid behind a world, exactly. -/
theorem grown_of {W w' : World} {adm : Nat → Prop} {ds : List Deferred} {mk : Nat → Prop} (h : Low W.heap.size ⟨W, adm, ds, mk⟩ w') : ∃ q os', w' = grow (W.drewN q) os' := by
  refine ⟨w'.drawn - W.drawn, w'.heap.extract W.heap.size w'.heap.size, ?_⟩
  have hb := h.below
  have hd : W.drawn ≤ w'.drawn := h.drawn
  have hh : w'.heap = W.heap ++ w'.heap.extract W.heap.size w'.heap.size := by
    apply Array.ext_getElem?
    intro i
    have hs : W.heap.size ≤ w'.heap.size := hb.size
    by_cases hi : i < W.heap.size
    · rw [Array.getElem?_append_left hi]; exact hb.block i hi
    · rw [Array.getElem?_append_right (by omega)]
      by_cases hj : i < w'.heap.size
      · rw [Array.getElem?_extract, if_pos (by omega)]
        congr 1; omega
      · have h1 : w'.heap[i]? = none := Array.getElem?_eq_none (by omega)
        have h2 : (w'.heap.extract W.heap.size w'.heap.size)[i - W.heap.size]? = none := Array.getElem?_eq_none (by simp; omega)
        rw [h1, h2]
  have e1 : w'.os = W.os := hb.os
  have e2 : w'.tape = W.tape := hb.tape
  have e3 : w'.output = W.output := hb.output
  cases w'
  simp only at hh e1 e2 e3 hd
  simp only [grow, World.drewN]
  congr 1
  omega

variable [Inhabited α]

theorem empty_of {I : Imm} {W : World} (hI : ∀ b c, I b = some c → ∃ e fr, W.heap[b]? = some (.cells c e fr)) (hG : GOk I) : Rel W.heap.size ⟨W, fun b => (I b).isSome, [], fun _ => False⟩ ρ0 I σ0 W where
  low := ⟨Below.refl _ _, fun b h => h.elim, Nat.le_refl _⟩
  base := Nat.le_refl _
  blk a p b h := by cases h
  inj a a' p p' b b' h := by cases h
  imm' := ⟨hI, hG⟩
  sep a p b h := by cases h
  new a p b h := by cases h
  lt a p h := by cases h
  dom a _ := rfl
  memdom a _ := rfl
  ilow b c h _ := by show (I b).isSome = true; rw [h]; rfl
/-- A comparison's contract in an empty memory is one in every world of the sort's. -/
theorem cmp_lays {P : Program} (R : RowOf α k) {g : Nat} {cf : α → α → Int} (h : ∀ x y, ACall (Env.of P) g [.agg (R.a x), .agg (R.a y)] σ0 (fun v _ => v = .int .i64 (cf x y))) (blk off size : Nat) (w : World) {I : Imm} (hI : ∀ b c, I b = some c → ∃ e fr, w.heap[b]? = some (.cells c e fr)) (hG : GOk I) (hIb : I blk = none) (hlt : blk < w.heap.size) : CmpLays P g #[] R.c k cf blk off size w := by
  intro m os dk hs x y
  have hI' : ∀ b c, I b = some c → ∃ e fr, (sortWorldK R.c k w blk off m dk os).heap[b]? = some (.cells c e fr) := fun b c hb => by
    obtain ⟨e, fr, h1⟩ := hI b c hb
    refine ⟨e, fr, ?_⟩
    have hne : ¬ blk = b := fun e => by rw [e, hb] at hIb; cases hIb
    have hbl := (Array.getElem?_eq_some_iff.1 h1).1
    have hww : sortWorldK R.c k w blk off m dk os = putRowK R.c k (grow (Go.Sort.ahead w m) os) blk off dk := by
      unfold sortWorldK
      rw [putRowK_grow _ _ _ _ _ _ _ (by simpa [Go.Sort.ahead] using hlt)]
    rw [hww, ← h1]
    simp only [putRowK, putRow, mapBlock, Array.getElem?_modify, if_neg hne, grow]
    rw [Array.getElem?_append_left (by simpa [Go.Sort.ahead] using hbl)]
    rfl
  generalize sortWorldK R.c k w blk off m dk os = W at hI'
  have agg : ∀ z : α, VRel ρ0 I (.agg (R.a z)) (.agg (R.c z).toArray) := fun z => by
    simp only [VRel]
    refine ⟨_, rfl, by simp [R.la, R.lc], R.one z, CRel.mk fun j v hv => ?_⟩
    have hj := (List.getElem?_eq_some_iff.1 hv).1
    rw [R.la] at hj
    obtain ⟨u, hu⟩ : ∃ u, (R.c z)[j]? = some u := ⟨_, List.getElem?_eq_getElem (by rw [R.lc]; exact hj)⟩
    exact ⟨u, by simpa using hu, (R.rel z j v u hv hu _ _ _).2 rfl⟩
  have hc := (h x y).calls W.heap.size _ ρ0 I W #[.agg (R.c x).toArray, .agg (R.c y).toArray] (empty_of hI' hG) rfl ⟨⟨_, rfl, agg x⟩, ⟨_, rfl, agg y⟩, trivial⟩
  refine Calls.mono (by simpa using hc) ?_
  rintro e w' ⟨v, σ', ρ', I', cv, rfl, hv, rl, ex, rfl⟩
  simp only [VRel] at hv; subst hv
  exact ⟨rfl, grown_of rl.low⟩

theorem flat_get (R : RowOf α k) (hk : 0 < k) (l : List α) {t : Nat} (ht : t < l.length * k) : ∃ x, l[t / k]? = some x ∧ (R.c x)[t % k]? = some ((flatK R.c k l.toArray)[t]!) := by
  have h1 : t / k < l.length := (Nat.div_lt_iff_lt_mul hk).2 ht
  obtain ⟨x, hx⟩ : ∃ x, l[t / k]? = some x := ⟨_, List.getElem?_eq_getElem h1⟩
  refine ⟨x, hx, ?_⟩
  rw [get_flatK _ _ _ _ (by simpa using ht)]
  have e : (l.toArray)[t / k]! = x := by
    rw [Array.getElem!_eq_getD, Array.getD_eq_getD_getElem?]; simp [hx]
  rw [e]
  have hm : t % k < (R.c x).length := by rw [R.lc]; exact Nat.mod_lt _ hk
  rw [List.getElem?_eq_getElem hm, getElem!_pos (R.c x) (t % k) hm]

/-- slices.SortFunc. -/
theorem sortf_calls {P : Program} {rn : Ren} (L : SlLaysF0.n6 P rn) (R : RowOf α k) (hk : 0 < k) (aE : ∀ w, (isAgg (rn.t 24)).run P w = .ok true w) (zE : ∀ w, (Go.sizeOf (rn.t 24)).run P w = .ok k w) {g : Nat} {cf : α → α → Int} (hO : SWO (ltOf cf)) (eg : Enterable P g)
    (hcmp : ∀ x y, ACall (Env.of P) g [.agg (R.a x), .agg (R.a y)] σ0 (fun v _ => v = .int .i64 (cf x y))) (ent : Enterable P (rn.f 6)) {σ : St} {a cap : Nat} {t : Bool} {l : List α} {post : List AVal} (hne : l ≠ []) (hl : l.length < 2 ^ 40) (hm : σ.mem.get a = some (.cells k (rowsA R l ++ post)))
    (Q : AVal → St → Prop) (hQ : ∀ l', l'.Perm l → (∀ (i j : Nat) (x y : α), i < j → l'[i]? = some x → l'[j]? = some y → ¬ cf y x < 0) → Q (.tup []) ⟨σ.mem.set a (.cells k (rowsA R l' ++ post)), σ.next⟩) : ACall (Env.of P) (rn.f 6) [.sl a 0 l.length cap t, .fn g [] []] σ Q := by
  refine ACall.ofCalls ent fun B w0 ρ I w cargs rl hsz hargs => ?_
  obtain ⟨u0, h0, v0⟩ := hargs.get 0 _ rfl
  obtain ⟨u1, h1, v1⟩ := hargs.get 1 _ rfl
  simp only [VRel] at v0 v1
  obtain ⟨p, ad, cap', hρ, rfl, g1, g2, g3, g4, g5, g6⟩ := v0
  obtain ⟨xs, ys, rfl, s1, s2, _, _⟩ := v1
  have hlp : 0 < l.length := List.length_pos_iff.2 hne
  have had := g5.resolve_left (by omega)
  subst had
  have hx : xs = #[] := Array.eq_empty_of_size_eq_zero s1
  have hy : ys = #[] := Array.eq_empty_of_size_eq_zero s2
  subst hx; subst hy
  have hca : cargs = #[.slice (some ⟨p.b, p.base + 0, none⟩) l.length cap', .func (.func g) #[] #[]] := by
    apply Array.ext_getElem?
    intro i
    have hs : cargs.size = 2 := hsz
    match i with
    | 0 => exact h0
    | 1 => exact h1
    | i + 2 => rw [Array.getElem?_eq_none (by omega), Array.getElem?_eq_none (by simp)]
  subst hca
  simp only [Nat.add_zero]
  obtain ⟨b1, b2, b3, c, e, fr, b4, b5, b6, b7⟩ := rl.blk a p _ hρ hm
  have hlen : (rowsA R l ++ post).length = l.length * k + post.length := by rw [List.length_append, rowsA_len]
  have hH : HoldsK R.c k w p.b p.base l.toArray := by
    intro j hj
    have hj' : j < l.length * k := by simpa using hj
    have hcs : p.base + j < c.size := by omega
    refine ⟨?_, unfrozen b4 b6 _ hcs⟩
    obtain ⟨x, hx, hv⟩ := rowsA_get R hk l j hj'
    have hv2 : (rowsA R l ++ post)[j]? = (R.a x)[j % k]? := by rw [List.getElem?_append_left (by rw [rowsA_len]; exact hj')]; exact hv
    obtain ⟨v, hav⟩ : ∃ v, (R.a x)[j % k]? = some v := ⟨_, List.getElem?_eq_getElem (by rw [R.la]; exact Nat.mod_lt _ hk)⟩
    obtain ⟨u, hu1, hu2⟩ := b7.get j v (by rw [hv2, hav])
    obtain ⟨x', hx', hcx⟩ := flat_get R hk l hj'
    rw [hx] at hx'; cases hx'
    have := (R.rel x _ v _ hav hcx ρ I u).1 hu2
    rw [cell_of_row w _ _ _ _ _ b4]
    show c[p.base + j]? = some (id _)
    rw [hu1, this]; rfl
  have hs0 := AnyQ.slices_SortFunc L k aE zE R.c R.lc R.onec cf hO g #[] p.b p.base cap' l.toArray w eg (cmp_lays R hcmp p.b p.base _ w rl.imm rl.gok (rl.sep a p _ hρ hm rfl) (rl.lt a p hρ)) hH (rl.lt a p hρ) (by simp; omega)
  rw [List.size_toArray] at hs0
  refine hs0.mono ?_
  rintro e' w' ⟨rfl, d', n', os, hperm, hsorted, rfl⟩
  obtain ⟨hds, _, hpe⟩ := hperm
  have hds : d'.size = l.length := by simpa using hds
  have hpm : d'.toList.Perm l := by
    have h2 : (d'.extract 0 l.length).toList = d'.toList := by rw [← hds]; simp
    have h3 : (l.toArray.extract 0 l.length).toList = l := by simp
    rw [h2, h3] at hpe; exact hpe
  have hw1 : Below w.heap.size w (grow (Go.Sort.ahead w n') os) := ⟨rfl, rfl, rfl, by simp [grow, Go.Sort.ahead], fun i hi => by simp only [grow]; rw [Array.getElem?_append_left (by simpa [Go.Sort.ahead] using hi)]; rfl⟩
  have r1 := rl.below hw1 (by show w.drawn ≤ w.drawn + n'; omega)
  have hww : sortWorldK R.c k w p.b p.base n' d' os = putRowK R.c k (grow (Go.Sort.ahead w n') os) p.b p.base d' := by
    unfold sortWorldK
    rw [putRowK_grow _ _ _ _ _ _ _ (by simpa [Go.Sort.ahead] using rl.lt a p hρ)]
  rw [hww]
  have b4' : (grow (Go.Sort.ahead w n') os).heap[p.b]? = some (.cells c e fr) := (hw1.block _ (rl.lt a p hρ)).trans b4
  have hbk : BRel ρ I (putRowK R.c k (grow (Go.Sort.ahead w n') os) p.b p.base d') p (.cells k (rowsA R d'.toList ++ post)) := by
    refine ⟨b1, ?_, ?_, putCells id p.base (flatK R.c k d') c, e, fr, ?_, ?_, ?_, ?_⟩
    · rw [List.all_append] at b2 ⊢
      rw [Bool.and_eq_true] at b2 ⊢
      exact ⟨rowsA_one R _, b2.2⟩
    · rw [List.length_append, rowsA_len, Array.length_toList, hds]; omega
    · simp [putRowK, putRow, mapBlock, Array.getElem?_modify, b4', onCells]
    · simpa [putCells] using b5
    · simpa [putCells] using b6
    · refine CRel.mk fun j v hv => ?_
      by_cases hj : j < l.length * k
      · rw [List.getElem?_append_left (by rw [rowsA_len, Array.length_toList, hds]; exact hj)] at hv
        obtain ⟨x, hx, hv2⟩ := rowsA_get R hk d'.toList j (by rw [Array.length_toList, hds]; exact hj)
        obtain ⟨x', hx', hcx⟩ := flat_get R hk d'.toList (t := j) (by rw [Array.length_toList, hds]; exact hj)
        rw [hx] at hx'; cases hx'
        rw [hv2] at hv
        refine ⟨(flatK R.c k d')[j]!, ?_, (R.rel x _ v _ hv (by simpa using hcx) _ _ _).2 rfl⟩
        have hcs : p.base + j < c.size := by omega
        simp only [putCells, Array.getElem?_mapIdx, Array.getElem?_eq_getElem hcs, Option.map_some]
        rw [if_pos ⟨by omega, by simp [hds]; omega⟩, Nat.add_sub_cancel_left]
        rfl
      · rw [List.getElem?_append_right (by rw [rowsA_len, Array.length_toList, hds]; omega), rowsA_len, Array.length_toList, hds] at hv
        obtain ⟨u, hu1, hu2⟩ := b7.get j v (by rw [List.getElem?_append_right (by rw [rowsA_len]; omega), rowsA_len]; exact hv)
        refine ⟨u, ?_, hu2⟩
        simp only [putCells, Array.getElem?_mapIdx, hu1, Option.map_some]
        rw [if_neg (by simp [hds]; omega)]
  obtain ⟨r2, e2⟩ := r1.setBlk (bk := .cells k (rowsA R d'.toList ++ post)) (w' := putRowK R.c k (grow (Go.Sort.ahead w n') os) p.b p.base d') hρ hm rfl rfl (by simp [putRowK, putRow, mapBlock]) (fun i hi => by simp [putRowK, putRow, mapBlock, Array.getElem?_modify, Ne.symm hi]) rfl rfl rfl hbk (Nat.le_refl _)
  refine ⟨.tup [], _, ρ, I, .tuple #[], rfl, by simp only [VRel]; exact ⟨_, rfl, rfl, trivial⟩, r2, e2, hQ d'.toList hpm fun i j x y hij hi hj hlt => ?_⟩
  have hjl : j < l.length := by rw [← hds]; simpa using (List.getElem?_eq_some_iff.1 hj).1
  have hso := hsorted i j (Nat.zero_le _) hij hjl
  have e1 : d'[i]! = x := by rw [Array.getElem!_eq_getD, Array.getD_eq_getD_getElem?]; rw [Array.getElem?_toList] at hi; rw [hi]; rfl
  have e2 : d'[j]! = y := by rw [Array.getElem!_eq_getD, Array.getD_eq_getD_getElem?]; rw [Array.getElem?_toList] at hj; rw [hj]; rfl
  rw [e1, e2] at hso
  simp only [ltOf, decide_eq_false_iff_not] at hso
  exact hso hlt
end
end Go.Proofs.YticefdfhcahlfaaGreatDoor.AM
