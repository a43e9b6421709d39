/- What the functions of this chapter give: their contracts over the machine. -/
import Derived.Test.YticefdfhcahlfaaGreatDoorCt221
namespace Go.Proofs.YticefdfhcahlfaaGreatDoor.AM
open Go.RowKit
set_option maxRecDepth 100000
set_option linter.unusedVariables false
set_option linter.unusedSimpArgs false
def rgCond (l:List S25) (i:Nat):Prop := ∀ x,l[i]?=some x→x.f0<x.f1∧∀ y,0<i→l[i - 1]?=some y→y.f1<x.f0
def rgOk (l:List S25):Prop := ∀ i,i<l.length→rgCond l i
theorem rgOk_step {l:List S25} {i:Nat} (h:∀ j,j<i→rgCond l j) (hi:rgCond l i):∀ j,j<i+1→rgCond l j := fun j hj=>by
  by_cases e:j=i
  · rw [e]; exact hi
  · exact h j (by omega)
def CgJ (v:AVal) (l:List S25) (σ0:St) (mm:Nat) (rg:Regs) (σ':St):Prop := ∃ i:Nat,mm=l.length - i∧i≤l.length∧Grow σ0 σ'∧(∀ j,j<i→rgCond l j)∧rg=[(0,v),(5,v),(6,i64 l.length),(7,i64 i)]
theorem rgcheck_g {σ:St} {v:AVal} {l:List S25} (hv:RgW σ v l) (hl:l.length<1000000) (Q:AVal→St→Prop) (h:∀ b,(b=true↔rgOk l)→Q (.bool b) σ):ACall Tryz.prog 86 [v] σ Q := by
  refine ACall.scrub ?_
  refine ACall.of_compF hmx (fun a w=>Tryz.call86 a w) Tryz.func86 cf86 (n := 1) (by decide) rfl ?_
  have l1 := hv.len
  simp [ac86,rs86,lk_cons,↓l1]
  refine wp_loop (CgJ v l σ) l.length ?_ ?_
  · exact ⟨0,rfl,Nat.zero_le _,Grow.refl _,by omega,rfl⟩
  · rintro mm rg σ' ⟨i,rfl,hi,hg,hall,rfl⟩
    by_cases hlt:i<l.length
    · obtain ⟨x,hx⟩:∃ x,l[i]?=some x := ⟨_,List.getElem?_eq_getElem hlt⟩
      obtain ⟨k,hk⟩:∃ k,i+1=k := ⟨_,rfl⟩
      have w1:IntKind.i64.wrap ((i:Int)+1)=(k:Int) := by rw [IntWalk.i64_in] <;> omega
      obtain ⟨p,p1,p2,_,_⟩ := hv.at hx (ρ := σ') hg.2
      have hg1 := hg.1
      have gr:∀ b0 b1:Blk,Grow σ ⟨(σ'.mem.set σ'.next b0).set σ'.next b1,σ'.next+1⟩ := fun b0 b1=>⟨by simp; omega,fun a ha=>by simp [show ¬ a=σ'.next by omega]; exact hg.2 a ha⟩
      by_cases c1:x.f1≤x.f0
      · simp [lk_cons,hlt,↓p1,↓p2,storeL,c1]
        refine ⟨fun a ha=>(gr _ _).2 a ha,h false ⟨fun e=>(by simp at e),fun e=>?_⟩⟩
        have := (e i hlt x hx).1
        omega
      by_cases hi0:i=0
      · have hi1:¬ 0<i := by omega
        simp [lk_cons,hlt,↓p1,↓p2,storeL,c1,hi1,w1]
        refine ⟨l.length - k,by omega,k,rfl,by omega,gr _ _,?_,rfl⟩
        rw [← hk]
        refine rgOk_step hall fun z hz=>?_
        rw [hx] at hz; cases hz
        exact ⟨by omega,fun y h0=>absurd h0 hi1⟩
      · obtain ⟨j,hj⟩:∃ j,j+1=i := ⟨i - 1,by omega⟩
        obtain ⟨y,hy⟩:∃ y,l[j]?=some y := ⟨_,List.getElem?_eq_getElem (by omega)⟩
        have w2:IntKind.i64.wrap ((i:Int) - 1)=(j:Int) := by rw [IntWalk.i64_in] <;> omega
        have hi1:0<i := by omega
        have hji:i - 1=j := by omega
        have hgm:∀ a,a<σ.next→(⟨(σ'.mem.set σ'.next (.cells 2 [u64 0,u64 0])).set σ'.next (.cells 2 [u64 x.f0,u64 x.f1]),σ'.next+1⟩:St).mem.get a=σ.mem.get a := (gr _ _).2
        obtain ⟨q,q1,_,_,⟨r,r1,r2⟩⟩ := hv.at hy hgm
        by_cases hlt2:x.f0≤y.f1
        · simp [lk_cons,hlt,↓p1,↓p2,storeL,c1,hi1,w1,w2,↓q1,↓r1,↓r2,hlt2]
          refine ⟨fun a ha=>(gr _ _).2 a ha,h false ⟨fun e=>(by simp at e),fun e=>?_⟩⟩
          have := (e i hlt x hx).2 y hi1 (by rw [hji]; exact hy)
          omega
        · simp [lk_cons,hlt,↓p1,↓p2,storeL,c1,hi1,w1,w2,↓q1,↓r1,↓r2,hlt2]
          refine ⟨l.length - k,by omega,k,rfl,by omega,gr _ _,?_,rfl⟩
          rw [← hk]
          refine rgOk_step hall fun z hz=>?_
          rw [hx] at hz; cases hz
          refine ⟨by omega,fun w _ hw=>?_⟩
          rw [hji,hy] at hw; cases hw
          omega
    · have:i=l.length := by omega
      subst this
      simp [lk_cons]
      exact ⟨fun a ha=>hg.2 a ha,h true ⟨fun _=>hall,fun _=>rfl⟩⟩
def CrJ (v:AVal) (l:List S25) (σ0:St) (mm:Nat) (rg:Regs) (σ':St):Prop := ∃ i:Nat,mm=l.length - i∧i≤l.length∧σ'=σ0∧(∀ j,j<i→rgCond l j)∧rg=[(0,v),(3,i64 i)]
theorem rgright_g {σ:St} {v:AVal} {l:List S25} (hv:RgW σ v l) (hl:l.length<1000000) (Q:AVal→St→Prop) (h:∀ b,(b=true↔rgOk l)→Q (.bool b) σ):ACall Tryz.prog 81 [v] σ Q := by
  refine ACall.of_compF hmx (fun a w=>Tryz.call81 a w) Tryz.func81 cf81 (n := 1) (by decide) rfl ?_
  have l1 := hv.len
  simp [ac81,rs81,lk_cons]
  refine wp_loop (CrJ v l σ) l.length ?_ ?_
  · exact ⟨0,rfl,Nat.zero_le _,rfl,by omega,rfl⟩
  · rintro mm rg σ' ⟨i,rfl,hi,rfl,hall,rfl⟩
    by_cases hlt:i<l.length
    · obtain ⟨x,hx⟩:∃ x,l[i]?=some x := ⟨_,List.getElem?_eq_getElem hlt⟩
      obtain ⟨k,hk⟩:∃ k,i+1=k := ⟨_,rfl⟩
      have w1:IntKind.i64.wrap ((i:Int)+1)=(k:Int) := by rw [IntWalk.i64_in] <;> omega
      obtain ⟨p,p1,_,⟨q0,p2,p3⟩,⟨q1,p4,p5⟩⟩ := hv.at hx (ρ := σ') fun _ _=>rfl
      by_cases c1:x.f1≤x.f0
      · simp [lk_cons,↓l1,hlt,↓p1,↓p2,↓p3,↓p4,↓p5,c1]
        refine h false ⟨fun e=>(by simp at e),fun e=>?_⟩
        have := (e i hlt x hx).1
        omega
      by_cases hi0:i=0
      · have hi1:¬ 0<i := by omega
        simp [lk_cons,↓l1,hlt,↓p1,↓p2,↓p3,↓p4,↓p5,c1,hi1,w1]
        refine ⟨l.length - k,by omega,k,rfl,by omega,rfl,?_,rfl⟩
        rw [← hk]
        refine rgOk_step hall fun z hz=>?_
        rw [hx] at hz; cases hz
        exact ⟨by omega,fun y h0=>absurd h0 hi1⟩
      · obtain ⟨j,hj⟩:∃ j,j+1=i := ⟨i - 1,by omega⟩
        obtain ⟨y,hy⟩:∃ y,l[j]?=some y := ⟨_,List.getElem?_eq_getElem (by omega)⟩
        have w2:IntKind.i64.wrap ((i:Int) - 1)=(j:Int) := by rw [IntWalk.i64_in] <;> omega
        have hi1:0<i := by omega
        have hji:i - 1=j := by omega
        obtain ⟨q,r0,_,_,⟨r,r1,r2⟩⟩ := hv.at hy (ρ := σ') fun _ _=>rfl
        by_cases hlt2:x.f0≤y.f1
        · simp [lk_cons,↓l1,hlt,↓p1,↓p2,↓p3,↓p4,↓p5,c1,hi1,w1,w2,↓r0,↓r1,↓r2,hlt2]
          refine h false ⟨fun e=>(by simp at e),fun e=>?_⟩
          have := (e i hlt x hx).2 y hi1 (by rw [hji]; exact hy)
          omega
        · simp [lk_cons,↓l1,hlt,↓p1,↓p2,↓p3,↓p4,↓p5,c1,hi1,w1,w2,↓r0,↓r1,↓r2,hlt2]
          refine ⟨l.length - k,by omega,k,rfl,by omega,rfl,?_,rfl⟩
          rw [← hk]
          refine rgOk_step hall fun z hz=>?_
          rw [hx] at hz; cases hz
          refine ⟨by omega,fun w _ hw=>?_⟩
          rw [hji,hy] at hw; cases hw
          omega
    · have:i=l.length := by omega
      subst this
      simp [lk_cons,↓l1]
      exact h true ⟨fun _=>hall,fun _=>rfl⟩
end Go.Proofs.YticefdfhcahlfaaGreatDoor.AM

namespace Go.Proofs.YticefdfhcahlfaaGreatDoor.AM
open Go.RowKit
set_option maxRecDepth 100000
set_option linter.unusedVariables false
set_option linter.unusedSimpArgs false
def cuCond (ml me:Int) (h:List Hd) (i:Nat):Prop := ∀ x,h[i]?=some x→x.f1≠[]∧rgOk x.f1∧(∀ y,0<i→h[i - 1]?=some y→y.f0<x.f0)∧∀ z,x.f1[0]?=some z→¬ ordM x.f0 z.f0 ml me<0
def cuOk (ml me:Int) (h:List Hd):Prop := ∀ i,i<h.length→cuCond ml me h i
theorem cuOk_step {ml me:Int} {h:List Hd} {i:Nat} (hh:∀ j,j<i→cuCond ml me h j) (hi:cuCond ml me h i):∀ j,j<i+1→cuCond ml me h j := fun j hj=>by
  by_cases e:j=i
  · rw [e]; exact hi
  · exact hh j (by omega)
def HFew (h:List Hd):Prop := h.length<1000000∧∀ x∈h,x.f1.length<1000000
def CcJ (hv:AVal) (ml me:Int) (h:List Hd) (σ0:St) (mm:Nat) (rg:Regs) (σ':St):Prop := ∃ i:Nat,mm=h.length - i∧i≤h.length∧σ0.next+1≤σ'.next∧(∀ a,a<σ0.next→σ'.mem.get a=σ0.mem.get a)∧σ'.mem.get σ0.next=some (.cells 3 [u64 ml,u64 me,hv])∧(∀ j,j<i→cuCond ml me h j) ∧
  rg=[(1,.ptr σ0.next 0),(6,hv),(7,i64 h.length),(8,i64 i)]
set_option maxHeartbeats 2000000 in
theorem ccheck_g {hv:AVal} {h:List Hd} {σ:St} (hh:HR σ hv h) (hf:HFew h) (ml me:Int) (Q:AVal→St→Prop) (hq:∀ b,(b=true↔cuOk ml me h)→Q (.bool b) σ):ACall Tryz.prog 67 [cv ml me hv] σ Q := by
  refine ACall.scrub ?_
  refine ACall.of_compF hmx (fun a w=>Tryz.call67 a w) Tryz.func67 cf67 (n := 1) (by decide) rfl ?_
  have k1 := hh.one.1
  have k2 := hh.one.2
  have hl := hf.1
  have l1 := hh.len
  simp only [ac67,rs67]
  simp [lk_cons,k1,k2,↓l1]
  refine wp_loop (CcJ hv ml me h σ) h.length ?_ ?_
  · exact ⟨0,rfl,Nat.zero_le _,by simp,fun a ha=>by simp [show ¬ a=σ.next by omega],by simp,by omega,rfl⟩
  · rintro mm rg σ1 ⟨i,rfl,hi,hn1,gold,m1,hall,rfl⟩
    have no:∀ {P:Prop},(¬ P)→(false=true↔P) := fun hp=>⟨fun e=>by simp at e,fun e=>absurd e hp⟩
    by_cases hlt:i<h.length
    · obtain ⟨x,hx⟩:∃ x,h[i]?=some x := ⟨_,List.getElem?_eq_getElem hlt⟩
      obtain ⟨k,hk⟩:∃ k,i+1=k := ⟨_,rfl⟩
      have w1:IntKind.i64.wrap ((i:Int)+1)=(k:Int) := by rw [IntWalk.i64_in] <;> omega
      obtain ⟨p,r,hr,p1,p2,_,_⟩ := hh.at hx (ρ := σ1) gold
      have r1 := hr.one.1
      have r2 := hr.one.2
      have l2 := hr.len
      have hxf := hf.2 x (List.mem_of_getElem? hx)
      have z1:¬ σ.next=σ1.next := by omega
      have gold2:∀ (b0 b1:Blk) (a:Nat),a<σ.next→(⟨(σ1.mem.set σ1.next b0).set σ1.next b1,σ1.next+1⟩:St).mem.get a=σ.mem.get a := fun b0 b1 a ha=>by simp [show ¬ a=σ1.next by omega]; exact gold a ha
      by_cases h0:x.f1.length=0
      · simp [lk_cons,hlt,↓p1,↓p2,storeL,r1,r2,↓l2,h0]
        exact ⟨fun a ha=>gold2 _ _ a ha,hq false (no fun e=>(e i hlt x hx).1 (List.eq_nil_of_length_eq_zero h0))⟩
      obtain ⟨w,hw0⟩:∃ w,x.f1[0]?=some w := ⟨_,List.getElem?_eq_getElem (by omega)⟩
      have hpos:¬ x.f1.length=0 := h0
      have fin:cuCond ml me h i→∀ b0 b1:Blk,∃ mm,mm<h.length - i∧CcJ hv ml me h σ mm [(1,.ptr σ.next 0),(6,hv),(7,i64 h.length),(8,i64 k)] ⟨(σ1.mem.set σ1.next b0).set σ1.next b1,σ1.next+1⟩ := fun hc b0 b1 =>
        ⟨h.length - k,by omega,k,rfl,by omega,by simp; omega,gold2 b0 b1,by simp [z1]; exact m1,by rw [← hk]; exact cuOk_step hall hc,rfl⟩
      have wl:IntKind.i64.wrap (x.f1.length:Int)=x.f1.length := by rw [IntWalk.i64_in] <;> omega
      simp [lk_cons,hlt,↓p1,↓p2,storeL,r1,r2,↓l2,hpos]
      refine rgcheck_g (hr.frame (by simp; omega) (gold2 _ _)) hxf _ fun b hb=>?_
      obtain ⟨q,q1,_,⟨q0,q2,q3⟩,_⟩ := hr.at hw0 (ρ := ⟨(σ1.mem.set σ1.next (.cells 2 [.int .u64 0,.nilsl])).set σ1.next (.cells 2 [u64 x.f0,r]),σ1.next+1⟩) (gold2 _ _)
      have q1':evalV ⟨(σ1.mem.set σ1.next (.cells 2 [.int .u64 0,.nilsl])).set σ1.next (.cells 2 [u64 x.f0,r]),σ1.next+1⟩ (.idxAddr 2 r (.int .i64 0))=some (q,⟨(σ1.mem.set σ1.next (.cells 2 [.int .u64 0,.nilsl])).set σ1.next (.cells 2 [u64 x.f0,r]),σ1.next+1⟩) := q1
      cases b with
      | false =>
        simp [lk_cons,↓l2,hpos,fillL,storeL,r1,r2]
        exact ⟨fun a ha=>gold2 _ _ a ha,hq false (no fun e=>by have := hb.2 (e i hlt x hx).2.1; simp at this)⟩
      | true =>
        have hrg := hb.1 rfl
        have ord:∀ (hc:∀ y,0<i→h[i - 1]?=some y→y.f0<x.f0),ordM x.f0 w.f0 ml me<0∨¬ ordM x.f0 w.f0 ml me<0∧cuCond ml me h i := fun hc=>by
          by_cases ho:ordM x.f0 w.f0 ml me<0
          · exact .inl ho
          · refine .inr ⟨ho,fun x' hx'=>?_⟩
            rw [hx] at hx'; cases hx'
            refine ⟨fun e=>h0 (by rw [e]; rfl),hrg,hc,fun z hz=>?_⟩
            rw [hw0] at hz; cases hz
            exact ho
        have bad:ordM x.f0 w.f0 ml me<0→¬ cuOk ml me h := fun ho e=>(e i hlt x hx).2.2.2 w hw0 ho
        by_cases hi0:i=0
        · have c0:¬ (0:Int)<(i:Int) := by omega
          have c0':¬ 0<i := by omega
          simp [lk_cons,↓l2,hpos,c0,c0',m1,z1,k1,k2,↓q1',↓q2,↓q3,fillL,storeL,r1,r2]
          refine order_c x.f0 w.f0 ml me _ _ ?_
          rcases ord fun y h0=>absurd h0 c0' with ho | ⟨ho,hc⟩
          · simp [lk_cons,↓l2,hpos,c0,c0',ho]
            exact ⟨fun a ha=>gold2 _ _ a ha,hq false (no (bad ho))⟩
          · simp [lk_cons,↓l2,hpos,c0,c0',ho,w1]
            exact fin hc _ _
        · obtain ⟨j,hj⟩:∃ j,j+1=i := ⟨i - 1,by omega⟩
          obtain ⟨y,hy⟩:∃ y,h[j]?=some y := ⟨_,List.getElem?_eq_getElem (by omega)⟩
          have c0:(0:Int)<(i:Int) := by omega
          have c0':0<i := by omega
          have hji:i - 1=j := by omega
          have w2:IntKind.i64.wrap ((i:Int) - 1)=(j:Int) := by rw [IntWalk.i64_in] <;> omega
          obtain ⟨s,_,_,s1,_,⟨s0,s2,s3⟩,_⟩ := hh.at hy (ρ := ⟨(σ1.mem.set σ1.next (.cells 2 [.int .u64 0,.nilsl])).set σ1.next (.cells 2 [u64 x.f0,r]),σ1.next+1⟩) (gold2 _ _)
          by_cases hlt2:x.f0≤y.f0
          · simp [lk_cons,↓l2,hpos,c0,c0',m1,z1,k1,k2,w2,↓s1,↓s2,↓s3,↓q1',↓q2,↓q3,fillL,storeL,r1,r2,hlt2]
            refine ⟨fun a ha=>gold2 _ _ a ha,hq false (no fun e=>?_)⟩
            have := (e i hlt x hx).2.2.1 y c0' (by rw [hji]; exact hy)
            omega
          · simp [lk_cons,↓l2,hpos,c0,c0',m1,z1,k1,k2,w2,↓s1,↓s2,↓s3,↓q1',↓q2,↓q3,fillL,storeL,r1,r2,hlt2]
            refine order_c x.f0 w.f0 ml me _ _ ?_
            rcases ord fun z _ hz=>(by rw [hji,hy] at hz; cases hz; omega) with ho | ⟨ho,hc⟩
            · simp [lk_cons,↓l2,hpos,c0,c0',ho,hlt2,m1,z1,w2,↓s1,↓s2,↓s3]
              exact ⟨fun a ha=>gold2 _ _ a ha,hq false (no (bad ho))⟩
            · simp [lk_cons,↓l2,hpos,c0,c0',ho,w1,hlt2,m1,z1,w2,↓s1,↓s2,↓s3]
              exact fin hc _ _
    · have:i=h.length := by omega
      subst this
      simp [lk_cons]
      exact ⟨fun a ha=>gold a ha,hq true ⟨fun _=>hall,fun _=>rfl⟩⟩
end Go.Proofs.YticefdfhcahlfaaGreatDoor.AM

namespace Go.Proofs.YticefdfhcahlfaaGreatDoor.AM
open Go.RowKit
set_option maxRecDepth 100000
set_option linter.unusedVariables false
set_option linter.unusedSimpArgs false
def RcJ (hv:AVal) (ml me:Int) (h:List Hd) (σ0:St) (mm:Nat) (rg:Regs) (σ':St):Prop := ∃ i:Nat,mm=h.length - i∧i≤h.length∧σ0.next+1≤σ'.next∧(∀ a,a<σ0.next→σ'.mem.get a=σ0.mem.get a)∧σ'.mem.get σ0.next=some (.cells 3 [u64 ml,u64 me,hv])∧(∀ j,j<i→cuCond ml me h j) ∧
  rg=[(1,.ptr σ0.next 0),(3,i64 i)]
set_option maxHeartbeats 2000000 in
theorem cright_g {hv:AVal} {h:List Hd} {σ:St} (hh:HR σ hv h) (hf:HFew h) (ml me:Int) (Q:AVal→St→Prop) (hq:∀ b,(b=true↔cuOk ml me h)→Q (.bool b) σ):ACall Tryz.prog 60 [cv ml me hv] σ Q := by
  refine ACall.scrub ?_
  refine ACall.of_compF hmx (fun a w=>Tryz.call60 a w) Tryz.func60 cf60 (n := 1) (by decide) rfl ?_
  have k1 := hh.one.1
  have k2 := hh.one.2
  have hl := hf.1
  have l1 := hh.len
  simp only [ac60,rs60]
  simp [lk_cons,k1,k2]
  refine wp_loop (RcJ hv ml me h σ) h.length ?_ ?_
  · exact ⟨0,rfl,Nat.zero_le _,by simp,fun a ha=>by simp [show ¬ a=σ.next by omega],by simp,by omega,rfl⟩
  · rintro mm rg σ1 ⟨i,rfl,hi,hn1,gold,m1,hall,rfl⟩
    have no:∀ {P:Prop},(¬ P)→(false=true↔P) := fun hp=>⟨fun e=>by simp at e,fun e=>absurd e hp⟩
    by_cases hlt:i<h.length
    · obtain ⟨x,hx⟩:∃ x,h[i]?=some x := ⟨_,List.getElem?_eq_getElem hlt⟩
      obtain ⟨k,hk⟩:∃ k,i+1=k := ⟨_,rfl⟩
      have w1:IntKind.i64.wrap ((i:Int)+1)=(k:Int) := by rw [IntWalk.i64_in] <;> omega
      obtain ⟨p,r,hr,p1,p2,_,_⟩ := hh.at hx (ρ := σ1) gold
      have r1 := hr.one.1
      have r2 := hr.one.2
      have l2 := hr.len
      have hxf := hf.2 x (List.mem_of_getElem? hx)
      have z1:¬ σ.next=σ1.next := by omega
      have gold2:∀ (b0 b1:Blk) (a:Nat),a<σ.next→(⟨(σ1.mem.set σ1.next b0).set σ1.next b1,σ1.next+1⟩:St).mem.get a=σ.mem.get a := fun b0 b1 a ha=>by simp [show ¬ a=σ1.next by omega]; exact gold a ha
      by_cases h0:x.f1.length=0
      · simp [lk_cons,↓l1,m1,hlt,↓p1,↓p2,storeL,r1,r2,↓l2,h0]
        exact ⟨fun a ha=>gold2 _ _ a ha,hq false (no fun e=>(e i hlt x hx).1 (List.eq_nil_of_length_eq_zero h0))⟩
      obtain ⟨w,hw0⟩:∃ w,x.f1[0]?=some w := ⟨_,List.getElem?_eq_getElem (by omega)⟩
      have hpos:¬ x.f1.length=0 := h0
      have fin:cuCond ml me h i→∀ b0 b1:Blk,∃ mm,mm<h.length - i∧RcJ hv ml me h σ mm [(1,.ptr σ.next 0),(3,i64 k)] ⟨(σ1.mem.set σ1.next b0).set σ1.next b1,σ1.next+1⟩ := fun hc b0 b1 =>
        ⟨h.length - k,by omega,k,rfl,by omega,by simp; omega,gold2 b0 b1,by simp [z1]; exact m1,by rw [← hk]; exact cuOk_step hall hc,rfl⟩
      simp [lk_cons,↓l1,m1,hlt,↓p1,↓p2,storeL,r1,r2,↓l2,hpos]
      refine rgright_g (hr.frame (by simp; omega) (gold2 _ _)) hxf _ fun b hb=>?_
      obtain ⟨q,q1,_,⟨q0,q2,q3⟩,_⟩ := hr.at hw0 (ρ := ⟨(σ1.mem.set σ1.next (.cells 2 [.int .u64 0,.nilsl])).set σ1.next (.cells 2 [u64 x.f0,r]),σ1.next+1⟩) (gold2 _ _)
      have q1':evalV ⟨(σ1.mem.set σ1.next (.cells 2 [.int .u64 0,.nilsl])).set σ1.next (.cells 2 [u64 x.f0,r]),σ1.next+1⟩ (.idxAddr 2 r (.int .i64 0))=some (q,⟨(σ1.mem.set σ1.next (.cells 2 [.int .u64 0,.nilsl])).set σ1.next (.cells 2 [u64 x.f0,r]),σ1.next+1⟩) := q1
      cases b with
      | false =>
        simp [lk_cons,↓l2,hpos,fillL,storeL,r1,r2]
        exact ⟨fun a ha=>gold2 _ _ a ha,hq false (no fun e=>by have := hb.2 (e i hlt x hx).2.1; simp at this)⟩
      | true =>
        have hrg := hb.1 rfl
        have ord:∀ (hc:∀ y,0<i→h[i - 1]?=some y→y.f0<x.f0),ordM x.f0 w.f0 ml me<0∨¬ ordM x.f0 w.f0 ml me<0∧cuCond ml me h i := fun hc=>by
          by_cases ho:ordM x.f0 w.f0 ml me<0
          · exact .inl ho
          · refine .inr ⟨ho,fun x' hx'=>?_⟩
            rw [hx] at hx'; cases hx'
            refine ⟨fun e=>h0 (by rw [e]; rfl),hrg,hc,fun z hz=>?_⟩
            rw [hw0] at hz; cases hz
            exact ho
        have bad:ordM x.f0 w.f0 ml me<0→¬ cuOk ml me h := fun ho e=>(e i hlt x hx).2.2.2 w hw0 ho
        by_cases hi0:i=0
        · have c0:¬ (0:Int)<(i:Int) := by omega
          have c0':¬ 0<i := by omega
          simp [lk_cons,↓l2,hpos,c0,c0',m1,z1,k1,k2,↓q1',↓q2,↓q3,fillL,storeL,r1,r2]
          refine rorder_c x.f0 w.f0 ml me _ _ ?_
          rcases ord fun y h0=>absurd h0 c0' with ho | ⟨ho,hc⟩
          · simp [lk_cons,↓l2,hpos,c0,c0',ho]
            exact ⟨fun a ha=>gold2 _ _ a ha,hq false (no (bad ho))⟩
          · simp [lk_cons,↓l2,hpos,c0,c0',ho,w1]
            exact fin hc _ _
        · obtain ⟨j,hj⟩:∃ j,j+1=i := ⟨i - 1,by omega⟩
          obtain ⟨y,hy⟩:∃ y,h[j]?=some y := ⟨_,List.getElem?_eq_getElem (by omega)⟩
          have c0:(0:Int)<(i:Int) := by omega
          have c0':0<i := by omega
          have hji:i - 1=j := by omega
          have w2:IntKind.i64.wrap ((i:Int) - 1)=(j:Int) := by rw [IntWalk.i64_in] <;> omega
          obtain ⟨s,_,_,s1,_,⟨s0,s2,s3⟩,_⟩ := hh.at hy (ρ := ⟨(σ1.mem.set σ1.next (.cells 2 [.int .u64 0,.nilsl])).set σ1.next (.cells 2 [u64 x.f0,r]),σ1.next+1⟩) (gold2 _ _)
          by_cases hlt2:x.f0≤y.f0
          · simp [lk_cons,↓l2,hpos,c0,c0',m1,z1,k1,k2,w2,↓s1,↓s2,↓s3,↓q1',↓q2,↓q3,fillL,storeL,r1,r2,hlt2]
            refine ⟨fun a ha=>gold2 _ _ a ha,hq false (no fun e=>?_)⟩
            have := (e i hlt x hx).2.2.1 y c0' (by rw [hji]; exact hy)
            omega
          · simp [lk_cons,↓l2,hpos,c0,c0',m1,z1,k1,k2,w2,↓s1,↓s2,↓s3,↓q1',↓q2,↓q3,fillL,storeL,r1,r2,hlt2]
            refine rorder_c x.f0 w.f0 ml me _ _ ?_
            rcases ord fun z _ hz=>(by rw [hji,hy] at hz; cases hz; omega) with ho | ⟨ho,hc⟩
            · simp [lk_cons,↓l2,hpos,c0,c0',ho,hlt2,m1,z1,w2,↓s1,↓s2,↓s3]
              exact ⟨fun a ha=>gold2 _ _ a ha,hq false (no (bad ho))⟩
            · simp [lk_cons,↓l2,hpos,c0,c0',ho,w1,hlt2,m1,z1,w2,↓s1,↓s2,↓s3]
              exact fin hc _ _
    · have:i=h.length := by omega
      subst this
      simp [lk_cons,↓l1,m1]
      exact ⟨fun a ha=>gold a ha,hq true ⟨fun _=>hall,fun _=>rfl⟩⟩
end Go.Proofs.YticefdfhcahlfaaGreatDoor.AM

namespace Go.Proofs.YticefdfhcahlfaaGreatDoor.AM
open Go.RowKit
set_option maxRecDepth 100000
set_option linter.unusedVariables false
set_option linter.unusedSimpArgs false
def rgB (z:S25):List UInt8 := beN 8 z.f0.toNat++beN 8 z.f1.toNat
def rgsB (l:List S25):List UInt8 := (l.map rgB).flatten
def hdB (x:Hd):List UInt8 := beN 8 x.f0.toNat++beN 2 (x.f1.length % 65536)++rgsB x.f1
def hdsB (h:List Hd):List UInt8 := (h.map hdB).flatten
def cuB (ml me:Int) (h:List Hd):List UInt8 := beN 8 ml.toNat++beN 8 me.toNat++beN 2 (h.length % 65536)++hdsB h
theorem rgsB_snoc (l:List S25) (x:S25):rgsB (l++[x])=rgsB l++rgB x := by simp [rgsB]
theorem hdsB_snoc (l:List Hd) (x:Hd):hdsB (l++[x])=hdsB l++hdB x := by simp [hdsB]
theorem rgsB_len:∀ l:List S25,(rgsB l).length=16*l.length
  | []=>rfl
  | x :: l=>by
    have := rgsB_len l
    simp only [rgsB,List.map_cons,List.flatten_cons,List.length_append,rgB,beN_len,List.length_cons] at this ⊢
    omega
def In64 (a:Int):Prop := 0≤a∧a<18446744073709551616
structure HSm (h:List Hd):Prop where
  len:h.length≤600
  each:∀ x∈h,x.f1.length≤600
  led:∀ x∈h,In64 x.f0
  rg:∀ x∈h,∀ z∈x.f1,In64 z.f0∧In64 z.f1
theorem hdsB_len {h:List Hd} (he:∀ x∈h,x.f1.length≤600):(hdsB h).length≤9610*h.length := by
  induction h with
  | nil=>simp [hdsB]
  | cons x l ih =>
    have h1 := he x (by simp)
    have h2 := ih fun y hy=>he y (by simp [hy])
    simp only [hdsB,List.map_cons,List.flatten_cons,List.length_append,hdB,rgsB_len,beN_len,List.length_cons] at h2 ⊢
    omega
theorem nat_of {a:Int} (h:In64 a):∃ n:Nat,a=(n:Int)∧a.toNat=n∧n<18446744073709551616 := ⟨a.toNat,by have := h.1; omega,rfl,by have := h.2; have := h.1; omega⟩
end Go.Proofs.YticefdfhcahlfaaGreatDoor.AM

namespace Go.Proofs.YticefdfhcahlfaaGreatDoor.AM
open Go.RowKit
set_option maxRecDepth 100000
set_option linter.unusedVariables false
set_option linter.unusedSimpArgs false
def BoJ (p:Nat) (h:List Hd) (l:List UInt8) (b:Option Nat) (S:St) (mm:Nat) (rg:Regs) (σ':St):Prop := ∃ (i:Nat) (v:AVal) (b':Option Nat),mm=h.length - i∧i≤h.length∧GS rwB σ' v (l++hdsB (h.take i)) b'∧BStp b b' S σ'∧rg=[(0,v),(3,.ptr p 0),(5,i64 i)]
def BiJ (p:Nat) (rv:AVal) (i:Nat) (r:List S25) (l:List UInt8) (b:Option Nat) (S:St) (mm:Nat) (rg:Regs) (σ':St):Prop := ∃ (j:Nat) (v:AVal) (b':Option Nat),mm=r.length - j∧j≤r.length∧GS rwB σ' v (l++rgsB (r.take j)) b'∧BStp b b' S σ'∧rg=[(0,v),(3,.ptr p 0),(5,i64 i),(6,rv),(7,i64 j)]
theorem GS.grow {α:Type} {k:Nat} {R:Rw α k} {σ τ:St} {v:AVal} {l:List α} {b:Option Nat} (h:GS R σ v l b) (g:Grow σ τ):GS R τ v l b := h.keep g.1 fun a ha _=>g.2 a ha
set_option maxHeartbeats 2000000 in
theorem cbytes_c {σ:St} {v0:AVal} {l:List UInt8} {b:Option Nat} (h0:GS rwB σ v0 l b) {hv:AVal} {h:List Hd} (hh:HI hv h) (hs:HSm h) {ml me:Int} (hml:In64 ml) (hme:In64 me) (hl:l.length≤10000000) (Q:AVal→St→Prop)
    (hQ:∀ v σ' b',GS rwB σ' v (l++cuB ml me h) b'→BStp b b' σ σ'→Q v σ'):ACall Tryz.prog 18 [v0,cv ml me hv] σ Q := by
  refine ACall.of_compF hmx (fun a w=>Tryz.call18 a w) Tryz.func18 cf18 (n := 2) (by decide) rfl ?_
  have k1 := hh.one.1
  have k2 := hh.one.2
  have l1 := hh.len
  have hlen := hs.len
  obtain ⟨nl,rfl,tnl,bnl⟩ := nat_of hml
  obtain ⟨ne,rfl,tne,bne⟩ := nat_of hme
  simp [ac18,rs18,lk_cons,k1,k2]
  obtain ⟨S,hS⟩:∃ S:St,S=⟨σ.mem.set σ.next (.cells 3 [u64 (nl:Int),u64 (ne:Int),hv]),σ.next+1⟩ := ⟨_,rfl⟩
  have gS:Grow σ S := ⟨by rw [hS]; exact Nat.le_succ _,fun a ha=>by rw [hS]; simp [show ¬ a=σ.next by omega]⟩
  have nS:S.next=σ.next+1 := by rw [hS]
  have mS:S.mem.get σ.next=some (.cells 3 [u64 (nl:Int),u64 (ne:Int),hv]) := by rw [hS]; simp
  have hbl:∀ x,b=some x→x<σ.next := fun x hx=>h0.lt hx
  have mm:∀ {σ':St} {b':Option Nat},BStp b b' S σ'→σ'.mem.get σ.next=S.mem.get σ.next := fun t=>t.keep σ.next (by omega) (fun e=>by have := hbl _ e; omega)
  have toS:∀ {σ':St} {b':Option Nat},BStp b b' S σ'→BStp b b' σ σ' := fun t=>⟨by have := t.next; omega,fun x hx=>(t.own x hx).imp id fun h=>by omega,fun a ha h1=>(t.keep a (by omega) h1).trans (gS.2 a ha)⟩
  rw [← hS]
  refine rput_c (h0.grow gS) (n := nl) (size := 8) (by decide) (by omega) bnl _ fun v1 σ1 b1 h1 t1=>?_
  simp [lk_cons,mm t1,mS]
  refine rput_c h1 (n := ne) (size := 8) (by decide) (by simp [beN_len]; omega) bne _ fun v2 σ2 b2 h2 t2=>?_
  have t2 := t1.trans t2
  have wl:IntKind.u64.wrap (h.length:Int)=h.length := by rw [IntWalk.u64_in] <;> omega
  simp [lk_cons,mm t2,mS,↓l1,wl]
  refine rput_c h2 (n := h.length) (size := 2) (by decide) (by simp [beN_len]; omega) (by omega) _ fun v3 σ3 b3 h3 t3=>?_
  have t3 := t2.trans t3
  simp [lk_cons]
  obtain ⟨L0,hL0⟩:∃ L0,l++beN 8 nl++beN 8 ne++beN 2 h.length=L0 := ⟨_,rfl⟩
  have hL0l:L0.length=l.length+18 := by rw [← hL0]; simp [beN_len]
  rw [hL0] at h3
  refine wp_loop (BoJ σ.next h L0 b S) h.length ?_ ?_
  · exact ⟨0,v3,b3,rfl,Nat.zero_le _,by simpa [hdsB] using h3,t3,by simp [lk_cons]⟩
  rintro m rg σ4 ⟨i,v4,b4,rfl,hi,h4,t4,rfl⟩
  have m4 := (mm t4).trans mS
  by_cases hlt:i<h.length
  · obtain ⟨x,hx⟩:∃ x,h[i]?=some x := ⟨_,List.getElem?_eq_getElem hlt⟩
    have hxm := List.mem_of_getElem? hx
    have w1:IntKind.i64.wrap ((i:Int)+1)=((i+1:Nat):Int) := by rw [IntWalk.i64_in] <;> omega
    obtain ⟨p,r,hr,p1,p2,⟨q0,p3,p4⟩,⟨q1,p5,p6⟩⟩ := hh.at hx σ4
    have l2 := (hr.w σ4).len
    have hxe := hs.each x hxm
    obtain ⟨nx,ex,tx,bx⟩ := nat_of (hs.led x hxm)
    rw [ex] at p4
    have htk:h.take (i+1)=h.take i++[x] := by rw [List.take_add_one,hx]; rfl
    have hdl := hdsB_len (h := h.take i) fun y hy=>hs.each y (List.mem_of_mem_take hy)
    rw [List.length_take] at hdl
    simp [lk_cons,hlt,m4,↓l1,↓p1,↓p3,↓p4]
    refine rput_c h4 (n := nx) (size := 8) (by decide) (by rw [List.length_append]; omega) bx _ fun v5 σ5 b5 h5 t5=>?_
    have t5 := t4.trans t5
    have m5 := (mm t5).trans mS
    obtain ⟨p',r',hr',p1',p2',_,⟨q1',p5',p6'⟩⟩ := hh.at hx σ5
    have l3 := (hr'.w σ5).len
    have wl2:IntKind.u64.wrap (x.f1.length:Int)=x.f1.length := by rw [IntWalk.u64_in] <;> omega
    simp [lk_cons,m5,↓l1,↓p1',↓p5',↓p6',↓l3,wl2]
    refine rput_c h5 (n := x.f1.length) (size := 2) (by decide) (by simp only [List.length_append,beN_len]; omega) (by omega) _ fun v6 σ6 b6 h6 t6=>?_
    have t6 := t5.trans t6
    simp [lk_cons]
    obtain ⟨L1,hL1⟩:∃ L1,L0++hdsB (h.take i)++beN 8 nx++beN 2 x.f1.length=L1 := ⟨_,rfl⟩
    have hL1l:L1.length≤l.length+6000000 := by rw [← hL1]; simp only [List.length_append,beN_len]; omega
    rw [hL1] at h6
    refine wp_loop (BiJ σ.next r' i x.f1 L1 b S) x.f1.length ?_ ?_
    · exact ⟨0,v6,b6,rfl,Nat.zero_le _,by simpa [rgsB] using h6,t6,by simp [lk_cons]⟩
    rintro m rg σ7 ⟨j,v7,b7,rfl,hj,h7,t7,rfl⟩
    by_cases hjl:j<x.f1.length
    · obtain ⟨z,hz⟩:∃ z,x.f1[j]?=some z := ⟨_,List.getElem?_eq_getElem hjl⟩
      have w2:IntKind.i64.wrap ((j:Int)+1)=((j+1:Nat):Int) := by rw [IntWalk.i64_in] <;> omega
      obtain ⟨q,s1,_,⟨q2,s2,s3⟩,⟨q3,s4,s5⟩⟩ := (hr'.w σ7).at hz (ρ := σ7) fun _ _=>rfl
      obtain ⟨⟨na,ea,ta,ba⟩,⟨nb,eb,tb,bb⟩⟩ := And.intro (nat_of (hs.rg x hxm z (List.mem_of_getElem? hz)).1) (nat_of (hs.rg x hxm z (List.mem_of_getElem? hz)).2)
      rw [ea] at s3
      rw [eb] at s5
      have htk2:x.f1.take (j+1)=x.f1.take j++[z] := by rw [List.take_add_one,hz]; rfl
      have hrl := rgsB_len (x.f1.take j)
      rw [List.length_take] at hrl
      simp [lk_cons,↓l3,hjl,↓s1,↓s2,↓s3,↓s4,↓s5]
      refine rput_c h7 (n := na) (size := 8) (by decide) (by rw [List.length_append]; omega) ba _ fun v8 σ8 b8 h8 t8=>?_
      obtain ⟨q',s1',_,⟨q2',s2',s3'⟩,⟨q3',s4',s5'⟩⟩ := (hr'.w σ8).at hz (ρ := σ8) fun _ _=>rfl
      rw [ea] at s3'
      rw [eb] at s5'
      have eq1:q'=q := by
        rcases hr' with ⟨rfl,h0⟩ | ⟨t,rfl⟩
        · rw [h0] at hz; simp at hz
        · simp [hjl] at s1 s1'
          rw [← s1,← s1']
      subst eq1
      have eq2:q2'=q2∧q3'=q3 := by
        rcases hr' with ⟨rfl,h0⟩ | ⟨t,rfl⟩
        · rw [h0] at hz; simp at hz
        · simp [hjl] at s1
          subst s1
          simp at s2 s2' s4 s4'
          exact ⟨by rw [← s2,← s2'],by rw [← s4,← s4']⟩
      obtain ⟨rfl,rfl⟩ := eq2
      simp [lk_cons,↓l3,hjl,↓s1',↓s2',↓s3',↓s4',↓s5']
      refine rput_c h8 (n := nb) (size := 8) (by decide) (by simp only [List.length_append,beN_len]; omega) bb _ fun v9 σ9 b9 h9 t9=>?_
      have t9 := t8.trans t9
      simp [lk_cons,w2]
      refine ⟨x.f1.length - (j+1),by omega,j+1,v9,b9,rfl,by omega,?_,t7.trans t9,rfl⟩
      rw [htk2,rgsB_snoc,rgB,ta,tb]
      simpa [List.append_assoc] using h9
    have:j=x.f1.length := by omega
    subst this
    rw [List.take_length] at h7
    simp [lk_cons,↓l3,w1]
    refine ⟨h.length - (i+1),by omega,i+1,v7,b7,rfl,by omega,?_,t7,rfl⟩
    rw [htk,hdsB_snoc,hdB,tx,Nat.mod_eq_of_lt (by omega)]
    rw [← hL1] at h7
    simpa [List.append_assoc] using h7
  have:i=h.length := by omega
  subst this
  rw [List.take_length] at h4
  simp [lk_cons,m4,↓l1]
  refine hQ v4 σ4 b4 ?_ (toS t4)
  rw [cuB,tnl,tne,Nat.mod_eq_of_lt (by omega)]
  rw [← hL0] at h4
  simpa [List.append_assoc] using h4
end Go.Proofs.YticefdfhcahlfaaGreatDoor.AM

namespace Go.Proofs.YticefdfhcahlfaaGreatDoor.AM
open Go.RowKit
set_option maxRecDepth 100000
set_option linter.unusedVariables false
set_option linter.unusedSimpArgs false
def rgOkB (l:List S25):Bool := (List.range l.length).all fun i=>match l[i]? with
  | none=>true
  | some x=>decide (x.f0<x.f1) && (decide (i=0) || match l[i - 1]? with
    | none=>true
    | some y=>decide (y.f1<x.f0))
theorem rgOkB_iff (l:List S25):rgOkB l=true↔rgOk l := by
  simp only [rgOkB,List.all_eq_true,List.mem_range,rgOk]
  refine forall_congr' fun i=>forall_congr' fun hi=>?_
  obtain ⟨x,hx⟩:∃ x,l[i]?=some x := ⟨_,List.getElem?_eq_getElem hi⟩
  simp only [hx,rgCond,Bool.and_eq_true,decide_eq_true_eq,Bool.or_eq_true]
  constructor
  · rintro ⟨h1,h2⟩ z hz
    cases hz
    refine ⟨h1,fun y h0 hy=>?_⟩
    rcases h2 with h2 | h2
    · omega
    · rw [hy] at h2; simpa using h2
  · intro h
    obtain ⟨h1,h2⟩ := h x rfl
    refine ⟨h1,?_⟩
    by_cases h0:i=0
    · exact .inl h0
    · right
      cases hy:l[i - 1]? with
      | none=>rfl
      | some y=>simpa using h2 y (by omega) hy
def cuOkB (ml me:Int) (h:List Hd):Bool := (List.range h.length).all fun i=>match h[i]? with
  | none=>true
  | some x=>!x.f1.isEmpty && rgOkB x.f1 && (decide (i=0) || match h[i - 1]? with
    | none=>true
    | some y=>decide (y.f0<x.f0)) && match x.f1[0]? with
    | none=>true
    | some z=>decide (¬ ordM x.f0 z.f0 ml me<0)
theorem cuOkB_iff (ml me:Int) (h:List Hd):cuOkB ml me h=true↔cuOk ml me h := by
  simp only [cuOkB,List.all_eq_true,List.mem_range,cuOk]
  refine forall_congr' fun i=>forall_congr' fun hi=>?_
  obtain ⟨x,hx⟩:∃ x,h[i]?=some x := ⟨_,List.getElem?_eq_getElem hi⟩
  simp only [hx,cuCond,Bool.and_eq_true,decide_eq_true_eq,Bool.or_eq_true,rgOkB_iff]
  constructor
  · rintro ⟨⟨⟨h1,h2⟩,h3⟩,h4⟩ z hz
    cases hz
    refine ⟨fun e=>by rw [e] at h1; simp at h1,h2,fun y h0 hy=>?_,fun z hz=>?_⟩
    · rcases h3 with h3 | h3
      · omega
      · rw [hy] at h3; simpa using h3
    · rw [hz] at h4; simpa using h4
  · intro hh
    obtain ⟨h1,h2,h3,h4⟩ := hh x rfl
    refine ⟨⟨⟨by simpa using h1,h2⟩,?_⟩,?_⟩
    · by_cases h0:i=0
      · exact .inl h0
      · right
        cases hy:h[i - 1]? with
        | none=>rfl
        | some y=>simpa using h3 y (by omega) hy
    · cases hz:x.f1[0]? with
      | none=>rfl
      | some z=>simpa using h4 z hz
def pRg:Prs S25 := pB (pNum 8) fun a=>pB (pNum 8) fun b=>pR ⟨(a:Int),(b:Int)⟩
def pHd:Prs Hd := pB (pNum 8) fun L=>pB (pNum 2) fun n=>pB (pMany pRg n) fun r=>pR ⟨(L:Int),r⟩
structure Cu where
  ml:Int
  me:Int
  h:List Hd
def pCu0:Prs Cu := pB (pNum 8) fun a=>pB (pNum 8) fun b=>pB (pNum 2) fun n=>pB (pMany pHd n) fun h=>pR ⟨(a:Int),(b:Int),h⟩
def pCu:Prs Cu := pB pCu0 fun c l=>if cuOkB c.ml c.me c.h then .ok (c,l) else .error 23
theorem pRg_ne0:∀ l e,pRg l=.error e→e≠0 := ne0 (fun l e=>pNum_err) fun _=>ne0 (fun l e=>pNum_err) fun _=>pR_ne0 _
theorem pHd_ne0:∀ l e,pHd l=.error e→e≠0 := ne0 (fun l e=>pNum_err) fun _=>ne0 (fun l e=>pNum_err) fun n=>ne0 (pMany_ne0 pRg_ne0 n) fun _=>pR_ne0 _
theorem pCu_ne0:∀ l e,pCu l=.error e→e≠0 := ne0 (ne0 (fun l e=>pNum_err) fun _=>ne0 (fun l e=>pNum_err) fun _=>ne0 (fun l e=>pNum_err) fun n=>ne0 (pMany_ne0 pHd_ne0 n) fun _=>pR_ne0 _) fun c l e h=>by
  split at h
  · cases h
  · cases h; decide
theorem pB_len {α β:Type} {p:Prs α} {f:α→Prs β} (hp:∀ l x r,p l=.ok (x,r)→r.length≤l.length) (hf:∀ y l x r,f y l=.ok (x,r)→r.length≤l.length):∀ l x r,pB p f l=.ok (x,r)→r.length≤l.length := fun l x r h=>by
  obtain ⟨y,m,h1,h2⟩ := pB_inv h
  have := hp _ _ _ h1
  have := hf _ _ _ _ h2
  omega
theorem pR_len {α:Type} (y:α):∀ l x r,pR y l=.ok (x,r)→r.length≤l.length := fun l x r h=>by cases h; exact Nat.le_refl _
theorem pNum_le (k:Nat):∀ l x r,pNum k l=.ok (x,r)→r.length≤l.length := fun l x r h=>by have := (pNum_len h).1; omega
theorem pRg_len:∀ l x r,pRg l=.ok (x,r)→r.length≤l.length := pB_len (pNum_le 8) fun _=>pB_len (pNum_le 8) fun _=>pR_len _
theorem pHd_len:∀ l x r,pHd l=.ok (x,r)→r.length≤l.length := pB_len (pNum_le 8) fun _=>pB_len (pNum_le 2) fun n=>pB_len (fun l x r h=>(pMany_len pRg_len n l x r h).1) fun _=>pR_len _
theorem pCu0_len:∀ l x r,pCu0 l=.ok (x,r)→r.length≤l.length := pB_len (pNum_le 8) fun _=>pB_len (pNum_le 8) fun _=>pB_len (pNum_le 2) fun n=>pB_len (fun l x r h=>(pMany_len pHd_len n l x r h).1) fun _=>pR_len _
theorem pCu_len:∀ l x r,pCu l=.ok (x,r)→r.length≤l.length := pB_len pCu0_len fun c l x r h=>by
  split at h
  · cases h; exact Nat.le_refl _
  · cases h
theorem Out.rgn {lo:Nat} {σ':St} {v:AVal} {l:List S25} (h:Out lo σ' v l) {lo' hi:Nat} {m:Mem} (h1:lo'≤lo) (h2:σ'.next≤hi) (hm:∀ a,lo≤a→a<σ'.next→m.get a=σ'.mem.get a):RgN lo' hi m v l := by
  rcases h with h | ⟨o,rfl,h0,h3,h4,h5⟩
  · exact .inl (.inl h)
  · exact .inr ⟨o,l.length,false,rfl,by omega,by omega,(hm o h3 h4).trans h5⟩
theorem Out.frame {lo:Nat} {σ σ':St} {v:AVal} {l:List S25} (h:Out lo σ v l) (hn:σ.next≤σ'.next) (hm:∀ a,lo≤a→a<σ.next→σ'.mem.get a=σ.mem.get a):Out lo σ' v l := by
  rcases h with h | ⟨o,h1,h2,h3,h4,h5⟩
  · exact .inl h
  · exact .inr ⟨o,h1,h2,h3,by omega,(hm o h3 h4).trans h5⟩
theorem Out.one {lo:Nat} {σ:St} {v:AVal} {l:List S25} (h:Out lo σ v l):v.one=true∧cellsOf v=[v] := by
  rcases h with ⟨rfl,_⟩ | ⟨o,rfl,_⟩ <;> simp
theorem HOut.mono {lo lo':Nat} {σ:St} {v:AVal} {h:List Hd} (hh:HOut lo σ v h) (hl:lo'≤lo):HOut lo' σ v h := by
  rcases hh with hh | ⟨o,cs,h1,h2,h3,h4,h5,h6⟩
  · exact .inl hh
  · exact .inr ⟨o,cs,h1,h2,by omega,h4,h5,h6.mono hl (Nat.le_refl _) fun _ _ _=>rfl⟩
def TkJ (res:Except Nat (Cu×List UInt8)) (r A B:Nat) (c:Option Nat) (ml me:Int) (N:Nat) (σ0:St) (mm:Nat) (rg:Regs) (σ':St):Prop := ∃ (i:Nat) (l:List UInt8) (acc:List Hd) (ov:AVal),mm=N - i∧i≤N∧acc.length=i∧RR σ' r l c∧l.length≤1000000∧(∀ x∈acc,x.f1.length<65536) ∧
  (B+1≤σ'.next∧∀ a,a<A→a≠r→σ'.mem.get a=σ0.mem.get a)∧σ'.mem.get A=some (.cells 3 [u64 0,u64 0,.nilsl])∧σ'.mem.get B=some (.cells 3 [u64 ml,u64 me,ov])∧HOut (B+1) σ' ov acc∧res=pB (pMany pHd (N - i)) (fun hs=>pR ⟨ml,me,acc++hs⟩) l∧rg=[(0,.ptr r 0),(2,.ptr A 0),(3,.ptr B 0),(12,.int .u16 N),(13,.int .u16 i)]
def TlJ (res:Except Nat (Cu×List UInt8)) (F:List S25→Prs Cu) (r A B H:Nat) (c:Option Nat) (L:Int) (N i M:Nat) (S:St) (mm:Nat) (rg:Regs) (σ':St):Prop := ∃ (j:Nat) (l:List UInt8) (rs:List S25) (rv:AVal),mm=M - j∧j≤M∧rs.length=j∧RR σ' r l c∧l.length≤1000000 ∧
  (S.next≤σ'.next∧∀ a,a<S.next→a≠r→a≠H→σ'.mem.get a=S.mem.get a)∧σ'.mem.get H=some (.cells 2 [u64 L,rv])∧Out S.next σ' rv rs∧res=pB (pMany pRg (M - j)) (fun hs=>F (rs++hs)) l∧rg=[(0,.ptr r 0),(2,.ptr A 0),(3,.ptr B 0),(4,.ptr H 0),(12,.int .u16 N),(13,.int .u16 i),(19,.int .u16 M),(20,.int .u16 j)]
set_option maxHeartbeats 4000000 in
theorem ctake_c {T:AVal→St→Prop} {σ:St} {r:Nat} {l:List UInt8} {c:Option Nat} {K:AVal→St→Prop} (h:RR σ r l c) (hl:l.length≤1000000)
    (hT:∀ e σ',pCu l=.error e→RStp r σ σ'→T (thrownV (e:Int)) σ')
    (hK:∀ x l' v σ',pCu l=.ok (x,l')→RR σ' r l' c→HOut σ.next σ' v x.h→HFew x.h→RStp r σ σ'→K (cv x.ml x.me v) σ'):ACall (Env.th Tryz.prog T) 29 [.ptr r 0] σ K := by
  refine ACall.of_compF hmx (fun a w=>Tryz.call29 a w) Tryz.func29 cf29 (n := 1) (by decide) rfl ?_
  have hrl:r<σ.next := by obtain ⟨_,_,_,_,h⟩ := h; exact h
  have hcl:∀ x,c=some x→x<σ.next := fun x hx=>by obtain ⟨_,_,h,_,_⟩ := h; exact h.lt hx
  simp [ac29,rs29,lk_cons]
  obtain ⟨S,hS⟩:∃ S:St,S=⟨σ.mem.set σ.next (.cells 3 [u64 0,u64 0,.nilsl]),σ.next+1⟩ := ⟨_,rfl⟩
  have gS:Grow σ S := ⟨by rw [hS]; exact Nat.le_succ _,fun a ha=>by rw [hS]; simp [show ¬ a=σ.next by omega]⟩
  have nS:S.next=σ.next+1 := by rw [hS]
  have mS:S.mem.get σ.next=some (.cells 3 [u64 0,u64 0,.nilsl]) := by rw [hS]; simp
  have er:¬ σ.next=r := by omega
  rw [← hS]
  have bad0:∀ e,pCu0 l=.error e→pCu l=.error e := fun e he=>by rw [pCu,pB_err he]
  refine ru64_c (h.grow gS) (by omega) (fun e he=>hT e S (bad0 e (by rw [pCu0]; exact pB_err he)) (gS.rstp r)) fun nl l1 σ1 h1 h2 h3=>?_
  have q1 := (pNum_len h1).1
  simp [lk_cons]
  refine ru64_c h2 (by omega) (fun e he=>hT e σ1 (bad0 e (by rw [pCu0,pB_ok h1]; exact pB_err he)) ((gS.rstp r).trans h3)) fun ne l2 σ2 k1 k2 k3=>?_
  have q2 := (pNum_len k1).1
  have s2 := ((gS.rstp r).trans h3).trans k3
  have n2 := (h3.trans k3).next
  have m2 := ((h3.trans k3).keep σ.next (by omega) er).trans mS
  have hr2:pCu0 l=pB (pNum 2) (fun n=>pB (pMany pHd n) fun h=>pR ⟨(nl:Int),(ne:Int),h⟩) l2 := by rw [pCu0,pB_ok h1,pB_ok k1]
  simp [lk_cons,fillL,storeL]
  obtain ⟨S2,hS2⟩:∃ S2:St,S2=⟨(σ2.mem.set σ2.next (.cells 3 [.int .u64 0,.int .u64 0,.nilsl])).set σ2.next (.cells 3 [.int .u64 (nl:Int),.int .u64 (ne:Int),.nilsl]),σ2.next+1⟩ := ⟨_,rfl⟩
  have gS2:Grow σ2 S2 := ⟨by rw [hS2]; exact Nat.le_succ _,fun a ha=>by rw [hS2]; simp [show ¬ a=σ2.next by omega]⟩
  have nS2:S2.next=σ2.next+1 := by rw [hS2]
  have mS2:S2.mem.get σ2.next=some (.cells 3 [u64 (nl:Int),u64 (ne:Int),.nilsl]) := by rw [hS2]; simp
  have sS2 := s2.trans (gS2.rstp r)
  obtain ⟨B,hB⟩:∃ B,σ2.next=B := ⟨_,rfl⟩
  rw [← hS2]
  refine ru16_c (k2.grow gS2) (by omega) (fun e he=>hT e S2 (bad0 e (by rw [hr2]; exact pB_err he)) sS2) fun N l3 σ3 u1 u2 u3=>?_
  have q3 := (pNum_len u1).1
  have hN := (pNum_len u1).2
  have s3 := sS2.trans u3
  have n3 := u3.next
  have hr3:pCu0 l=pB (pMany pHd N) (fun h=>pR ⟨(nl:Int),(ne:Int),h⟩) l3 := by rw [hr2,pB_ok u1]
  have mA3 := (u3.keep σ.next (by omega) er).trans ((gS2.2 _ (by omega)).trans m2)
  have mB3 := (u3.keep σ2.next (by omega) (by omega)).trans mS2
  simp [lk_cons]
  rw [hB] at mB3
  rw [hB]
  refine wp_loop (TkJ (pCu0 l) r σ.next B c (nl:Int) (ne:Int) N σ) N ?_ ?_
  · exact ⟨0,l3,[],.nilsl,rfl,Nat.zero_le _,rfl,u2,by omega,by simp,⟨by omega,fun a ha hr=>s3.keep a ha hr⟩,mA3,mB3,.inl ⟨rfl,rfl⟩,hr3,by simp [lk_cons]⟩
  rintro mm rg σ4 ⟨i,l4,acc,ov,rfl,hi,hacc,h4,hl4,hxs,⟨n4,k4⟩,mA4,mB4,ho4,hr4,rfl⟩
  have s4:RStp r σ σ4 := ⟨by omega,k4⟩
  by_cases hlt:i<N
  · have hlt':(i:Int)<N := by omega
    have w1:IntKind.u16.wrap ((i:Int)+1)=((i+1:Nat):Int) := by rw [IntWalk.u16_in] <;> omega
    obtain ⟨j0,hj0⟩:∃ j,N - i=j+1 := ⟨N - i - 1,by omega⟩
    rw [hj0,pMany_step,pHd,pB_assoc] at hr4
    simp [lk_cons,hlt,hlt']
    refine ru64_c h4 (by omega) (fun e he=>hT e σ4 (bad0 e (by rw [hr4]; exact pB_err he)) s4) fun L l5 σ5 v1 v2 v3=>?_
    have q5 := (pNum_len v1).1
    have n5 := v3.next
    rw [pB_ok v1,pB_assoc] at hr4
    simp [lk_cons,fillL,storeL]
    obtain ⟨S5,hS5⟩:∃ S5:St,S5=⟨(σ5.mem.set σ5.next (.cells 2 [.int .u64 0,.nilsl])).set σ5.next (.cells 2 [.int .u64 (L:Int),.nilsl]),σ5.next+1⟩ := ⟨_,rfl⟩
    have gS5:Grow σ5 S5 := ⟨by rw [hS5]; exact Nat.le_succ _,fun a ha=>by rw [hS5]; simp [show ¬ a=σ5.next by omega]⟩
    have nS5:S5.next=σ5.next+1 := by rw [hS5]
    have mS5:S5.mem.get σ5.next=some (.cells 2 [u64 (L:Int),.nilsl]) := by rw [hS5]; simp
    have s5 := (s4.trans v3).trans (gS5.rstp r)
    rw [← hS5]
    refine ru16_c (v2.grow gS5) (by omega) (fun e he=>hT e S5 (bad0 e (by rw [hr4]; exact pB_err he)) s5) fun M l6 σ6 x1 x2 x3=>?_
    have q6 := (pNum_len x1).1
    have hM := (pNum_len x1).2
    have n6 := x3.next
    have s6 := s5.trans x3
    rw [pB_ok x1,pB_assoc] at hr4
    have m6 := (x3.keep σ5.next (by omega) (by omega)).trans mS5
    have k46:∀ a,a<σ4.next→a≠r→σ6.mem.get a=σ4.mem.get a := fun a ha hr=>(x3.keep a (by omega) hr).trans ((gS5.2 a (by omega)).trans (v3.keep a ha hr))
    obtain ⟨H,hH⟩:∃ H,σ5.next=H := ⟨_,rfl⟩
    rw [hH] at m6
    simp [lk_cons]
    rw [hH]
    refine wp_loop (TlJ (pCu0 l) (fun rs=>pB (pMany pHd j0) fun hs=>pR ⟨(nl:Int),(ne:Int),acc++(⟨(L:Int),rs⟩:Hd) :: hs⟩) r σ.next B H c (L:Int) N i M σ6) M ?_ ?_
    · exact ⟨0,l6,[],.nilsl,rfl,Nat.zero_le _,rfl,x2,by omega,⟨Nat.le_refl _,fun _ _ _ _=>rfl⟩,m6,.inl ⟨rfl,rfl⟩,hr4,by simp [lk_cons]⟩
    rintro mm rg σ7 ⟨j,l7,rs,rv,rfl,hj,hrs,h7,hl7,⟨n7,k7⟩,mH7,ho7,hr7,rfl⟩
    have s7:RStp r σ σ7 := ⟨by omega,fun a ha hr=>(k7 a (by omega) hr (by omega)).trans (s6.keep a ha hr)⟩
    by_cases hjl:j<M
    · have hjl':(j:Int)<M := by omega
      have w2:IntKind.u16.wrap ((j:Int)+1)=((j+1:Nat):Int) := by rw [IntWalk.u16_in] <;> omega
      obtain ⟨j1,hj1⟩:∃ k,M - j=k+1 := ⟨M - j - 1,by omega⟩
      rw [hj1,pMany_step,pRg,pB_assoc] at hr7
      have hHr:¬ H=r := by omega
      simp [lk_cons,hjl,hjl',mH7]
      refine ru64_c h7 (by omega) (fun e he=>hT e σ7 (bad0 e (by rw [hr7]; exact pB_err he)) s7) fun za l8 σ8 y1 y2 y3=>?_
      have q8 := (pNum_len y1).1
      rw [pB_ok y1,pB_assoc] at hr7
      have m8 := (y3.keep H (by omega) hHr).trans mH7
      simp [lk_cons,m8]
      refine ru64_c y2 (by omega) (fun e he=>hT e σ8 (bad0 e (by rw [hr7]; exact pB_err he)) (s7.trans y3)) fun zb l9 σ9 z1 z2 z3=>?_
      have q9 := (pNum_len z1).1
      rw [pB_ok z1] at hr7
      have t9 := y3.trans z3
      have n9 := t9.next
      have m9 := (z3.keep H (by have := y3.next; omega) hHr).trans m8
      have ho9:Out σ6.next σ9 rv rs := ho7.frame n9 fun a ha hb=>t9.keep a hb (by omega)
      obtain ⟨SA,hSA⟩:∃ SA:St,SA=⟨σ9.mem.set σ9.next (.cells 2 [u64 (za:Int),u64 (zb:Int)]),σ9.next+1⟩ := ⟨_,rfl⟩
      have nSA:SA.next=σ9.next+1 := by rw [hSA]
      have kSA:∀ a,a<σ9.next→SA.mem.get a=σ9.mem.get a := fun a ha=>by rw [hSA]; simp [show ¬ a=σ9.next by omega]
      obtain ⟨w,σb,e1,e2,e3,e4⟩ := out_app (ho9.frame (σ' := SA) (by omega) fun a _ ha=>kSA a ha) (by omega) (b := σ9.next) (x := (za:Int)) (y := (zb:Int)) (by rw [hSA]; simp) (by omega)
      rw [hSA] at e1
      have mb:σb.mem.get H=some (.cells 2 [u64 (L:Int),rv]) := (e4 H (by omega)).trans ((kSA H (by omega)).trans m9)
      have ow := e2.one
      simp [lk_cons,m9,fillL,repL,storeL,↓e1,mb,ow,w2]
      have kB:∀ a,a<σ6.next→a≠H→(σb.mem.set H (.cells 2 [u64 (L:Int),w])).get a=σ9.mem.get a := fun a ha hne=>by
        simp [hne]
        exact (e4 a ha).trans (kSA a (by omega))
      refine ⟨M - (j+1),by omega,j+1,l9,rs++[⟨(za:Int),(zb:Int)⟩],w,rfl,by omega,by simp [hrs],?_,by omega,⟨by show σ6.next≤σb.next; omega,fun a ha h1 h2=>?_⟩,by simp,?_,?_,rfl⟩
      · refine z2.keep (by show σ9.next≤σb.next; omega) fun a ha hac=>kB a ?_ ?_
        · rcases hac with rfl | hac
          · omega
          · have := hcl a hac; omega
        · rcases hac with rfl | hac
          · omega
          · have := hcl a hac; omega
      · rw [kB a ha h2,t9.keep a (by omega) h1]
        exact k7 a ha h1 h2
      · refine e2.frame (Nat.le_refl _) fun a ha hb=>?_
        simp [show ¬ a=H by omega]
      · rw [hr7,show M - (j+1)=j1 by omega]
        simp [pB_pR]
        rfl
    have:j=M := by omega
    subst this
    rw [Nat.sub_self] at hr7
    have hr7:pCu0 l=pB (pMany pHd j0) (fun hs=>pR ⟨(nl:Int),(ne:Int),acc++(⟨(L:Int),rs⟩:Hd) :: hs⟩) l7 := by rw [hr7]; simp [pMany,pB_pR]
    have mB7:σ7.mem.get B=some (.cells 3 [u64 (nl:Int),u64 (ne:Int),ov]) := (k7 B (by omega) (by omega) (by omega)).trans ((k46 B (by omega) (by omega)).trans mB4)
    have k47:∀ a,a<σ4.next→a≠r→σ7.mem.get a=σ4.mem.get a := fun a ha hr=>(k7 a (by omega) hr (by omega)).trans (k46 a ha hr)
    have orv := ho7.one
    obtain ⟨SA,hSA⟩:∃ SA:St,SA=⟨σ7.mem.set σ7.next (.cells 2 [u64 (L:Int),rv]),σ7.next+1⟩ := ⟨_,rfl⟩
    have nSA:SA.next=σ7.next+1 := by rw [hSA]
    have kSA:∀ a,a<σ7.next→SA.mem.get a=σ7.mem.get a := fun a ha=>by rw [hSA]; simp [show ¬ a=σ7.next by omega]
    obtain ⟨w,σb,e1,e2,e3,e4⟩ := hout_app ho4 (ρ := SA) (by omega) (fun a ha hb=>(kSA a (by omega)).trans (k47 a hb (by omega))) (by omega) (b := σ7.next) (L := (L:Int)) (rv := rv) (r := rs) (by rw [hSA]; simp) (ho7.rgn (by omega) (by omega) fun a _ ha=>kSA a ha) (by omega)
    rw [hSA] at e1
    have mb:σb.mem.get B=some (.cells 3 [u64 (nl:Int),u64 (ne:Int),ov]) := (e4 B (by omega) (.inl (by omega))).trans ((kSA B (by omega)).trans mB7)
    have ow := e2.one
    have eH:¬ H=σ7.next := by omega
    have eB:¬ B=σ7.next := by omega
    simp [lk_cons,mB7,mH7,fillL,repL,storeL,↓e1,mb,ow,orv,w1]
    have kB:∀ a,a<B→(σb.mem.set B (.cells 3 [u64 (nl:Int),u64 (ne:Int),w])).get a=σ7.mem.get a := fun a ha=>by
      simp [show ¬ a=B by omega]
      exact (e4 a (by omega) (.inl (by omega))).trans (kSA a (by omega))
    refine ⟨N - (i+1),by omega,i+1,l7,acc++[⟨(L:Int),rs⟩],w,rfl,by omega,by simp [hacc],?_,by omega,?_,⟨by show B+1≤σb.next; omega,fun a ha hr=>?_⟩,?_,by simp,?_,?_,rfl⟩
    · refine h7.keep (by show σ7.next≤σb.next; omega) fun a ha hac=>kB a ?_
      rcases hac with rfl | hac
      · omega
      · have := hcl a hac; omega
    · intro x hx
      rcases List.mem_append.1 hx with hx | hx
      · exact hxs x hx
      · simp at hx; subst hx; simp only; omega
    · rw [kB a (by omega),k47 a (by omega) hr]
      exact k4 a ha hr
    · rw [kB σ.next (by omega),k47 σ.next (by omega) er]
      exact mA4
    · refine e2.frame (Nat.le_refl _) fun a ha hb=>?_
      simp [show ¬ a=B by omega]
    · rw [hr7,show N - (i+1)=j0 by omega]
      simp
  have:i=N := by omega
  subst this
  rw [Nat.sub_self] at hr4
  have hr4:pCu0 l=.ok (⟨(nl:Int),(ne:Int),acc⟩,l4) := by rw [hr4]; simp [pMany,pB_pR,pR]
  have hfew:HFew acc := ⟨by omega,fun x hx=>by have := hxs x hx; omega⟩
  have ow := ho4.one
  simp [lk_cons,mB4]
  refine ACall.into (ccheck_g (.inr ⟨B+1,ho4⟩) hfew _ _ _ fun b hb=>?_)
  cases b with
  | false =>
    have hc:cuOkB nl ne acc=false := by
      cases hq:cuOkB nl ne acc with
      | false=>rfl
      | true=>exact absurd (hb.2 ((cuOkB_iff _ _ _).1 hq)) (by simp)
    simp [lk_cons]
    refine fail_c (fun _=>hT 23 σ4 (by rw [pCu,pB_ok hr4]; simp [hc]) s4) fun e=>by cases e
  | true =>
    have hc:cuOkB nl ne acc=true := (cuOkB_iff _ _ _).2 (hb.1 rfl)
    simp [lk_cons,mB4,mA4,storeL,ow]
    have hAB:σ.next≤B := by omega
    refine hK ⟨(nl:Int),(ne:Int),acc⟩ l4 ov _ (by rw [pCu,pB_ok hr4]; simp [hc]) (h4.keep (Nat.le_refl _) fun a ha hac=>?_) (HOut.mono (lo := B+1) (lo' := σ.next) (ho4.frame (Nat.le_refl _) fun a ha hb=>?_) (by omega)) hfew ⟨by show σ.next≤σ4.next; omega,fun a ha hr=>?_⟩
    · have:a≠σ.next := by
        rcases hac with rfl | hac
        · omega
        · have := hcl a hac; omega
      simp [this]
    · simp [show ¬ a=σ.next by omega]
    · simp [show ¬ a=σ.next by omega]
      exact k4 a ha hr
end Go.Proofs.YticefdfhcahlfaaGreatDoor.AM

namespace Go.Proofs.YticefdfhcahlfaaGreatDoor.AM
open Go.RowKit
set_option maxRecDepth 100000
set_option linter.unusedVariables false
set_option linter.unusedSimpArgs false
def Rd (k:Nat) (σ:St) (v:AVal) (n:Nat) (cs:List AVal):Prop := cs.length=n*k∧(v=.nilsl∧n=0∨(∃ t,v=.isl cs n t)∨∃ o c t,v=.sl o 0 n c t∧o<σ.next∧σ.mem.get o=some (.cells k cs))
theorem Rd.len {k:Nat} {σ:St} {v:AVal} {n:Nat} {cs:List AVal} (h:Rd k σ v n cs) (ρ:St):evalV ρ (.len 1 v)=some (i64 n,ρ) := by
  rcases h with ⟨_,⟨rfl,rfl⟩ | ⟨t,rfl⟩ | ⟨o,c,t,rfl,_⟩⟩ <;> simp
theorem Rd.one {k:Nat} {σ:St} {v:AVal} {n:Nat} {cs:List AVal} (h:Rd k σ v n cs):v.one=true∧cellsOf v=[v] := by
  rcases h with ⟨_,⟨rfl,rfl⟩ | ⟨t,rfl⟩ | ⟨o,c,t,rfl,_⟩⟩ <;> simp
theorem Rd.frame {k:Nat} {σ σ':St} {v:AVal} {n:Nat} {cs:List AVal} (h:Rd k σ v n cs) (hn:σ.next≤σ'.next) (hm:∀ a,a<σ.next→σ'.mem.get a=σ.mem.get a):Rd k σ' v n cs := by
  rcases h with ⟨h0,h | h | ⟨o,c,t,h1,h2,h3⟩⟩
  · exact ⟨h0,.inl h⟩
  · exact ⟨h0,.inr (.inl h)⟩
  · exact ⟨h0,.inr (.inr ⟨o,c,t,h1,by omega,(hm o h2).trans h3⟩)⟩
theorem Rd.at {k:Nat} {σ:St} {v:AVal} {n:Nat} {cs:List AVal} (h:Rd k σ v n cs) {i:Nat} (hi:i<n) {ρ:St} (hm:∀ a,a<σ.next→ρ.mem.get a=σ.mem.get a) :
    ∃ p,evalV ρ (.idxAddr k v (i64 i))=some (p,ρ)∧evalV ρ (.ldn k p)=some (.agg ((cs.drop (i*k)).take k),ρ)∧∀ f m,f+m≤k→∃ q,evalV ρ (.fieldAddr f p)=some (q,ρ)∧evalV ρ (.ldn m q)=some (.agg ((cs.drop (i*k+f)).take m),ρ)∧∀ x,0<m→cs[i*k+f]?=some x→evalV ρ (.ld1 q)=some (x,ρ) := by
  rcases h with ⟨h0,⟨rfl,rfl⟩ | ⟨t,rfl⟩ | ⟨o,c,t,rfl,h2,h3⟩⟩
  · omega
  · have hik:i*k+k≤cs.length := by
      have:(i+1)*k≤n*k := Nat.mul_le_mul_right k (by omega)
      rw [Nat.succ_mul] at this; omega
    have hln:((cs.drop (i*k)).take k).length=k := by rw [List.length_take,List.length_drop]; omega
    refine ⟨.iptr ((cs.drop (i*k)).take k),by simp [hi],?_,fun f m hf=>⟨.iptr (((cs.drop (i*k)).take k).drop f),by simp,?_,fun x h1 hx=>?_⟩⟩
    · simp only [evalV,loadL,hln,Nat.le_refl,if_true,Option.map_some]
      rw [List.take_of_length_le (by omega)]
    · have hl2:m≤(((cs.drop (i*k)).take k).drop f).length := by rw [List.length_drop,hln]; omega
      have e:(((cs.drop (i*k)).take k).drop f).take m=(cs.drop (i*k+f)).take m := by
        rw [List.drop_take,List.drop_drop,List.take_take,Nat.min_eq_left (by omega)]
      simp only [evalV,loadL,hl2,if_true,Option.map_some,e]
    · have e:(((cs.drop (i*k)).take k).drop f)[0]?=some x := by
        rw [List.drop_take,List.drop_drop,List.getElem?_take,if_pos (by omega),List.getElem?_drop,Nat.add_zero]; exact hx
      simp only [evalV,load1,e,Option.map_some]
  · have hik:i*k+k≤cs.length := by
      have:(i+1)*k≤n*k := Nat.mul_le_mul_right k (by omega)
      rw [Nat.succ_mul] at this; omega
    have ga := (hm o h2).trans h3
    refine ⟨.ptr o (i*k),by simp [hi],?_,fun f m hf=>⟨.ptr o (i*k+f),by simp,?_,fun x h1 hx=>?_⟩⟩
    · simp only [evalV,loadL,ga,hik,if_true,Option.map_some]
    · have hl2:i*k+f+m≤cs.length := by omega
      simp only [evalV,loadL,ga,hl2,if_true,Option.map_some]
    · simp only [evalV,load1,ga,hx,Option.map_some]
theorem ldc_take:∀ {t:List Ld} {i:Nat} {x:Ld},t[i]?=some x→((ldc t).drop (i*3)).take 3=[u64 x.f0,.bool x.f1,u64 x.f2]∧(ldc t)[i*3]?=some (u64 x.f0)∧(ldc t)[i*3+1]?=some (.bool x.f1)∧(ldc t)[i*3+2]?=some (u64 x.f2)
  | y :: t,0,x,h=>by simp at h; subst h; simp [ldc]
  | y :: t,i+1,x,h=>by
    have ih := ldc_take (t := t) (i := i) (x := x) (by simpa using h)
    rw [show (i+1)*3=i*3+1+1+1 by omega]
    simpa [ldc] using ih
  | [],_,_,h=>by simp at h
def ldCond (t:List Ld) (i:Nat):Prop := ∀ x,t[i]?=some x→x.f0≠0∧x.f2≤1048576∧(∀ y,0<i→t[i - 1]?=some y→y.f0<x.f0)∧(x.f1=false→x.f2=0∧i+1=t.length)
def ldOk (t:List Ld):Prop := t.length≤64∧∀ i,i<t.length→ldCond t i
theorem ldOk_step {t:List Ld} {i:Nat} (hh:∀ j,j<i→ldCond t j) (hi:ldCond t i):∀ j,j<i+1→ldCond t j := fun j hj=>by
  by_cases e:j=i
  · rw [e]; exact hi
  · exact hh j (by omega)
theorem no_of {P:Prop} (hp:¬ P):false=true↔P := ⟨fun e=>by simp at e,fun e=>absurd e hp⟩
def LcJ (v:AVal) (t:List Ld) (σ0:St) (mm:Nat) (rg:Regs) (σ':St):Prop := ∃ i:Nat,mm=t.length - i∧i≤t.length∧Grow σ0 σ'∧(∀ j,j<i→ldCond t j)∧rg=[(0,v),(8,v),(9,i64 t.length),(10,i64 i)]
set_option maxHeartbeats 2000000 in
theorem ldcheck_g {σ:St} {v:AVal} {t:List Ld} (hv:Rd 3 σ v t.length (ldc t)) (hl:t.length≤1000000) (hp:∀ x∈t,0≤x.f2) (Q:AVal→St→Prop) (h:∀ b,(b=true↔ldOk t)→Q (.bool b) σ):ACall Tryz.prog 73 [v] σ Q := by
  refine ACall.scrub ?_
  refine ACall.of_compF hmx (fun a w=>Tryz.call73 a w) Tryz.func73 cf73 (n := 1) (by decide) rfl ?_
  have l1 := hv.len
  by_cases h64:64<t.length
  · have h64':(64:Int)<t.length := by omega
    simp [ac73,rs73,lk_cons,↓l1,h64,h64']
    exact ⟨fun a ha=>rfl,h false (no_of fun e=>by have := e.1; omega)⟩
  have h64':¬ (64:Int)<t.length := by omega
  simp [ac73,rs73,lk_cons,↓l1,h64,h64']
  refine wp_loop (LcJ v t σ) t.length ?_ ?_
  · exact ⟨0,rfl,Nat.zero_le _,Grow.refl _,by omega,rfl⟩
  · rintro mm rg σ' ⟨i,rfl,hi,hg,hall,rfl⟩
    by_cases hlt:i<t.length
    · obtain ⟨x,hx⟩:∃ x,t[i]?=some x := ⟨_,List.getElem?_eq_getElem hlt⟩
      obtain ⟨k,hk⟩:∃ k,i+1=k := ⟨_,rfl⟩
      have w1:IntKind.i64.wrap ((i:Int)+1)=(k:Int) := by rw [IntWalk.i64_in] <;> omega
      obtain ⟨p,p1,p2,_⟩ := hv.at hlt (ρ := σ') hg.2
      rw [(ldc_take hx).1] at p2
      have hg1 := hg.1
      have hx2 := hp x (List.mem_of_getElem? hx)
      have gr:∀ b0 b1:Blk,Grow σ ⟨(σ'.mem.set σ'.next b0).set σ'.next b1,σ'.next+1⟩ := fun b0 b1=>⟨by simp; omega,fun a ha=>by simp [show ¬ a=σ'.next by omega]; exact hg.2 a ha⟩
      have bad:∀ (b0 b1:Blk),¬ ldCond t i→(∀ a,a<σ.next→((σ'.mem.set σ'.next b0).set σ'.next b1).get a=σ.mem.get a)∧Q (.bool false) σ := fun b0 b1 hc=>⟨fun a ha=>(gr b0 b1).2 a ha,h false (no_of fun e=>hc (e.2 i hlt))⟩
      by_cases c1:x.f0=0
      · simp [lk_cons,hlt,↓p1,↓p2,storeL,c1]
        exact ⟨fun a ha=>(gr _ _).2 a ha,h false (no_of fun e=>(e.2 i hlt x hx).1 c1)⟩
      by_cases c2:1048576<x.f2
      · simp [lk_cons,hlt,↓p1,↓p2,storeL,c1,c2]
        exact ⟨fun a ha=>(gr _ _).2 a ha,h false (no_of fun e=>by have := (e.2 i hlt x hx).2.1; omega)⟩
      have ws:IntKind.i64.wrap ((t.length:Int) - 1)=(t.length:Int) - 1 := by rw [IntWalk.i64_in] <;> omega
      have last:∀ (hc:∀ y,0<i→t[i - 1]?=some y→y.f0<x.f0),(x.f1=false∧0<x.f2)∨(x.f1=false∧¬ 0<x.f2∧(i:Int)<(t.length:Int) - 1)∨(x.f1=false∧¬ 0<x.f2∧¬ (i:Int)<(t.length:Int) - 1∧ldCond t i)∨(x.f1=true∧ldCond t i) := fun hc=>by
        have mk:(x.f1=false→x.f2=0∧i+1=t.length)→ldCond t i := fun hd x' hx'=>by
          rw [hx] at hx'; cases hx'
          exact ⟨c1,by omega,hc,hd⟩
        cases hx1:x.f1 with
        | true=>exact .inr (.inr (.inr ⟨rfl,mk fun e=>by rw [hx1] at e; cases e⟩))
        | false =>
          by_cases hz:0<x.f2
          · exact .inl ⟨rfl,hz⟩
          by_cases hz2:(i:Int)<(t.length:Int) - 1
          · exact .inr (.inl ⟨rfl,hz,hz2⟩)
          · exact .inr (.inr (.inl ⟨rfl,hz,hz2,mk fun _=>⟨by omega,by omega⟩⟩))
      have fin:ldCond t i→∀ b0 b1:Blk,∃ m',m'<t.length - i∧LcJ v t σ m' [(0,v),(8,v),(9,i64 t.length),(10,i64 k)] ⟨(σ'.mem.set σ'.next b0).set σ'.next b1,σ'.next+1⟩ := fun hc b0 b1 =>
        ⟨t.length - k,by omega,k,rfl,by omega,gr b0 b1,by rw [← hk]; exact ldOk_step hall hc,rfl⟩
      by_cases hi0:i=0
      · have hi1:¬ 0<i := by omega
        rcases last fun y h0=>absurd h0 hi1 with ⟨e1,e2⟩ | ⟨e1,e2,e3⟩ | ⟨e1,e2,e3,hc⟩ | ⟨e1,hc⟩
        · simp [lk_cons,hlt,↓p1,↓p2,storeL,c1,c2,hi1,e1,e2]
          exact ⟨fun a ha=>(gr _ _).2 a ha,h false (no_of fun e=>by have := ((e.2 i hlt x hx).2.2.2 e1).1; omega)⟩
        · simp [lk_cons,hlt,↓p1,↓p2,storeL,c1,c2,hi1,e1,e2,e3,↓l1,ws]
          exact ⟨fun a ha=>(gr _ _).2 a ha,h false (no_of fun e=>by have := ((e.2 i hlt x hx).2.2.2 e1).2; omega)⟩
        · simp [lk_cons,hlt,↓p1,↓p2,storeL,c1,c2,hi1,e1,e2,e3,↓l1,ws,w1]
          exact fin hc _ _
        · simp [lk_cons,hlt,↓p1,↓p2,storeL,c1,c2,hi1,e1,w1]
          exact fin hc _ _
      · obtain ⟨j,hj⟩:∃ j,j+1=i := ⟨i - 1,by omega⟩
        obtain ⟨y,hy⟩:∃ y,t[j]?=some y := ⟨_,List.getElem?_eq_getElem (by omega)⟩
        have w2:IntKind.i64.wrap ((i:Int) - 1)=(j:Int) := by rw [IntWalk.i64_in] <;> omega
        have hi1:0<i := by omega
        have hji:i - 1=j := by omega
        obtain ⟨q,q1,_,q2⟩ := hv.at (show j<t.length by omega) (ρ := ⟨(σ'.mem.set σ'.next (.cells 3 [.int .u64 0,.bool false,.int .u64 0])).set σ'.next (.cells 3 [u64 x.f0,.bool x.f1,u64 x.f2]),σ'.next+1⟩) (gr _ _).2
        obtain ⟨r,r1,_,r2⟩ := q2 0 1 (by decide)
        have r2 := r2 _ (by decide) (ldc_take hy).2.1
        by_cases c3:x.f0≤y.f0
        · simp [lk_cons,hlt,↓p1,↓p2,storeL,c1,c2,hi1,w2,↓q1,↓r1,↓r2,c3]
          exact ⟨fun a ha=>(gr _ _).2 a ha,h false (no_of fun e=>by have := (e.2 i hlt x hx).2.2.1 y hi1 (by rw [hji]; exact hy); omega)⟩
        rcases last fun z _ hz=>(by rw [hji,hy] at hz; cases hz; omega) with ⟨e1,e2⟩ | ⟨e1,e2,e3⟩ | ⟨e1,e2,e3,hc⟩ | ⟨e1,hc⟩ <;> rw [e1] at p2 q1 r1 r2
        · simp [lk_cons,hlt,↓p1,↓p2,storeL,c1,c2,hi1,w2,↓q1,↓r1,↓r2,c3,e2]
          exact ⟨fun a ha=>(gr _ _).2 a ha,h false (no_of fun e=>by have := ((e.2 i hlt x hx).2.2.2 e1).1; omega)⟩
        · simp [lk_cons,hlt,↓p1,↓p2,storeL,c1,c2,hi1,w2,↓q1,↓r1,↓r2,c3,e2,e3,↓l1,ws]
          exact ⟨fun a ha=>(gr _ _).2 a ha,h false (no_of fun e=>by have := ((e.2 i hlt x hx).2.2.2 e1).2; omega)⟩
        · simp [lk_cons,hlt,↓p1,↓p2,storeL,c1,c2,hi1,w2,↓q1,↓r1,↓r2,c3,e2,e3,↓l1,ws,w1]
          exact fin hc _ _
        · simp [lk_cons,hlt,↓p1,↓p2,storeL,c1,c2,hi1,w2,↓q1,↓r1,↓r2,c3,w1]
          exact fin hc _ _
    · have:i=t.length := by omega
      subst this
      simp [lk_cons]
      exact ⟨fun a ha=>hg.2 a ha,h true ⟨fun _=>⟨by omega,hall⟩,fun _=>rfl⟩⟩
end Go.Proofs.YticefdfhcahlfaaGreatDoor.AM

namespace Go.Proofs.YticefdfhcahlfaaGreatDoor.AM
open Go.RowKit
set_option maxRecDepth 100000
set_option linter.unusedVariables false
set_option linter.unusedSimpArgs false
def LrJ (v:AVal) (t:List Ld) (σ0:St) (mm:Nat) (rg:Regs) (σ':St):Prop := ∃ i:Nat,mm=t.length - i∧i≤t.length∧σ'=σ0∧(∀ j,j<i→ldCond t j)∧rg=[(0,v),(3,i64 i)]
set_option maxHeartbeats 2000000 in
theorem ldright_g {σ:St} {v:AVal} {t:List Ld} (hv:Rd 3 σ v t.length (ldc t)) (hl:t.length≤1000000) (hp:∀ x∈t,0≤x.f2) (Q:AVal→St→Prop) (h:∀ b,(b=true↔ldOk t)→Q (.bool b) σ):ACall Tryz.prog 59 [v] σ Q := by
  refine ACall.of_compF hmx (fun a w=>Tryz.call59 a w) Tryz.func59 cf59 (n := 1) (by decide) rfl ?_
  have l1 := hv.len
  by_cases h64:64<t.length
  · have h64':(64:Int)<t.length := by omega
    simp [ac59,rs59,lk_cons,↓l1,h64,h64']
    exact h false (no_of fun e=>by have := e.1; omega)
  have h64':¬ (64:Int)<t.length := by omega
  simp [ac59,rs59,lk_cons,↓l1,h64,h64']
  refine wp_loop (LrJ v t σ) t.length ?_ ?_
  · exact ⟨0,rfl,Nat.zero_le _,rfl,by omega,rfl⟩
  · rintro mm rg σ' ⟨i,rfl,hi,rfl,hall,rfl⟩
    by_cases hlt:i<t.length
    · obtain ⟨x,hx⟩:∃ x,t[i]?=some x := ⟨_,List.getElem?_eq_getElem hlt⟩
      obtain ⟨k,hk⟩:∃ k,i+1=k := ⟨_,rfl⟩
      have w1:IntKind.i64.wrap ((i:Int)+1)=(k:Int) := by rw [IntWalk.i64_in] <;> omega
      obtain ⟨p,p1,_,pf⟩ := hv.at hlt (ρ := σ') fun _ _=>rfl
      obtain ⟨q0,a1,_,a2⟩ := pf 0 1 (by decide)
      obtain ⟨q1,b1,_,b2⟩ := pf 1 1 (by decide)
      obtain ⟨q2,d1,_,d2⟩ := pf 2 1 (by decide)
      have a2 := a2 _ (by decide) (ldc_take hx).2.1
      have b2 := b2 _ (by decide) (ldc_take hx).2.2.1
      have d2 := d2 _ (by decide) (ldc_take hx).2.2.2
      have hx2 := hp x (List.mem_of_getElem? hx)
      by_cases c1:x.f0=0
      · simp [lk_cons,↓l1,hlt,↓p1,↓a1,↓a2,↓b1,↓b2,↓d1,↓d2,c1]
        exact h false (no_of fun e=>(e.2 i hlt x hx).1 c1)
      by_cases c2:1048576<x.f2
      · simp [lk_cons,↓l1,hlt,↓p1,↓a1,↓a2,↓b1,↓b2,↓d1,↓d2,c1,c2]
        exact h false (no_of fun e=>by have := (e.2 i hlt x hx).2.1; omega)
      have ws:IntKind.i64.wrap ((t.length:Int) - 1)=(t.length:Int) - 1 := by rw [IntWalk.i64_in] <;> omega
      have last:∀ (hc:∀ y,0<i→t[i - 1]?=some y→y.f0<x.f0),(x.f1=false∧¬ (i:Int)=(t.length:Int) - 1)∨(x.f1=false∧(i:Int)=(t.length:Int) - 1∧¬ x.f2=0)∨(x.f1=false∧(i:Int)=(t.length:Int) - 1∧x.f2=0∧ldCond t i)∨(x.f1=true∧ldCond t i) := fun hc=>by
        have mk:(x.f1=false→x.f2=0∧i+1=t.length)→ldCond t i := fun hd x' hx'=>by
          rw [hx] at hx'; cases hx'
          exact ⟨c1,by omega,hc,hd⟩
        cases hx1:x.f1 with
        | true=>exact .inr (.inr (.inr ⟨rfl,mk fun e=>by rw [hx1] at e; cases e⟩))
        | false =>
          by_cases hz2:(i:Int)=(t.length:Int) - 1
          · by_cases hz:x.f2=0
            · exact .inr (.inr (.inl ⟨rfl,hz2,hz,mk fun _=>⟨hz,by omega⟩⟩))
            · exact .inr (.inl ⟨rfl,hz2,hz⟩)
          · exact .inl ⟨rfl,hz2⟩
      have fin:ldCond t i→∃ m',m'<t.length - i∧LrJ v t σ' m' [(0,v),(3,i64 k)] σ' := fun hc =>
        ⟨t.length - k,by omega,k,rfl,by omega,rfl,by rw [← hk]; exact ldOk_step hall hc,rfl⟩
      by_cases hi0:i=0
      · have hi1:¬ 0<i := by omega
        rcases last fun y h0=>absurd h0 hi1 with ⟨e1,e2⟩ | ⟨e1,e2,e3⟩ | ⟨e1,e2,e3,hc⟩ | ⟨e1,hc⟩ <;> rw [e1] at b2
        · simp [lk_cons,↓l1,hlt,↓p1,↓a1,↓a2,↓b1,↓b2,↓d1,↓d2,c1,c2,hi1,ws,e2]
          exact h false (no_of fun e=>by have := ((e.2 i hlt x hx).2.2.2 e1).2; omega)
        · simp [lk_cons,↓l1,hlt,↓p1,↓a1,↓a2,↓b1,↓b2,↓d1,↓d2,c1,c2,hi1,ws,iff_true_intro e2,e3]
          exact h false (no_of fun e=>by have := ((e.2 i hlt x hx).2.2.2 e1).1; omega)
        · rw [e3] at d2
          simp [lk_cons,↓l1,hlt,↓p1,↓a1,↓a2,↓b1,↓b2,↓d1,↓d2,c1,hi1,ws,iff_true_intro e2,w1]
          exact fin hc
        · simp [lk_cons,↓l1,hlt,↓p1,↓a1,↓a2,↓b1,↓b2,↓d1,↓d2,c1,c2,hi1,w1]
          exact fin hc
      · obtain ⟨j,hj⟩:∃ j,j+1=i := ⟨i - 1,by omega⟩
        obtain ⟨y,hy⟩:∃ y,t[j]?=some y := ⟨_,List.getElem?_eq_getElem (by omega)⟩
        have w2:IntKind.i64.wrap ((i:Int) - 1)=(j:Int) := by rw [IntWalk.i64_in] <;> omega
        have hi1:0<i := by omega
        have hji:i - 1=j := by omega
        obtain ⟨q,r0,_,rf⟩ := hv.at (show j<t.length by omega) (ρ := σ') fun _ _=>rfl
        obtain ⟨r,r1,_,r2⟩ := rf 0 1 (by decide)
        have r2 := r2 _ (by decide) (ldc_take hy).2.1
        by_cases c3:x.f0≤y.f0
        · simp [lk_cons,↓l1,hlt,↓p1,↓a1,↓a2,↓b1,↓b2,↓d1,↓d2,c1,c2,hi1,w2,↓r0,↓r1,↓r2,c3]
          exact h false (no_of fun e=>by have := (e.2 i hlt x hx).2.2.1 y hi1 (by rw [hji]; exact hy); omega)
        rcases last fun z _ hz=>(by rw [hji,hy] at hz; cases hz; omega) with ⟨e1,e2⟩ | ⟨e1,e2,e3⟩ | ⟨e1,e2,e3,hc⟩ | ⟨e1,hc⟩ <;> rw [e1] at b2
        · simp [lk_cons,↓l1,hlt,↓p1,↓a1,↓a2,↓b1,↓b2,↓d1,↓d2,c1,c2,hi1,w2,↓r0,↓r1,↓r2,c3,ws,e2]
          exact h false (no_of fun e=>by have := ((e.2 i hlt x hx).2.2.2 e1).2; omega)
        · simp [lk_cons,↓l1,hlt,↓p1,↓a1,↓a2,↓b1,↓b2,↓d1,↓d2,c1,c2,hi1,w2,↓r0,↓r1,↓r2,c3,ws,iff_true_intro e2,e3]
          exact h false (no_of fun e=>by have := ((e.2 i hlt x hx).2.2.2 e1).1; omega)
        · rw [e3] at d2
          simp [lk_cons,↓l1,hlt,↓p1,↓a1,↓a2,↓b1,↓b2,↓d1,↓d2,c1,hi1,w2,↓r0,↓r1,↓r2,c3,ws,iff_true_intro e2,w1]
          exact fin hc
        · simp [lk_cons,↓l1,hlt,↓p1,↓a1,↓a2,↓b1,↓b2,↓d1,↓d2,c1,c2,hi1,w2,↓r0,↓r1,↓r2,c3,w1]
          exact fin hc
    · have:i=t.length := by omega
      subst this
      simp [lk_cons,↓l1]
      exact h true ⟨fun _=>⟨by omega,hall⟩,fun _=>rfl⟩
end Go.Proofs.YticefdfhcahlfaaGreatDoor.AM

namespace Go.Proofs.YticefdfhcahlfaaGreatDoor.AM
open Go.RowKit
set_option maxRecDepth 100000
set_option linter.unusedVariables false
set_option linter.unusedSimpArgs false
structure SbV where
  name:ByteArray
  kind:Nat
  ml:Int
  me:Int
  h:List Hd
def sbA (x:SbV) (hv:AVal):List AVal := [.str x.name,.int .u8 (x.kind:Int),u64 x.ml,u64 x.me,hv]
def SbC (σ:St):List AVal→List SbV→Prop
  | [],[]=>True
  | a :: b :: c :: d :: e :: cs,x :: xs=>(a=.str x.name∧b=.int .u8 (x.kind:Int)∧c=u64 x.ml∧d=u64 x.me∧HR σ e x.h)∧SbC σ cs xs
  | _,_=>False
theorem SbC.len {σ:St}:∀ {cs:List AVal} {xs:List SbV},SbC σ cs xs→cs.length=xs.length*5
  | [],[],_=>rfl
  | a :: b :: c :: d :: e :: cs,x :: xs,h=>by simp [h.2.len]; omega
  | [],_ :: _,h=>h.elim
  | [_],_,h=>by cases ‹List SbV› <;> exact h.elim
  | [_,_],_,h=>by cases ‹List SbV› <;> exact h.elim
  | [_,_,_],_,h=>by cases ‹List SbV› <;> exact h.elim
  | [_,_,_,_],_,h=>by cases ‹List SbV› <;> exact h.elim
  | _ :: _ :: _ :: _ :: _ :: _,[],h=>h.elim
theorem SbC.get {σ:St}:∀ {cs:List AVal} {xs:List SbV} {i:Nat} {x:SbV},SbC σ cs xs→xs[i]?=some x→∃ hv,HR σ hv x.h∧(cs.drop (i*5)).take 5=sbA x hv∧cs[i*5]?=some (.str x.name)∧cs[i*5+1]?=some (.int .u8 (x.kind:Int))∧(cs.drop (i*5+2)).take 3=[u64 x.ml,u64 x.me,hv]∧(cs.drop (i*5+2)).take 2=[u64 x.ml,u64 x.me]
  | a :: b :: c :: d :: e :: cs,y :: xs,0,x,h,hx=>by
    simp at hx; subst hx
    obtain ⟨⟨rfl,rfl,rfl,rfl,h5⟩,_⟩ := h
    exact ⟨e,h5,by simp [sbA],by simp,by simp,by simp,by simp⟩
  | a :: b :: c :: d :: e :: cs,y :: xs,i+1,x,h,hx=>by
    obtain ⟨hv,h1,h2,h3,h4,h5,h6⟩ := h.2.get (i := i) (by simpa using hx)
    have e1:(i+1)*5=i*5+1+1+1+1+1 := by omega
    have e2:(i+1)*5+2=(i*5+2)+1+1+1+1+1 := by omega
    have e3:(i+1)*5+1=(i*5+1)+1+1+1+1+1 := by omega
    exact ⟨hv,h1,by rw [e1]; simpa using h2,by rw [e1]; simpa using h3,by rw [e3]; simpa using h4,by rw [e2]; simpa using h5,by rw [e2]; simpa using h6⟩
  | [],[],_,_,_,hx=>by simp at hx
  | [],_ :: _,_,_,h,_=>h.elim
  | [_],_,_,_,h,_=>by cases ‹List SbV› <;> exact h.elim
  | [_,_],_,_,_,h,_=>by cases ‹List SbV› <;> exact h.elim
  | [_,_,_],_,_,_,h,_=>by cases ‹List SbV› <;> exact h.elim
  | [_,_,_,_],_,_,_,h,_=>by cases ‹List SbV› <;> exact h.elim
  | _ :: _ :: _ :: _ :: _ :: _,[],_,_,h,_=>h.elim
theorem SbC.frame {σ σ':St} (hn:σ.next≤σ'.next) (hm:∀ a,a<σ.next→σ'.mem.get a=σ.mem.get a):∀ {cs:List AVal} {xs:List SbV},SbC σ cs xs→SbC σ' cs xs
  | [],[],_=>trivial
  | a :: b :: c :: d :: e :: cs,x :: xs,h=>⟨⟨h.1.1,h.1.2.1,h.1.2.2.1,h.1.2.2.2.1,h.1.2.2.2.2.frame hn hm⟩,SbC.frame hn hm h.2⟩
  | [],_ :: _,h=>h.elim
  | [_],_,h=>by cases ‹List SbV› <;> exact h.elim
  | [_,_],_,h=>by cases ‹List SbV› <;> exact h.elim
  | [_,_,_],_,h=>by cases ‹List SbV› <;> exact h.elim
  | [_,_,_,_],_,h=>by cases ‹List SbV› <;> exact h.elim
  | _ :: _ :: _ :: _ :: _ :: _,[],h=>h.elim
def sbCond (s:List SbV) (i:Nat):Prop := ∀ x,s[i]?=some x→(1≤x.name.size∧x.name.size≤64)∧(∀ y,0<i→s[i - 1]?=some y→lessB y.name x.name=true)∧(1≤x.kind∧x.kind≤4)∧cuOk x.ml x.me x.h
def tpOk (last:Int) (t:List Ld) (s:List SbV):Prop := ldOk t∧(∀ x,t[t.length - 1]?=some x→x.f0≤last)∧s.length≤2∧∀ i,i<s.length→sbCond s i
theorem sbOk_step {s:List SbV} {i:Nat} (hh:∀ j,j<i→sbCond s j) (hi:sbCond s i):∀ j,j<i+1→sbCond s j := fun j hj=>by
  by_cases e:j=i
  · rw [e]; exact hi
  · exact hh j (by omega)
structure TpR (σ:St) (lv sv:AVal) (t:List Ld) (s:List SbV) (cs:List AVal):Prop where
  rl:Rd 3 σ lv t.length (ldc t)
  rs:Rd 5 σ sv s.length cs
  rc:SbC σ cs s
structure TFew (t:List Ld) (s:List SbV):Prop where
  fl:t.length≤1000000
  fp:∀ x∈t,0≤x.f2
  fs:s.length≤1000000
  fh:∀ x∈s,HFew x.h
theorem strGeq (a b:ByteArray):abinS .geq a b=some (.bool (!lessB a b)) := by simp only [abinS,bLess]
theorem strLeq (a b:ByteArray):abinS .leq a b=some (.bool (lessB a b || decide (a=b))) := by
  have h := strEq a b
  simp only [abinS,Option.some.injEq,AVal.bool.injEq] at h
  simp only [abinS,bLess,h]
theorem size0 (a:ByteArray):a=⟨#[]⟩↔a.size=0 := by
  constructor
  · rintro rfl; rfl
  · intro h
    cases a with
    | mk d=>congr 1; exact Array.eq_empty_of_size_eq_zero h
def KcJ (ev Lv lv sv nv:AVal) (s:List SbV) (σ0:St) (mm:Nat) (rg:Regs) (σ':St):Prop := ∃ i:Nat,mm=s.length - i∧i≤s.length∧σ0.next+1≤σ'.next∧(∀ a,a<σ0.next→σ'.mem.get a=σ0.mem.get a)∧σ'.mem.get σ0.next=some (.cells 5 [ev,Lv,lv,sv,nv])∧(∀ j,j<i→sbCond s j) ∧
  rg=[(1,.ptr σ0.next 0),(36,sv),(37,i64 s.length),(38,i64 i)]
set_option maxHeartbeats 4000000 in
theorem tpcheck_g {σ:St} {lv sv nv:AVal} {t:List Ld} {s:List SbV} {cs:List AVal} (hr:TpR σ lv sv t s cs) (hf:TFew t s) (ep last:Int) (hnv:nv.one=true) (Q:AVal→St→Prop) (h:∀ b,(b=true↔tpOk last t s)→Q (.bool b) σ):ACall Tryz.prog 32 [.agg [u64 ep,u64 last,lv,sv,nv]] σ Q := by
  refine ACall.scrub ?_
  refine ACall.of_compF hmx (fun a w=>Tryz.call32 a w) Tryz.func32 cf32 (n := 1) (by decide) rfl ?_
  obtain ⟨o1,o2⟩ := hr.rl.one
  obtain ⟨o3,o4⟩ := hr.rs.one
  have l1 := hr.rl.len
  have l2 := hr.rs.len
  have hfl := hf.fl
  have hfs := hf.fs
  simp [ac32,rs32,lk_cons,o1,o2,o3,o4,hnv]
  obtain ⟨S,hS⟩:∃ S:St,S=⟨σ.mem.set σ.next (.cells 5 [u64 ep,u64 last,lv,sv,nv]),σ.next+1⟩ := ⟨_,rfl⟩
  have gS:Grow σ S := ⟨by rw [hS]; exact Nat.le_succ _,fun a ha=>by rw [hS]; simp [show ¬ a=σ.next by omega]⟩
  have nS:S.next=σ.next+1 := by rw [hS]
  have mS:S.mem.get σ.next=some (.cells 5 [u64 ep,u64 last,lv,sv,nv]) := by rw [hS]; simp
  rw [← hS]
  have hlS := hr.rl.frame gS.1 gS.2
  refine ldcheck_g hlS hfl hf.fp _ fun b hb=>?_
  have stop:∀ {P:Prop},(tpOk last t s→P)→¬ P→(∀ a,a<σ.next→S.mem.get a=σ.mem.get a)∧Q (.bool false) σ := fun hp hn=>⟨gS.2,h false (no_of fun e=>hn (hp e))⟩
  cases b with
  | false =>
    simp [lk_cons]
    exact stop (fun e=>hb.2 e.1) (by simp)
  | true =>
    have hld := hb.1 rfl
    have ws:IntKind.i64.wrap ((t.length:Int) - 1)=(t.length:Int) - 1 := by rw [IntWalk.i64_in] <;> omega
    have hmid:((0<t.length∧∃ x,t[t.length - 1]?=some x∧last<x.f0)∨t.length=0∨0<t.length∧∃ x,t[t.length - 1]?=some x∧¬ last<x.f0) := by
      by_cases h0:t.length=0
      · exact .inr (.inl h0)
      · obtain ⟨x,hx⟩:∃ x,t[t.length - 1]?=some x := ⟨_,List.getElem?_eq_getElem (by omega)⟩
        by_cases hc:last<x.f0
        · exact .inl ⟨by omega,x,hx,hc⟩
        · exact .inr (.inr ⟨by omega,x,hx,hc⟩)
    have hlast:∀ {x:Ld},t[t.length - 1]?=some x→0<t.length→∃ p q,evalV S (.idxAddr 3 lv (.int .i64 ((t.length:Int) - 1)))=some (p,S)∧evalV S (.fieldAddr 0 p)=some (q,S)∧evalV S (.ld1 q)=some (u64 x.f0,S) := fun {x} hx h0=>by
      obtain ⟨p,p1,_,pf⟩ := hlS.at (show t.length - 1<t.length by omega) (ρ := S) fun _ _=>rfl
      obtain ⟨q,q1,_,q2⟩ := pf 0 1 (by decide)
      refine ⟨p,q,?_,q1,q2 _ (by decide) (ldc_take hx).2.1⟩
      rw [← p1]; congr 2; simp only [i64]; congr 1; omega
    rcases hmid with ⟨h0,x,hx,hc⟩ | hmid
    · have h0':(0:Int)<t.length := by omega
      obtain ⟨p,q,p1,p2,p3⟩ := hlast hx h0
      simp [lk_cons,mS,↓l1,h0,h0',ws,↓p1,↓p2,↓p3,hc]
      exact stop (fun e=>e.2.1 x hx) (by omega)
    have hlastok:∀ x,t[t.length - 1]?=some x→x.f0≤last := fun y hy=>by
      rcases hmid with h0 | ⟨_,x,hx,hc⟩
      · have := (List.getElem?_eq_some_iff.1 hy).1; omega
      · rw [hx] at hy; cases hy; omega
    by_cases h2:2<s.length
    · have h2':(2:Int)<s.length := by omega
      rcases hmid with h0 | ⟨h0,x,hx,hc⟩
      · have h0':¬ 0<t.length := by omega
        simp [lk_cons,mS,↓l1,↓l2,h0,h0',h2,h2']
        exact stop (fun e=>e.2.2.1) (by omega)
      · have h0':(0:Int)<t.length := by omega
        obtain ⟨p,q,p1,p2,p3⟩ := hlast hx h0
        simp [lk_cons,mS,↓l1,↓l2,h0,h0',ws,↓p1,↓p2,↓p3,hc,h2,h2']
        exact stop (fun e=>e.2.2.1) (by omega)
    have h2':¬ (2:Int)<s.length := by omega
    rcases hmid with h0 | hmid
    case' inl =>
      simp [lk_cons,mS,↓l1,↓l2,h0,h2,h2']
    case' inr =>
      obtain ⟨h0,x,hx,hc⟩ := hmid
      have h0':(0:Int)<t.length := by omega
      obtain ⟨p,q,p1,p2,p3⟩ := hlast hx h0
      simp [lk_cons,mS,↓l1,↓l2,h0,h0',ws,↓p1,↓p2,↓p3,hc,h2,h2']
    all_goals
      refine wp_loop (KcJ (u64 ep) (u64 last) lv sv nv s σ) s.length ?_ ?_
      · exact ⟨0,rfl,Nat.zero_le _,by omega,gS.2,mS,by omega,by simp [lk_cons]⟩
      rintro mm rg σ1 ⟨i,rfl,hi,hn1,gold,m1,hall,rfl⟩
      have z1:¬ σ.next=σ1.next := by omega
      by_cases hlt:i<s.length
      · obtain ⟨x,hx⟩:∃ x,s[i]?=some x := ⟨_,List.getElem?_eq_getElem hlt⟩
        obtain ⟨k,hk⟩:∃ k,i+1=k := ⟨_,rfl⟩
        have w1:IntKind.i64.wrap ((i:Int)+1)=(k:Int) := by rw [IntWalk.i64_in] <;> omega
        obtain ⟨p,p1,p2,_⟩ := hr.rs.at hlt (ρ := σ1) gold
        obtain ⟨hv,c1,c2,_,_,_⟩ := hr.rc.get hx
        have c2' := c2
        rw [c2] at p2
        have hv1 := c1.one
        have hxf := hf.fh x (List.mem_of_getElem? hx)
        simp only [sbA] at p2
        have gold2:∀ (b0 b1:Blk) (a:Nat),a<σ.next→(⟨(σ1.mem.set σ1.next b0).set σ1.next b1,σ1.next+1⟩:St).mem.get a=σ.mem.get a := fun b0 b1 a ha=>by simp [show ¬ a=σ1.next by omega]; exact gold a ha
        have fin:sbCond s i→∀ b0 b1:Blk,∃ mm,mm<s.length - i∧KcJ (u64 ep) (u64 last) lv sv nv s σ mm [(1,.ptr σ.next 0),(36,sv),(37,i64 s.length),(38,i64 k)] ⟨(σ1.mem.set σ1.next b0).set σ1.next b1,σ1.next+1⟩ := fun hc b0 b1 =>
          ⟨s.length - k,by omega,k,rfl,by omega,by show σ.next+1≤σ1.next+1; omega,gold2 b0 b1,by simp [z1]; exact m1,by rw [← hk]; exact sbOk_step hall hc,rfl⟩
        have stop2:∀ {P:Prop} (b0 b1:Blk),(sbCond s i→P)→¬ P→(∀ a,a<σ.next→((σ1.mem.set σ1.next b0).set σ1.next b1).get a=σ.mem.get a)∧Q (.bool false) σ := fun b0 b1 hp hn=>⟨gold2 b0 b1,h false (no_of fun e=>hn (hp (e.2.2.2 i hlt)))⟩
        have strE:∀ a b:ByteArray,abinS .eql a b=some (.bool (decide (a=b))) := strEq
        by_cases e0:x.name=⟨#[]⟩
        · simp [lk_cons,hlt,↓p1,↓p2,storeL,hv1,strE,e0]
          exact stop2 _ _ (fun e=>(e x hx).1.1) (by rw [e0]; decide)
        by_cases e1:64<x.name.size
        · have e1':(64:Int)<x.name.size := by omega
          simp [lk_cons,hlt,↓p1,↓p2,storeL,hv1,strE,e0,e1,e1']
          exact stop2 _ _ (fun e=>(e x hx).1.2) (by omega)
        have e1':¬ (64:Int)<x.name.size := by omega
        have hnm:1≤x.name.size∧x.name.size≤64 := ⟨by have := mt (size0 x.name).2 e0; omega,by omega⟩
        have rest:(∀ y,0<i→s[i - 1]?=some y→lessB y.name x.name=true)→(x.kind<1)∨(¬ x.kind<1∧4<x.kind)∨(¬ x.kind<1∧¬ 4<x.kind∧(cuOk x.ml x.me x.h→sbCond s i)) := fun hc=>by
          by_cases f1:x.kind<1
          · exact .inl f1
          by_cases f2:4<x.kind
          · exact .inr (.inl ⟨f1,f2⟩)
          · refine .inr (.inr ⟨f1,f2,fun hcu x' hx'=>?_⟩)
            rw [hx] at hx'; cases hx'
            exact ⟨hnm,hc,⟨by omega,by omega⟩,hcu⟩
        have gg:∀ b0 b1:Blk,σ.next≤(⟨(σ1.mem.set σ1.next b0).set σ1.next b1,σ1.next+1⟩:St).next := fun _ _=>by show σ.next≤σ1.next+1; omega
        by_cases hi0:i=0
        · have hi1:¬ 0<i := by omega
          rcases rest fun y h0=>absurd h0 hi1 with f1 | ⟨f1,f2⟩ | ⟨f1,f2,hc⟩
          · have f1':(x.kind:Int)<1 := by omega
            simp [lk_cons,hlt,↓p1,↓p2,storeL,hv1,strE,e0,e1,e1',hi1,f1,f1']
            exact stop2 _ _ (fun e=>(e x hx).2.2.1.1) (by omega)
          · have f1':¬ (x.kind:Int)<1 := by omega
            have f2':(4:Int)<x.kind := by omega
            simp [lk_cons,hlt,↓p1,↓p2,storeL,hv1,strE,e0,e1,e1',hi1,f1,f1',f2,f2']
            exact stop2 _ _ (fun e=>(e x hx).2.2.1.2) (by omega)
          · have f1':¬ (x.kind:Int)<1 := by omega
            have f2':¬ (4:Int)<x.kind := by omega
            simp [lk_cons,hlt,↓p1,↓p2,storeL,hv1,strE,e0,e1,e1',hi1,f1,f1',f2,f2']
            refine ccheck_g (c1.frame (gg _ _) (gold2 _ _)) hxf _ _ _ fun b hb=>?_
            cases b with
            | false =>
              simp [lk_cons]
              exact stop2 _ _ (fun e=>hb.2 (e x hx).2.2.2) (by simp)
            | true =>
              simp [lk_cons,w1]
              exact fin (hc (hb.1 rfl)) _ _
        · obtain ⟨j,hj⟩:∃ j,j+1=i := ⟨i - 1,by omega⟩
          obtain ⟨y,hy⟩:∃ y,s[j]?=some y := ⟨_,List.getElem?_eq_getElem (by omega)⟩
          have w2:IntKind.i64.wrap ((i:Int) - 1)=(j:Int) := by rw [IntWalk.i64_in] <;> omega
          have hi1:0<i := by omega
          have hji:i - 1=j := by omega
          obtain ⟨q,q1,_,qf⟩ := hr.rs.at (show j<s.length by omega) (ρ := ⟨(σ1.mem.set σ1.next (.cells 5 [.str ⟨#[]⟩,.int .u8 0,.int .u64 0,.int .u64 0,.nilsl])).set σ1.next (.cells 5 [.str x.name,.int .u8 (x.kind:Int),u64 x.ml,u64 x.me,hv]),σ1.next+1⟩) (gold2 _ _)
          obtain ⟨r,r1,_,r2⟩ := qf 0 1 (by decide)
          obtain ⟨hvy,_,_,cy,_,_⟩ := hr.rc.get hy
          have r2 := r2 _ (by decide) cy
          cases hle:lessB y.name x.name with
          | false =>
            simp [lk_cons,hlt,↓p1,↓p2,storeL,hv1,strE,e0,e1,e1',hi1,m1,z1,w2,↓q1,↓r1,↓r2,strGeq,hle]
            exact stop2 _ _ (fun e=>(e x hx).2.1 y hi1 (by rw [hji]; exact hy)) (by simp [hle])
          | true =>
            rcases rest fun z _ hz=>(by rw [hji,hy] at hz; cases hz; exact hle) with f1 | ⟨f1,f2⟩ | ⟨f1,f2,hc⟩
            · have f1':(x.kind:Int)<1 := by omega
              simp [lk_cons,hlt,↓p1,↓p2,storeL,hv1,strE,e0,e1,e1',hi1,m1,z1,w2,↓q1,↓r1,↓r2,strGeq,hle,f1,f1']
              exact stop2 _ _ (fun e=>(e x hx).2.2.1.1) (by omega)
            · have f1':¬ (x.kind:Int)<1 := by omega
              have f2':(4:Int)<x.kind := by omega
              simp [lk_cons,hlt,↓p1,↓p2,storeL,hv1,strE,e0,e1,e1',hi1,m1,z1,w2,↓q1,↓r1,↓r2,strGeq,hle,f1,f1',f2,f2']
              exact stop2 _ _ (fun e=>(e x hx).2.2.1.2) (by omega)
            · have f1':¬ (x.kind:Int)<1 := by omega
              have f2':¬ (4:Int)<x.kind := by omega
              simp [lk_cons,hlt,↓p1,↓p2,storeL,hv1,strE,e0,e1,e1',hi1,m1,z1,w2,↓q1,↓r1,↓r2,strGeq,hle,f1,f1',f2,f2']
              refine ccheck_g (c1.frame (gg _ _) (gold2 _ _)) hxf _ _ _ fun b hb=>?_
              cases b with
              | false =>
                simp [lk_cons]
                exact stop2 _ _ (fun e=>hb.2 (e x hx).2.2.2) (by simp)
              | true =>
                simp [lk_cons,w1]
                exact fin (hc (hb.1 rfl)) _ _
      · have:i=s.length := by omega
        subst this
        simp [lk_cons]
        exact ⟨fun a ha=>gold a ha,h true ⟨fun _=>⟨hld,hlastok,by omega,hall⟩,fun _=>rfl⟩⟩
end Go.Proofs.YticefdfhcahlfaaGreatDoor.AM

namespace Go.Proofs.YticefdfhcahlfaaGreatDoor.AM
open Go.RowKit
set_option maxRecDepth 100000
set_option linter.unusedVariables false
set_option linter.unusedSimpArgs false
def KrJ (ev Lv lv sv nv:AVal) (s:List SbV) (σ0:St) (mm:Nat) (rg:Regs) (σ':St):Prop := ∃ i:Nat,mm=s.length - i∧i≤s.length∧σ0.next+1≤σ'.next∧(∀ a,a<σ0.next→σ'.mem.get a=σ0.mem.get a)∧σ'.mem.get σ0.next=some (.cells 5 [ev,Lv,lv,sv,nv])∧(∀ j,j<i→sbCond s j) ∧
  rg=[(1,.ptr σ0.next 0),(4,i64 i)]
set_option maxHeartbeats 4000000 in
theorem tpright_g {σ:St} {lv sv nv:AVal} {t:List Ld} {s:List SbV} {cs:List AVal} (hr:TpR σ lv sv t s cs) (hf:TFew t s) (ep last:Int) (hnv:nv.one=true) (Q:AVal→St→Prop) (h:∀ b,(b=true↔tpOk last t s)→Q (.bool b) σ):ACall Tryz.prog 15 [.agg [u64 ep,u64 last,lv,sv,nv]] σ Q := by
  refine ACall.scrub ?_
  refine ACall.of_compF hmx (fun a w=>Tryz.call15 a w) Tryz.func15 cf15 (n := 1) (by decide) rfl ?_
  obtain ⟨o1,o2⟩ := hr.rl.one
  obtain ⟨o3,o4⟩ := hr.rs.one
  have l1 := hr.rl.len
  have l2 := hr.rs.len
  have hfl := hf.fl
  have hfs := hf.fs
  simp [ac15,rs15,lk_cons,o1,o2,o3,o4,hnv,↓l1]
  obtain ⟨S,hS⟩:∃ S:St,S=⟨σ.mem.set σ.next (.cells 5 [u64 ep,u64 last,lv,sv,nv]),σ.next+1⟩ := ⟨_,rfl⟩
  have gS:Grow σ S := ⟨by rw [hS]; exact Nat.le_succ _,fun a ha=>by rw [hS]; simp [show ¬ a=σ.next by omega]⟩
  have nS:S.next=σ.next+1 := by rw [hS]
  have mS:S.mem.get σ.next=some (.cells 5 [u64 ep,u64 last,lv,sv,nv]) := by rw [hS]; simp
  rw [← hS]
  have hlS := hr.rl.frame gS.1 gS.2
  refine ldright_g hlS hfl hf.fp _ fun b hb=>?_
  have stop:∀ {P:Prop},(tpOk last t s→P)→¬ P→(∀ a,a<σ.next→S.mem.get a=σ.mem.get a)∧Q (.bool false) σ := fun hp hn=>⟨gS.2,h false (no_of fun e=>hn (hp e))⟩
  cases b with
  | false =>
    simp [lk_cons]
    exact stop (fun e=>hb.2 e.1) (by simp)
  | true =>
    have hld := hb.1 rfl
    have ws:IntKind.i64.wrap ((t.length:Int) - 1)=(t.length:Int) - 1 := by rw [IntWalk.i64_in] <;> omega
    have hmid:((0<t.length∧∃ x,t[t.length - 1]?=some x∧last<x.f0)∨t.length=0∨0<t.length∧∃ x,t[t.length - 1]?=some x∧¬ last<x.f0) := by
      by_cases h0:t.length=0
      · exact .inr (.inl h0)
      · obtain ⟨x,hx⟩:∃ x,t[t.length - 1]?=some x := ⟨_,List.getElem?_eq_getElem (by omega)⟩
        by_cases hc:last<x.f0
        · exact .inl ⟨by omega,x,hx,hc⟩
        · exact .inr (.inr ⟨by omega,x,hx,hc⟩)
    have hlast:∀ {x:Ld},t[t.length - 1]?=some x→0<t.length→∃ p q,evalV S (.idxAddr 3 lv (.int .i64 ((t.length:Int) - 1)))=some (p,S)∧evalV S (.fieldAddr 0 p)=some (q,S)∧evalV S (.ld1 q)=some (u64 x.f0,S) := fun {x} hx h0=>by
      obtain ⟨p,p1,_,pf⟩ := hlS.at (show t.length - 1<t.length by omega) (ρ := S) fun _ _=>rfl
      obtain ⟨q,q1,_,q2⟩ := pf 0 1 (by decide)
      refine ⟨p,q,?_,q1,q2 _ (by decide) (ldc_take hx).2.1⟩
      rw [← p1]; congr 2; simp only [i64]; congr 1; omega
    rcases hmid with ⟨h0,x,hx,hc⟩ | hmid
    · have h0':(0:Int)<t.length := by omega
      obtain ⟨p,q,p1,p2,p3⟩ := hlast hx h0
      simp [lk_cons,mS,↓l1,h0,h0',ws,↓p1,↓p2,↓p3,hc]
      exact stop (fun e=>e.2.1 x hx) (by omega)
    have hlastok:∀ x,t[t.length - 1]?=some x→x.f0≤last := fun y hy=>by
      rcases hmid with h0 | ⟨_,x,hx,hc⟩
      · have := (List.getElem?_eq_some_iff.1 hy).1; omega
      · rw [hx] at hy; cases hy; omega
    by_cases h2:2<s.length
    · have h2':(2:Int)<s.length := by omega
      rcases hmid with h0 | ⟨h0,x,hx,hc⟩
      · have h0':¬ 0<t.length := by omega
        simp [lk_cons,mS,↓l1,↓l2,h0,h0',h2,h2']
        exact stop (fun e=>e.2.2.1) (by omega)
      · have h0':(0:Int)<t.length := by omega
        obtain ⟨p,q,p1,p2,p3⟩ := hlast hx h0
        simp [lk_cons,mS,↓l1,↓l2,h0,h0',ws,↓p1,↓p2,↓p3,hc,h2,h2']
        exact stop (fun e=>e.2.2.1) (by omega)
    have h2':¬ (2:Int)<s.length := by omega
    rcases hmid with h0 | hmid
    case' inl =>
      simp [lk_cons,mS,↓l1,↓l2,h0,h2,h2']
    case' inr =>
      obtain ⟨h0,x,hx,hc⟩ := hmid
      have h0':(0:Int)<t.length := by omega
      obtain ⟨p,q,p1,p2,p3⟩ := hlast hx h0
      simp [lk_cons,mS,↓l1,↓l2,h0,h0',ws,↓p1,↓p2,↓p3,hc,h2,h2']
    all_goals
      refine wp_loop (KrJ (u64 ep) (u64 last) lv sv nv s σ) s.length ?_ ?_
      · exact ⟨0,rfl,Nat.zero_le _,by omega,gS.2,mS,by omega,by simp [lk_cons]⟩
      rintro mm rg σ1 ⟨i,rfl,hi,hn1,gold,m1,hall,rfl⟩
      have z1:¬ σ.next=σ1.next := by omega
      by_cases hlt:i<s.length
      · obtain ⟨x,hx⟩:∃ x,s[i]?=some x := ⟨_,List.getElem?_eq_getElem hlt⟩
        obtain ⟨k,hk⟩:∃ k,i+1=k := ⟨_,rfl⟩
        have w1:IntKind.i64.wrap ((i:Int)+1)=(k:Int) := by rw [IntWalk.i64_in] <;> omega
        obtain ⟨p,p1,p2,_⟩ := hr.rs.at hlt (ρ := σ1) gold
        obtain ⟨hv,c1,c2,_,_,_⟩ := hr.rc.get hx
        have c2' := c2
        rw [c2] at p2
        have hv1 := c1.one
        have hxf := hf.fh x (List.mem_of_getElem? hx)
        simp only [sbA] at p2
        have gold2:∀ (b0 b1:Blk) (a:Nat),a<σ.next→(⟨(σ1.mem.set σ1.next b0).set σ1.next b1,σ1.next+1⟩:St).mem.get a=σ.mem.get a := fun b0 b1 a ha=>by simp [show ¬ a=σ1.next by omega]; exact gold a ha
        have fin:sbCond s i→∀ b0 b1:Blk,∃ mm,mm<s.length - i∧KrJ (u64 ep) (u64 last) lv sv nv s σ mm [(1,.ptr σ.next 0),(4,i64 k)] ⟨(σ1.mem.set σ1.next b0).set σ1.next b1,σ1.next+1⟩ := fun hc b0 b1 =>
          ⟨s.length - k,by omega,k,rfl,by omega,by show σ.next+1≤σ1.next+1; omega,gold2 b0 b1,by simp [z1]; exact m1,by rw [← hk]; exact sbOk_step hall hc,rfl⟩
        have stop2:∀ {P:Prop} (b0 b1:Blk),(sbCond s i→P)→¬ P→(∀ a,a<σ.next→((σ1.mem.set σ1.next b0).set σ1.next b1).get a=σ.mem.get a)∧Q (.bool false) σ := fun b0 b1 hp hn=>⟨gold2 b0 b1,h false (no_of fun e=>hn (hp (e.2.2.2 i hlt)))⟩
        have strE:∀ a b:ByteArray,abinS .eql a b=some (.bool (decide (a=b))) := strEq
        by_cases e0:x.name.size<1
        · have e0':(x.name.size:Int)<1 := by omega
          simp [lk_cons,m1,↓l2,hlt,↓p1,↓p2,storeL,hv1,strE,e0,e0']
          exact stop2 _ _ (fun e=>(e x hx).1.1) (by omega)
        have e0':¬ (x.name.size:Int)<1 := by omega
        by_cases e1:64<x.name.size
        · have e1':(64:Int)<x.name.size := by omega
          simp [lk_cons,m1,↓l2,hlt,↓p1,↓p2,storeL,hv1,strE,e0,e0',e1,e1']
          exact stop2 _ _ (fun e=>(e x hx).1.2) (by omega)
        have e1':¬ (64:Int)<x.name.size := by omega
        have hnm:1≤x.name.size∧x.name.size≤64 := ⟨by omega,by omega⟩
        have gg:∀ b0 b1:Blk,σ.next≤(⟨(σ1.mem.set σ1.next b0).set σ1.next b1,σ1.next+1⟩:St).next := fun _ _=>by show σ.next≤σ1.next+1; omega
        by_cases f1:x.kind<1
        · have f1':(x.kind:Int)<1 := by omega
          simp [lk_cons,m1,↓l2,hlt,↓p1,↓p2,storeL,hv1,strE,e0,e0',e1,e1',f1,f1']
          exact stop2 _ _ (fun e=>(e x hx).2.2.1.1) (by omega)
        have f1':¬ (x.kind:Int)<1 := by omega
        by_cases f2:4<x.kind
        · have f2':(4:Int)<x.kind := by omega
          simp [lk_cons,m1,↓l2,hlt,↓p1,↓p2,storeL,hv1,strE,e0,e0',e1,e1',f1,f1',f2,f2']
          exact stop2 _ _ (fun e=>(e x hx).2.2.1.2) (by omega)
        have f2':¬ (4:Int)<x.kind := by omega
        simp [lk_cons,m1,↓l2,hlt,↓p1,↓p2,storeL,hv1,strE,e0,e0',e1,e1',f1,f1',f2,f2']
        refine cright_g (c1.frame (gg _ _) (gold2 _ _)) hxf _ _ _ fun b hb=>?_
        cases b with
        | false =>
          simp [lk_cons]
          exact stop2 _ _ (fun e=>hb.2 (e x hx).2.2.2) (by simp)
        | true =>
          have hcu := hb.1 rfl
          have mk:(∀ y,0<i→s[i - 1]?=some y→lessB y.name x.name=true)→sbCond s i := fun hc x' hx'=>by
            rw [hx] at hx'; cases hx'
            exact ⟨hnm,hc,⟨by omega,by omega⟩,hcu⟩
          by_cases hi0:i=0
          · have hi1:¬ 0<i := by omega
            simp [lk_cons,hi1,w1]
            exact fin (mk fun y h0=>absurd h0 hi1) _ _
          · obtain ⟨j,hj⟩:∃ j,j+1=i := ⟨i - 1,by omega⟩
            obtain ⟨y,hy⟩:∃ y,s[j]?=some y := ⟨_,List.getElem?_eq_getElem (by omega)⟩
            have w2:IntKind.i64.wrap ((i:Int) - 1)=(j:Int) := by rw [IntWalk.i64_in] <;> omega
            have hi1:0<i := by omega
            have hji:i - 1=j := by omega
            obtain ⟨q,q1,_,qf⟩ := hr.rs.at (show j<s.length by omega) (ρ := ⟨(σ1.mem.set σ1.next (.cells 5 [.str ⟨#[]⟩,.int .u8 0,.int .u64 0,.int .u64 0,.nilsl])).set σ1.next (.cells 5 [.str x.name,.int .u8 (x.kind:Int),u64 x.ml,u64 x.me,hv]),σ1.next+1⟩) (gold2 _ _)
            obtain ⟨r,r1,_,r2⟩ := qf 0 1 (by decide)
            obtain ⟨hvy,_,_,cy,_,_⟩ := hr.rc.get hy
            have r2 := r2 _ (by decide) cy
            cases hle:lessB y.name x.name with
            | false =>
              have hle2:(lessB x.name y.name || decide (x.name=y.name))=true := by
                cases h3:lessB x.name y.name with
                | true=>rfl
                | false=>simp [lessB_tri h3 hle]
              simp [lk_cons,hi1,m1,z1,w2,↓q1,↓r1,↓r2,strLeq,hle2]
              exact stop2 _ _ (fun e=>(e x hx).2.1 y hi1 (by rw [hji]; exact hy)) (by simp [hle])
            | true =>
              have hle2:(lessB x.name y.name || decide (x.name=y.name))=false := by
                rw [lessB_asymm hle,Bool.false_or,decide_eq_false_iff_not]
                intro e
                rw [e,lessB_irrefl] at hle; cases hle
              simp [lk_cons,hi1,m1,z1,w2,↓q1,↓r1,↓r2,strLeq,hle2,w1]
              exact fin (mk fun z _ hz=>(by rw [hji,hy] at hz; cases hz; exact hle)) _ _
      · have:i=s.length := by omega
        subst this
        simp [lk_cons,m1,↓l2]
        exact ⟨fun a ha=>gold a ha,h true ⟨fun _=>⟨hld,hlastok,by omega,hall⟩,fun _=>rfl⟩⟩
end Go.Proofs.YticefdfhcahlfaaGreatDoor.AM



namespace Go.Proofs.YticefdfhcahlfaaGreatDoor.AM
open Go.RowKit
set_option maxRecDepth 100000
set_option linter.unusedVariables false
set_option linter.unusedSimpArgs false
def pLine (l:List UInt8):Except Nat ((ByteArray×Ln)×List UInt8) := match pText l with
  | .error c=>.error c
  | .ok (n,l1)=>match pNum 8 l1 with
    | .error c=>.error c
    | .ok (d,l2)=>match pNum 8 l2 with
      | .error c=>.error c
      | .ok (g,l3)=>match pNum 8 l3 with
        | .error c=>.error c
        | .ok (e,l4)=>.ok ((⟨n.toArray⟩,(d,d,g,e)),l4)
def lnBad (T:Tbl) (last:ByteArray) (x:ByteArray×Ln):Bool := !lessB last x.1 || decide (64<x.1.size) || decide (x.2.2.1=0) || decide (16≤T.length)
def pLines:Nat→Tbl→ByteArray→List UInt8→Except Nat (Tbl×List UInt8)
  | 0,T,_,l=>.ok (T,l)
  | n+1,T,last,l=>match pLine l with
    | .error c=>.error c
    | .ok (x,l')=>if lnBad T last x then .error 23 else pLines n (setB T x.1 x.2) x.1 l'
def pTab (l:List UInt8):Except Nat (Tbl×List UInt8) := match pNum 1 l with
  | .error c=>.error c
  | .ok (n,l')=>pLines n [] ⟨#[]⟩ l'
theorem trep_set {σ:St} {t mp:Nat} {T:Tbl} (h:TRep σ t mp T) (n:ByteArray) (x:Ln):∃ σ',evalV σ (.mapSet false [2] (.map mp) (.str n) (lnV n x))=some (.nilp,σ')∧TRep σ' t mp (setB T n x)∧σ'.next=σ.next∧∀ a,a≠mp→σ'.mem.get a=σ.mem.get a := by
  have hh := h.head
  have hne := h.ne
  obtain ⟨clock,ents,hm,ha,hs,hd⟩ := h.map
  rcases findS (n := n) ha with ⟨f1,f2⟩ | ⟨i,y,f1,f2,f3⟩
  · refine ⟨⟨σ.mem.set mp (.map (clock+1) (ents++[(clock,.str n,lnV n x)])),σ.next⟩,by simp [keyIs,shapeOk,kShape,hm,f1],⟨by simp [hne,hh],⟨clock+1,ents++[(clock,.str n,lnV n x)],by simp,?_,?_,?_⟩,setB_nodup h.keys,hne,h.lt⟩,rfl,fun a ha=>by simp [ha]⟩
    · rw [setB_new f2]; exact All2.snoc ⟨rfl,rfl⟩ ha
    · intro e he
      rcases List.mem_append.1 he with he | he
      · have := hs e he; omega
      · simp at he; subst he; simp
    · rw [List.map_append,List.nodup_append]
      refine ⟨hd,by simp,?_⟩
      rintro a ha b hb rfl
      simp at hb; subst hb
      have := stamps_lt.1 hs _ ha
      omega
  · refine ⟨⟨σ.mem.set mp (.map clock (ents.modify i fun e=>(e.1,.str n,lnV n x))),σ.next⟩,by simp [keyIs,shapeOk,kShape,hm,f1],⟨by simp [hne,hh],⟨clock,ents.modify i fun e=>(e.1,.str n,lnV n x),by simp,f3 _,?_,?_⟩,setB_nodup h.keys,hne,h.lt⟩,rfl,fun a ha=>by simp [ha]⟩
    · rw [stamps_lt,stamps_modify (fun e=>(e.1,AVal.str n,lnV n x)) (fun e=>rfl),← stamps_lt]; exact hs
    · rw [stamps_modify (fun e=>(e.1,AVal.str n,lnV n x)) (fun e=>rfl)]; exact hd
theorem strLeqd (a b:ByteArray):abinS .leq a b=some (.bool (!lessB b a)) := by
  have h1:(lessB a b || decide (a=b)) = !lessB b a := by
    cases h:lessB a b with
    | true=>rw [lessB_asymm h]; rfl
    | false =>
      cases k:lessB b a with
      | true =>
        have:¬ a=b := fun e=>by rw [e,lessB_irrefl] at k; cases k
        simp [this]
      | false=>simp [lessB_tri h k]
  simp only [abinS,bLess,baEq,h1]
def TkJd (t mp r n:Nat) (lo:List UInt8) (len0:Nat) (res:Except Nat (Tbl×List UInt8)) (c:Option Nat) (σ0 σt:St) (mm:Nat) (rg:Regs) (σ':St):Prop := ∃ (i:Nat) (S:Tbl) (last:ByteArray) (l:List UInt8),mm=n - i∧i≤n∧n<256∧pLines (n - i) S last l=res∧l.length≤len0∧TRep σ' t mp S∧RR σ' r l c∧RStp r σ0 σ'∧rg=[(0,.ptr r 0),(3,.ptr t 0),(4,.str last),(8,.int .u8 (n:Int)),(9,.int .u8 (i:Int))]
set_option maxHeartbeats 2000000 in
theorem dtake_c {T:AVal→St→Prop} {σ:St} {r:Nat} {l:List UInt8} {c:Option Nat} {Q:AVal→St→Prop} (h:RR σ r l c) (hl:l.length≤1000000000) (hT:∀ e σ',pTab l=.error e→RStp r σ σ'→T (thrownV (e:Int)) σ')
    (hQ:∀ S l' t mp σ',pTab l=.ok (S,l')→TRep σ' t mp S→RR σ' r l' c→RStp r σ σ'→σ.next≤t∧σ.next≤mp→Q (.ptr t 0) σ'):ACall (Env.th Tryz.prog T) 30 [.ptr r 0] σ Q := by
  refine ACall.of_compF hmx (fun a w=>Tryz.call30 a w) Tryz.func30 cf30 (n := 1) (by decide) rfl ?_
  simp [ac30,rs30,lk_cons]
  refine ACall.into (tnew_c σ _ fun t mp σ1 hr hn1 hk1 hge=>?_)
  have hg1:Grow σ σ1 := ⟨hn1,hk1⟩
  simp [lk_cons]
  refine ru8_c (h.grow hg1) (by omega) (fun e he=>hT e σ1 (by rw [pTab,he]) (hg1.rstp r)) fun n l1 σ2 h1 h2 h3=>?_
  have hnl := pNum_len h1
  have hrlt:r<σ.next := by obtain ⟨_,_,_,_,h⟩ := h; exact h
  have hcl:∀ a,c=some a→a<σ.next := fun a ha=>by obtain ⟨_,_,h,_⟩ := h; exact h.lt ha
  have hpt:pTab l=pLines n [] ⟨#[]⟩ l1 := by rw [pTab,h1]
  simp [lk_cons]
  refine wp_loop (TkJd t mp r n l1 l1.length (pTab l) c σ σ1) n ?_ ?_
  · exact ⟨0,[],⟨#[]⟩,l1,rfl,Nat.zero_le _,by have := hnl.2; omega,by rw [hpt]; rfl,Nat.le_refl _,hr.frame (fun a ha=>h3.keep a (by have := hr.lt; omega) (by omega)) h3.next,h2,(hg1.rstp r).trans h3,by simp [lk_cons]⟩
  · rintro mm rg σ3 ⟨i,S,last,l3,rfl,hi,hn256,hpl,hll,hr3,hrr,hst,rfl⟩
    by_cases hc:i<n
    · have hc':(i:Int)<n := by omega
      have w1:IntKind.u8.wrap ((i:Int)+1)=((i+1:Nat):Int) := by rw [IntWalk.u8_in] <;> omega
      obtain ⟨m,hm⟩:∃ m,n - i=m+1 := ⟨n - i - 1,by omega⟩
      have hm':n - (i+1)=m := by omega
      rw [hm,pLines] at hpl
      have err:∀ e σ',pLine l3=.error e→RStp r σ3 σ'→T (thrownV (e:Int)) σ' := fun e σ' he hs=>hT e σ' (by rw [← hpl,he]) (hst.trans hs)
      simp [lk_cons,hc,hc']
      refine rtext_c hrr (by omega) (fun e σ' he hs=>err e σ' (by rw [pLine,he]) hs) fun nb l4 σ4 k1 k2 k3=>?_
      have kl := pText_len k1
      simp [lk_cons]
      refine ru64_c k2 (by omega) (fun e he=>err e σ4 (by rw [pLine,k1]; simp only [he]) k3) fun d l5 σ5 m1 m2 m3=>?_
      have ml := pNum_len m1
      simp [lk_cons]
      refine ru64_c m2 (by omega) (fun e he=>err e σ5 (by rw [pLine,k1]; simp only [m1,he]) (k3.trans m3)) fun g l6 σ6 o1 o2 o3=>?_
      have ol := pNum_len o1
      simp [lk_cons]
      refine ru64_c o2 (by omega) (fun e he=>err e σ6 (by rw [pLine,k1]; simp only [m1,o1,he]) (k3.trans (m3.trans o3))) fun e l7 σ7 q1 q2 q3=>?_
      have ql := pNum_len q1
      have st7:RStp r σ3 σ7 := k3.trans (m3.trans (o3.trans q3))
      have hlt3 := hr3.lt
      have ht3:t≠r∧mp≠r := by omega
      have hr7:TRep σ7 t mp S := hr3.frame (fun a ha=>st7.keep a (by omega) (by rcases ha with rfl | rfl; exact ht3.1; exact ht3.2)) st7.next
      have hline:pLine l3=.ok ((⟨nb.toArray⟩,(d,d,g,e)),l7) := by rw [pLine,k1]; simp only [m1,o1,q1]
      rw [hline] at hpl
      simp only at hpl
      have hn7 := st7.next
      have z1:¬ t=σ7.next := by omega
      have z2:¬ mp=σ7.next := by omega
      obtain ⟨nm,hnm⟩:∃ nm:ByteArray,(⟨nb.toArray⟩:ByteArray)=nm := ⟨_,rfl⟩
      rw [hnm] at hpl
      have hle := strLeqd nm last
      have g8:Grow σ7 ⟨((σ7.mem.set σ7.next (.cells 5 [.str ⟨#[]⟩,.int .u64 0,.int .u64 0,.int .u64 0,.int .u64 0])).set σ7.next (.cells 5 [.str nm,.int .u64 0,.int .u64 (d:Int),.int .u64 (g:Int),.int .u64 (e:Int)])).set σ7.next (.cells 5 [.str nm,.int .u64 (d:Int),.int .u64 (d:Int),.int .u64 (g:Int),.int .u64 (e:Int)]),σ7.next+1⟩ := ⟨by simp,fun a ha=>by simp [show ¬ a=σ7.next by omega]⟩
      obtain ⟨S8,hS8⟩:∃ S8:St,S8=⟨((σ7.mem.set σ7.next (.cells 5 [.str ⟨#[]⟩,.int .u64 0,.int .u64 0,.int .u64 0,.int .u64 0])).set σ7.next (.cells 5 [.str nm,.int .u64 0,.int .u64 (d:Int),.int .u64 (g:Int),.int .u64 (e:Int)])).set σ7.next (.cells 5 [.str nm,.int .u64 (d:Int),.int .u64 (d:Int),.int .u64 (g:Int),.int .u64 (e:Int)]),σ7.next+1⟩ := ⟨_,rfl⟩
      have m5:S8.mem.get σ7.next=some (.cells 5 [.str nm,.int .u64 (d:Int),.int .u64 (d:Int),.int .u64 (g:Int),.int .u64 (e:Int)]) := by rw [hS8]; simp
      rw [← hS8] at g8
      have hr8:TRep S8 t mp S := hr7.frame (fun a ha=>g8.2 a (by omega)) g8.1
      have hh8 := hr8.head
      obtain ⟨clock,ents,hm8,ha8,_,_⟩ := hr8.map
      have hel := ha8.len
      have bad:lnBad S last (nm,(d,d,g,e))=true→T (thrownV 23) S8 := fun hb=>by
        rw [hb] at hpl
        exact hT 23 S8 hpl.symm (hst.trans (st7.trans (g8.rstp r)))
      simp [lk_cons,hnm,fillL,storeL]
      rw [← hS8]
      cases hls:lessB last nm with
      | false =>
        have hb := bad (by simp [lnBad,hls])
        rw [hls] at hle
        simp [lk_cons,hle,m5]
        refine fail_c (fun _=>hb) fun h=>(by cases h)
      | true =>
      rw [hls] at hle
      by_cases h64:64<nm.size
      · have hb := bad (by simp [lnBad,h64])
        have h64':(64:Int)<nm.size := by omega
        simp [lk_cons,hle,m5,h64,h64']
        refine fail_c (fun _=>hb) fun h=>(by cases h)
      have h64':¬ (64:Int)<nm.size := by omega
      by_cases hd0:d=0
      · have hb := bad (by simp [lnBad,hd0])
        have hd0':(d:Int)=0 := by omega
        simp [lk_cons,hle,m5,h64,h64',hd0,hd0']
        refine fail_c (fun _=>hb) fun h=>(by cases h)
      have hd0':¬ (d:Int)=0 := by omega
      by_cases h16:16≤S.length
      · have hb := bad (by simp [lnBad,h16])
        have h16':16≤ents.length := by omega
        have h16'':(16:Int)≤ents.length := by omega
        simp [lk_cons,hle,m5,h64,h64',hd0,hd0',hh8,hm8,h16',h16'']
        refine fail_c (fun _=>hb) fun h=>(by cases h)
      have h16':¬ 16≤ents.length := by omega
      have h16'':¬ (16:Int)≤ents.length := by omega
      have good:lnBad S last (nm,(d,d,g,e))=false := by
        have a1:¬ 64<nm.size := h64
        simp [lnBad,hls,hd0]; omega
      rw [good] at hpl
      simp at hpl
      obtain ⟨S9,e9,t9,n9,k9⟩ := trep_set hr8 nm (d,d,g,e)
      simp only [lnV] at e9
      simp [lk_cons,hle,m5,h64,h64',hd0,hd0',hh8,hm8,h16',h16'',-Mem.get_set,↓e9,w1]
      have st8 := hst.trans (st7.trans (g8.rstp r))
      have st9:RStp r σ S9 := ⟨by rw [n9]; exact st8.next,fun a ha har=>by rw [k9 a (by omega)]; exact st8.keep a ha har⟩
      refine ⟨n - (i+1),by omega,i+1,_,nm,l7,rfl,by omega,hn256,by rw [hm']; exact hpl,by omega,t9,(q2.grow g8).keep (by omega) fun a ha hac=>?_,st9,by simp⟩
      rcases hac with rfl | hac
      · exact k9 _ (by omega)
      · have := hcl a hac
        exact k9 a (by omega)
    · have:i=n := by omega
      subst this
      rw [Nat.sub_self,pLines] at hpl
      simp [lk_cons]
      exact hQ S l3 t mp σ3 hpl.symm hr3 hrr hst hge
end Go.Proofs.YticefdfhcahlfaaGreatDoor.AM

namespace Go.Proofs.YticefdfhcahlfaaGreatDoor.AM
open Go.RowKit
set_option maxRecDepth 100000
set_option linter.unusedVariables false
set_option linter.unusedSimpArgs false
theorem empty_less {n:ByteArray} (h:1≤n.size):lessB ⟨#[]⟩ n=true := by
  have hl:n.data.toList.length=n.size := by simp
  unfold lessB
  cases hn:n.data.toList with
  | nil=>rw [hn] at hl; simp at hl; omega
  | cons a t=>simp
end Go.Proofs.YticefdfhcahlfaaGreatDoor.AM




namespace Go.Proofs.YticefdfhcahlfaaGreatDoor.AM
set_option maxRecDepth 100000
set_option linter.unusedVariables false
set_option linter.unusedSimpArgs false
set_option maxHeartbeats 1000000 in
theorem rall_g {σ:St} {m:Nat} {v:AVal} {T:Tbl} (hh:σ.mem.get m=some (.cells 1 [v])) (hlt:m<σ.next) (hg:Rd 5 σ v T.length (rws rwL T)) (hl:T.length≤100000) (Q:AVal→St→Prop)
    (hQ:∀ v ys σ' b',ys.Perm T→RisL ys→GS rwL σ' v ys b'→(∀ x,b'=some x→σ.next≤x)→Grow σ σ'→Q v σ'):ACall Tryz.prog 61 [.ptr m 0] σ Q := by
  refine ACall.of_compF hmx (fun a w=>Tryz.call61 a w) Tryz.func61 cf61 (n := 1) (by decide) rfl ?_
  have hlen := hg.len
  simp [ac61,rs61,lk_cons]
  refine wp_loop (AlJ m T σ) T.length ?_ ?_
  · exact ⟨0,.nilsl,[],none,rfl,Nat.zero_le _,by simp,fun i j x y _ h=>by simp at h,GS.nil _,by simp,Grow.refl _,rfl⟩
  · rintro mm rg σ1 ⟨i,v1,ys,b1,rfl,hi,hp,hr,g1,g2,g3,rfl⟩
    have m1 := (g3.2 m hlt).trans hh
    by_cases hc:i<T.length
    · obtain ⟨x,hx⟩:∃ x,T[i]?=some x := ⟨_,List.getElem?_eq_getElem hc⟩
      have w1:IntKind.i64.wrap ((i:Int)+1)=((i+1:Nat):Int) := by rw [IntWalk.i64_in] <;> omega
      have hyl := hp.length_eq
      rw [List.length_take,Nat.min_eq_left hi] at hyl
      have hlen1 := g1.len
      obtain ⟨P,hidx,hrow,pf⟩ := hg.at hc (ρ := σ1) g3.2
      obtain ⟨P0,hf0,_,hl0⟩ := pf 0 1 (by decide)
      have gn := g3.1
      have hl0 := hl0 _ (by decide) (rwL_row hx).1
      have row:((rws rwL T).drop (i*5)).take 5=[.str x.1,u64 (x.2.1:Int),u64 (x.2.2.1:Int),u64 (x.2.2.2.1:Int),u64 (x.2.2.2.2:Int)] := rws_at rwL hx
      rw [row] at hrow
      simp [lk_cons,m1,↓hlen,hc]
      refine wp_loop (InJ m i x v1 ys σ1) ys.length ?_ ?_
      · exact ⟨0,rfl,Nat.zero_le _,fun j p hj=>by omega,rfl,by simp [lk_cons]⟩
      · rintro mm rg σ2 ⟨k,rfl,hk,hle,rfl,rfl⟩
        have wk:IntKind.i64.wrap ((k:Int)+1)=((k+1:Nat):Int) := by rw [IntWalk.i64_in] <;> omega
        obtain ⟨e1a,e1b⟩ := gs_parts g1 (by decide) hk
        have g12:GS rwL ⟨σ2.mem.set σ2.next (.cells 5 (rwL.a x)),σ2.next+1⟩ v1 ys b1 := g1.keep (by simp) fun a ha _=>by simp [show ¬ a=σ2.next by omega]
        obtain ⟨e2a,e2b⟩ := gs_parts g12 (by decide) hk
        obtain ⟨u1,S3,u2,S4,y,f1,f2,f3,f4,f5,f5b,f6,f7⟩ := gs_ins g12 (by decide) hk (nx := σ2.next) (by_ := 48) (x := x) (by simp) (by simp) (fun e=>by have := g1.lt e; omega) (by omega) (by omega)
        have g13:GS rwL S3 v1 ys b1 := g12.keep f5b fun a ha _=>f6 a ha
        obtain ⟨e3a,_⟩ := gs_parts g13 (by decide) hk
        simp only [rwL] at f1 e2b
        have fin:(∀ p,ys[k]?=some p→lessB p.1 x.1=false)→AlJ m T σ (T.length - (i+1)) [(0,.ptr m 0),(3,u2),(4,.int .i64 ((i:Int)+1))] S4 := fun hn =>
          ⟨i+1,u2,_,some y,rfl,by omega,perm_ins (k := k) hp hx,hr.ins hk hle hn,f3,fun z hz=>by cases hz; simp at f4; omega,⟨by simp at f5; omega,fun a ha=>by
            rw [f7 a (by simp; omega)]; simp [show ¬ a=σ2.next by omega]; exact g3.2 a ha⟩,by simp⟩
        by_cases hck:k<ys.length
        · obtain ⟨p,hpk⟩:∃ p,ys[k]?=some p := ⟨_,List.getElem?_eq_getElem hck⟩
          have hck':(k:Int)<(ys.length:Int) := by omega
          obtain ⟨o1,hbo1,h31,h41,hidx1⟩ := g1.idx hck
          obtain ⟨p0,_⟩ := rwL_row hpk
          cases hls:lessB p.1 x.1 with
          | true =>
            simp [lk_cons,↓hlen1,↓hidx1,hck,hck',h41,p0,m1,↓hidx,↓hf0,↓hl0,strLss,hls,wk]
            refine ⟨ys.length - (k+1),by omega,k+1,rfl,by omega,fun j q hj hq=>?_,rfl,rfl⟩
            rcases Nat.lt_or_ge j k with hl' | hl'
            · exact hle j q hl' hq
            · have:j=k := by omega
              subst this
              rw [hpk] at hq; cases hq; exact hls
          | false =>
            have fin' := fin fun q hq=>by rw [hpk] at hq; cases hq; exact hls
            simp [lk_cons,↓hlen1,↓hidx1,hck,hck',h41,p0,m1,↓hidx,↓hf0,↓hl0,strLss,hls,wk,optM,↓e1a,↓hrow,fillL,repL,storeL,↓e2b,↓f1,↓e3a,↓f2,w1]
            exact ⟨_,by omega,fin'⟩
        · have hkl:k=ys.length := by omega
          have fin' := fin fun q hq=>by rw [hkl] at hq; simp at hq
          simp [lk_cons,↓hlen1,hck,m1,↓hidx,optM,↓e1a,↓hrow,fillL,repL,storeL,↓e2b,↓f1,↓e3a,↓f2,w1]
          exact ⟨_,by omega,fin'⟩
    · have:i=T.length := by omega
      subst this
      rw [List.take_length] at hp
      simp [lk_cons,m1,↓hlen]
      exact hQ v1 ys σ1 b1 hp hr g1 g2 g3
def B2K (v2:AVal) (l:Tbl) (pre:List UInt8) (b0:Option Nat) (σ0:St) (mm:Nat) (rg:Regs) (σ':St):Prop := ∃ (i:Nat) (v:AVal) (b:Option Nat),mm=l.length - i∧i≤l.length∧GS rwB σ' v (pre++lnsB (l.take i)) b∧BStp b0 b σ0 σ'∧rg=[(1,v),(5,v2),(8,i64 i)]
set_option maxHeartbeats 2000000 in
theorem rbytes_g {σ:St} {m:Nat} {v v0:AVal} {l0:List UInt8} {b0:Option Nat} {T:Tbl} (h0:GS rwB σ v0 l0 b0) (hl0:l0.length≤500000) (hh:σ.mem.get m=some (.cells 1 [v])) (hlt:m<σ.next) (hg:Rd 5 σ v T.length (rws rwL T)) (hl:T.length≤200) (hok:∀ x∈T,LnOk x) (Q:AVal→St→Prop)
    (hQ:∀ v ys σ' b',ys.Perm T→RisL ys→GS rwB σ' v (l0++encT ys) b'→BStp b0 b' σ σ'→Q v σ'):ACall Tryz.prog 20 [.ptr m 0,v0] σ Q := by
  refine ACall.of_compF hmx (fun a w=>Tryz.call20 a w) Tryz.func20 cf20 (n := 2) (by decide) rfl ?_
  simp [ac20,rs20,lk_cons]
  refine rall_g hh hlt hg (by omega) _ fun v1 ys σ1 b1 p1 p2 p3 p4 p5=>?_
  have hyl := p1.length_eq
  have hlen1 := p3.len
  have hyok:∀ x∈ys,LnOk x := fun x hx=>hok x (p1.subset hx)
  simp [lk_cons]
  refine wp_loop (B1J v0 v1 ys σ1) ys.length ?_ ?_
  · exact ⟨0,.nilsl,none,rfl,Nat.zero_le _,by simpa [dn] using GS.nil (R := rwL) σ1,by simp,Grow.refl _,by simp [lk_cons]⟩
  · rintro mm rg σ2 ⟨i,v2,b2,rfl,hi,g1,g2,g3,rfl⟩
    have gn := g3.1
    by_cases hc:i<ys.length
    · obtain ⟨x,hx⟩:∃ x,ys[i]?=some x := ⟨_,List.getElem?_eq_getElem hc⟩
      have w1:IntKind.i64.wrap ((i:Int)+1)=((i+1:Nat):Int) := by rw [IntWalk.i64_in] <;> omega
      have htk:ys.take (i+1)=ys.take i++[x] := by rw [List.take_add_one,hx]; rfl
      have row:((rws rwL ys).drop (i*5)).take 5=[.str x.1,u64 (x.2.1:Int),u64 (x.2.2.1:Int),u64 (x.2.2.2.1:Int),u64 (x.2.2.2.2:Int)] := rws_at rwL hx
      have k5:i*5+5≤(rws rwL ys).length := by rw [rws_len]; omega
      obtain ⟨r0,r1,r2,_⟩ := rwL_row hx
      obtain ⟨o,ho1,ho2,m1,i1⟩ := p3.idx hc
      have m2 := (g3.2 o ho2).trans m1
      have hdl := dn_len (ys.take i)
      rw [List.length_take] at hdl
      by_cases hd:x.2.2.1=0
      · have hd':¬ (0:Int)<(x.2.2.1:Int) := by omega
        have hd2:¬ 0<x.2.2.1 := by omega
        simp [lk_cons,↓hlen1,hc,↓i1,m2,r2,hd,hd',hd2,w1]
        refine ⟨ys.length - (i+1),by omega,i+1,v2,b2,rfl,by omega,?_,g2,g3,rfl⟩
        rw [htk,dn_snoc,if_pos hd,List.append_nil]; exact g1
      · have hd':(0:Int)<(x.2.2.1:Int) := by omega
        have hd2:0<x.2.2.1 := by omega
        have hs2:GS rwL ⟨σ2.mem.set σ2.next (.cells 5 [.str x.1,u64 (x.2.1:Int),u64 (x.2.2.1:Int),u64 (x.2.2.2.1:Int),u64 (x.2.2.2.2:Int)]),σ2.next+1⟩ v2 (dn (ys.take i)) b2 := g1.keep (by simp) fun a ha _=>by simp [show ¬ a=σ2.next by omega]
        obtain ⟨σ',f1,f2,f3,f4⟩ := gs_app1 hs2 (nb := σ2.next) (by_ := 48) (t := true) (x := x) (by decide) (by simp [rwL]) (fun e=>by have := g1.lt e; omega) (by omega) (by omega)
        simp [lk_cons,↓hlen1,hc,↓i1,m2,r2,row,k5,hd2,w1,fillL,repL,storeL,↓f1]
        refine ⟨ys.length - (i+1),by omega,i+1,_,some (σ2.next+1),rfl,by omega,?_,fun y hy=>?_,⟨by rw [f3]; simp; omega,fun a ha=>?_⟩,rfl⟩
        · rw [htk,dn_snoc,if_neg hd]; exact f2
        · cases hy; omega
        · rw [f4 a (by simp; omega) (fun e=>by have := g2 a e; omega)]
          simp [show ¬ a=σ2.next by omega]
          exact g3.2 a ha
    · have:i=ys.length := by omega
      subst this
      rw [List.take_length] at g1
      have hdl := dn_len ys
      have hdok:∀ x∈dn ys,LnOk x := fun x hx=>hyok x (List.mem_filter.1 hx).1
      have hlen2 := g1.len
      have w1:IntKind.u64.wrap ((dn ys).length:Int)=(dn ys).length := by rw [IntWalk.u64_in] <;> omega
      simp [lk_cons,↓hlen1,↓hlen2,w1]
      have henc:encT ys=beN 1 (dn ys).length++lnsB (dn ys) := rfl
      have G02:Grow σ σ2 := p5.trans g3
      have how2:∀ o,b2=some o→b0≠some o := fun o ho e=>by
        have := h0.lt e
        have := g2 o ho; have := p5.1; omega
      have fin:∀ v σ' b',GS rwB σ' v (l0++encT ys) b'→BStp b0 b' σ2 σ'→Q v σ' := fun v σ' b' q1 q2=>hQ v ys σ' b' p1 p2 q1 ⟨Nat.le_trans G02.1 q2.next,fun x hx=>(q2.own x hx).imp id fun h=>Nat.le_trans G02.1 h,fun a ha hb=>(q2.keep a (Nat.lt_of_lt_of_le ha G02.1) hb).trans (G02.2 a ha)⟩
      rw [henc] at fin
      revert g1 hdl hdok hlen2 fin
      clear henc w1
      generalize dn ys=l
      intro g1 hdl hdok hlen2 fin
      refine rput_c (h0.grow G02) (n := l.length) (size := 1) (by decide) (by omega) (by omega) _ fun v3 σ3 b3 q1 q2=>?_
      simp [lk_cons]
      refine wp_loop (B2K v2 l (l0++beN 1 l.length) b0 σ2) l.length ?_ ?_
      · exact ⟨0,v3,b3,rfl,Nat.zero_le _,by simpa [lnsB] using q1,q2,by simp [lk_cons]⟩
      · rintro mm rg σ4 ⟨i,v4,b4,rfl,hi,q4,s4,rfl⟩
        have gn4 := s4.next
        by_cases hc:i<l.length
        · obtain ⟨x,hx⟩:∃ x,l[i]?=some x := ⟨_,List.getElem?_eq_getElem hc⟩
          have w1:IntKind.i64.wrap ((i:Int)+1)=((i+1:Nat):Int) := by rw [IntWalk.i64_in] <;> omega
          have htk:l.take (i+1)=l.take i++[x] := by rw [List.take_add_one,hx]; rfl
          have hxok := hdok x (List.mem_of_getElem? hx)
          obtain ⟨ok1,ok2,ok3,ok4,ok5⟩ := id hxok
          obtain ⟨r0,r1,r2,r3,r4⟩ := rwL_row hx
          obtain ⟨o,ho1,ho2,m1,i1⟩ := g1.idx hc
          have hne := how2 o ho1
          have m4 := (s4.keep o ho2 hne).trans m1
          have hsz:x.1.size≤140737488355328 := by omega
          have hbl:(l0++beN 1 l.length++lnsB (l.take i)).length≤1000000 := by
            have := lnsB_len (T := l.take i) fun y hy=>hdok y (List.mem_of_mem_take hy)
            rw [List.length_append,List.length_append,beN_len]
            rw [List.length_take] at this
            omega
          have ol:o<σ4.next := by omega
          simp [lk_cons,↓hlen2,hc,↓i1,m4,r0,hsz]
          have q5:GS rwB ⟨σ4.mem.set σ4.next (.cells 1 (x.1.data.toList.map fun b=>.int .u8 (b.toNat:Int))),σ4.next+1⟩ v4 (l0++beN 1 l.length++lnsB (l.take i)) b4 := q4.keep (by simp) fun a ha _=>by simp [show ¬ a=σ4.next by omega]
          have u5:GS rwB ⟨σ4.mem.set σ4.next (.cells 1 (x.1.data.toList.map fun b=>.int .u8 (b.toNat:Int))),σ4.next+1⟩ (.sl σ4.next 0 x.1.size x.1.size false) x.1.data.toList (some σ4.next) := .inr ⟨σ4.next,false,rfl,by simp,by simp,by simp [rwsB,bytesV]⟩
          have hlb:x.1.data.toList.length=x.1.size := by simp
          have S5:BStp b0 b4 σ2 ⟨σ4.mem.set σ4.next (.cells 1 (x.1.data.toList.map fun b=>.int .u8 (b.toNat:Int))),σ4.next+1⟩ := ⟨by simp; omega,s4.own,fun a ha hb=>by simp [show ¬ a=σ4.next by omega]; exact s4.keep a ha hb⟩
          refine rputb_c q5 u5 (fun z hz hb4=>by cases hz; have := q4.lt hb4; omega) (by omega) (by omega) _ fun v6 σ6 b6 q6 s6=>?_
          have S6 := S5.trans s6
          have m6 := (S6.keep o ho2 hne).trans m1
          have gn6 := S6.next
          rw [hlb] at q6
          simp [lk_cons,↓i1,m6,r2,r3,r4]
          refine rput_c q6 (n := x.2.2.1) (size := 8) (by decide) (by simp [beN_len] at hbl ⊢; omega) (by omega) _ fun v7 σ7 b7 q7 s7=>?_
          have S7 := S6.trans s7
          have m7 := (S7.keep o ho2 hne).trans m1
          have gn7 := S7.next
          simp [lk_cons,m7,r3,r4]
          refine rput_c q7 (n := x.2.2.2.1) (size := 8) (by decide) (by simp [beN_len] at hbl ⊢; omega) (by omega) _ fun v8 σ8 b8 q8 s8=>?_
          have S8 := S7.trans s8
          have m8 := (S8.keep o ho2 hne).trans m1
          have gn8 := S8.next
          simp [lk_cons,m8,r3,r4]
          refine rput_c q8 (n := x.2.2.2.2) (size := 8) (by decide) (by simp [beN_len] at hbl ⊢; omega) (by omega) _ fun v9 σ9 b9 q9 s9=>?_
          have S9 := S8.trans s9
          simp [lk_cons,w1]
          refine ⟨l.length - (i+1),by omega,i+1,v9,b9,rfl,by omega,?_,S9,rfl⟩
          rw [htk,lnsB_snoc]
          simpa [lnB,List.append_assoc] using q9
        · have:i=l.length := by omega
          subst this
          rw [List.take_length] at q4
          simp [lk_cons,↓hlen2]
          exact fin v4 σ4 b4 (by rw [← List.append_assoc]; exact q4) s4
end Go.Proofs.YticefdfhcahlfaaGreatDoor.AM

namespace Go.Proofs.YticefdfhcahlfaaGreatDoor.AM
set_option maxRecDepth 100000
set_option linter.unusedVariables false
set_option linter.unusedSimpArgs false
def lnCond (T:Tbl) (i:Nat):Prop := ∀ x,T[i]?=some x→(1≤x.1.size∧x.1.size≤64)∧x.2.1=x.2.2.1∧x.2.2.1≠0∧(∀ y,0<i→T[i - 1]?=some y→lessB y.1 x.1=true)∧i<16
def lnOkT (T:Tbl):Prop := ∀ i,i<T.length→lnCond T i
theorem lnOk_step {T:Tbl} {i:Nat} (hh:∀ j,j<i→lnCond T j) (hi:lnCond T i):∀ j,j<i+1→lnCond T j := fun j hj=>by
  by_cases e:j=i
  · rw [e]; exact hi
  · exact hh j (by omega)
theorem ln_less {T:Tbl} {n:Nat} (hh:∀ j,j<n→lnCond T j):∀ (k j:Nat) (x y:ByteArray×Ln),j<k→k<n→T[j]?=some x→T[k]?=some y→lessB x.1 y.1=true := by
  intro k
  induction k with
  | zero=>intro j x y h; omega
  | succ k ih =>
    intro j x y hj hk hx hy
    have hkl := (List.getElem?_eq_some_iff.1 hy).1
    obtain ⟨z,hz⟩:∃ z,T[k]?=some z := ⟨_,List.getElem?_eq_getElem (by omega)⟩
    have h1 := (hh (k+1) hk y hy).2.2.2.1 z (by omega) (by simpa using hz)
    by_cases e:j=k
    · subst e; rw [hx] at hz; cases hz; exact h1
    · exact lessB_trans (ih j x z (by omega) (by omega) hx hz) h1
end Go.Proofs.YticefdfhcahlfaaGreatDoor.AM

namespace Go.Proofs.YticefdfhcahlfaaGreatDoor.AM
open Go.RowKit
set_option maxRecDepth 100000
set_option linter.unusedVariables false
set_option linter.unusedSimpArgs false
def SbI:List AVal→List SbV→Prop
  | [],[]=>True
  | a :: b :: c :: d :: e :: cs,x :: xs=>(a=.str x.name∧b=.int .u8 (x.kind:Int)∧c=u64 x.ml∧d=u64 x.me∧HI e x.h)∧SbI cs xs
  | _,_=>False
theorem SbI.c {σ:St}:∀ {cs:List AVal} {xs:List SbV},SbI cs xs→SbC σ cs xs
  | [],[],_=>trivial
  | a :: b :: c :: d :: e :: cs,x :: xs,h=>⟨⟨h.1.1,h.1.2.1,h.1.2.2.1,h.1.2.2.2.1,.inl h.1.2.2.2.2⟩,SbI.c h.2⟩
  | [],_ :: _,h=>h.elim
  | [_],_,h=>by cases ‹List SbV› <;> exact h.elim
  | [_,_],_,h=>by cases ‹List SbV› <;> exact h.elim
  | [_,_,_],_,h=>by cases ‹List SbV› <;> exact h.elim
  | [_,_,_,_],_,h=>by cases ‹List SbV› <;> exact h.elim
  | _ :: _ :: _ :: _ :: _ :: _,[],h=>h.elim
theorem SbI.get:∀ {cs:List AVal} {xs:List SbV} {i:Nat} {x:SbV},SbI cs xs→xs[i]?=some x→∃ hv,HI hv x.h∧(cs.drop (i*5)).take 5=sbA x hv
  | a :: b :: c :: d :: e :: cs,y :: xs,0,x,h,hx=>by
    simp at hx; subst hx
    obtain ⟨⟨rfl,rfl,rfl,rfl,h5⟩,_⟩ := h
    exact ⟨e,h5,by simp [sbA]⟩
  | a :: b :: c :: d :: e :: cs,y :: xs,i+1,x,h,hx=>by
    obtain ⟨hv,h1,h2⟩ := h.2.get (i := i) (by simpa using hx)
    have e1:(i+1)*5=i*5+1+1+1+1+1 := by omega
    exact ⟨hv,h1,by rw [e1]; simpa using h2⟩
  | [],[],_,_,_,hx=>by simp at hx
  | [],_ :: _,_,_,h,_=>h.elim
  | [_],_,_,_,h,_=>by cases ‹List SbV› <;> exact h.elim
  | [_,_],_,_,_,h,_=>by cases ‹List SbV› <;> exact h.elim
  | [_,_,_],_,_,_,h,_=>by cases ‹List SbV› <;> exact h.elim
  | [_,_,_,_],_,_,_,h,_=>by cases ‹List SbV› <;> exact h.elim
  | _ :: _ :: _ :: _ :: _ :: _,[],_,_,h,_=>h.elim
def ldB (x:Ld):List UInt8 := beN 8 x.f0.toNat++beN 1 (if x.f1 then 1 else 0)++beN 8 x.f2.toNat
def ldsB (t:List Ld):List UInt8 := (t.map ldB).flatten
def sbB (x:SbV):List UInt8 := txB x.name++beN 1 x.kind++cuB x.ml x.me x.h
def sbsB (s:List SbV):List UInt8 := (s.map sbB).flatten
def tpB (ep last:Nat) (t:List Ld) (s:List SbV) (T:Tbl):List UInt8 := beN 8 ep++beN 8 last++beN 1 (t.length % 256)++ldsB t++beN 1 (s.length % 256)++sbsB s++encT T
theorem ldsB_snoc (t:List Ld) (x:Ld):ldsB (t++[x])=ldsB t++ldB x := by simp [ldsB]
theorem sbsB_snoc (t:List SbV) (x:SbV):sbsB (t++[x])=sbsB t++sbB x := by simp [sbsB]
theorem ldsB_len:∀ t:List Ld,(ldsB t).length=17*t.length
  | []=>rfl
  | x :: t=>by
    have := ldsB_len t
    simp only [ldsB,List.map_cons,List.flatten_cons,List.length_append,ldB,beN_len,List.length_cons] at this ⊢
    omega
theorem sbsB_take (s:List SbV) (i:Nat):(sbsB (s.take i)).length≤(sbsB s).length := by
  conv=>rhs; rw [← List.take_append_drop i s]
  simp only [sbsB,List.map_append,List.flatten_append,List.length_append]
  omega
structure TBd (ep last:Nat) (t:List Ld) (s:List SbV) (T:Tbl):Prop where
  bl:∀ x∈t,In64 x.f0∧In64 x.f2
  bs:∀ x∈s,HSm x.h∧(In64 x.ml∧In64 x.me)∧x.kind<256
  bT:∀ x∈T,LnOk x
  bTl:T.length≤200
  be:ep<18446744073709551616∧last<18446744073709551616
def EnRel (ep last:Nat) (t:List Ld) (s:List SbV) (T:Tbl) (σ':St) (v:AVal) (c:Nat):Prop := (c=23∧v=.nilsl∧¬ (lnOkT T∧tpOk (last:Int) t s))∨(lnOkT T∧tpOk (last:Int) t s)∧(c=3∧v=.nilsl∧3840<(tpB ep last t s T).length∨c=0∧(∃ b,GS rwB σ' v (tpB ep last t s T) b)∧(tpB ep last t s T).length≤3840)
theorem ris_of {T:Tbl} (h:lnOkT T):RisL T∧(T.map (·.1)).Nodup := by
  have hl := ln_less (n := T.length) h
  have lt:∀ {k:Nat} {y:ByteArray×Ln},T[k]?=some y→k<T.length := fun h=>(List.getElem?_eq_some_iff.1 h).1
  refine ⟨fun i j x y hij hx hy=>lessB_asymm (hl j i x y hij (lt hy) hx hy),?_⟩
  rw [List.nodup_iff_pairwise_ne,List.pairwise_iff_getElem]
  intro i j hi hj hij e
  simp only [List.length_map] at hi hj
  simp only [List.getElem_map] at e
  have := hl j i T[i] T[j] hij (by omega) (List.getElem?_eq_getElem hi) (List.getElem?_eq_getElem hj)
  rw [e,lessB_irrefl] at this; cases this
theorem dn_ok {T:Tbl} (h:lnOkT T):dn T=T := by
  rw [dn,List.filter_eq_self]
  intro x hx
  obtain ⟨i,hi⟩ := List.getElem?_of_mem hx
  have := (h i (List.getElem?_eq_some_iff.1 hi).1 x hi).2.2.1
  simpa using this
end Go.Proofs.YticefdfhcahlfaaGreatDoor.AM


namespace Go.Proofs.YticefdfhcahlfaaGreatDoor.AM
open Go.RowKit
set_option maxRecDepth 100000
set_option linter.unusedVariables false
set_option linter.unusedSimpArgs false
def RlJ (p:Nat) (cells:List AVal) (T:Tbl) (σ0:St) (mm:Nat) (rg:Regs) (σ':St):Prop := ∃ i:Nat,mm=T.length - i∧i≤T.length∧Grow σ0 σ'∧(p<σ'.next∧σ'.mem.get p=some (.cells 5 cells))∧(∀ j,j<i→lnCond T j)∧rg=[(1,.ptr p 0),(4,i64 i)]
def R1J (p:Nat) (t:List Ld) (l:List UInt8) (S:St) (mm:Nat) (rg:Regs) (σ':St):Prop := ∃ (i:Nat) (v:AVal) (b:Option Nat),mm=t.length - i∧i≤t.length∧GS rwB σ' v (l++ldsB (t.take i)) b∧BStp none b S σ'∧rg=[(1,.ptr p 0),(6,v),(7,i64 i)]
def R2J (p:Nat) (s:List SbV) (l:List UInt8) (S:St) (mm:Nat) (rg:Regs) (σ':St):Prop := ∃ (i:Nat) (v:AVal) (b:Option Nat),mm=s.length - i∧i≤s.length∧GS rwB σ' v (l++sbsB (s.take i)) b∧BStp none b S σ'∧rg=[(1,.ptr p 0),(6,v),(9,i64 i)]
theorem BStp.ofG (b:Option Nat) {σ σ':St} (g:Grow σ σ'):BStp b b σ σ' := ⟨g.1,fun _ h=>.inl h,fun a ha _=>g.2 a ha⟩
set_option maxHeartbeats 4000000 in
theorem rtopic_c {σ:St} {lv sv nv:AVal} {t:List Ld} {s:List SbV} {cs:List AVal} {T:Tbl} {ep last:Nat} (hr:TpR σ lv sv t s cs) (hI:SbI cs s) (hn:Rd 5 σ nv T.length (rws rwL T)) (hf:TFew t s) (hb:TBd ep last t s T) (hsb:(sbsB s).length≤400000) (Q:AVal→St→Prop)
    (hQ:∀ v c σ',EnRel ep last t s T σ' v c→Grow σ σ'→Q (.tup [v,i64 (c:Nat)]) σ'):ACall Tryz.prog 6 [.agg [u64 (ep:Int),u64 (last:Int),lv,sv,nv]] σ Q := by
  refine ACall.of_compF hmx (fun a w=>Tryz.call6 a w) Tryz.func6 cf6 (n := 1) (by decide) rfl ?_
  obtain ⟨o1,o2⟩ := hr.rl.one
  obtain ⟨o3,o4⟩ := hr.rs.one
  obtain ⟨o5,o6⟩ := hn.one
  have l1 := hr.rl.len
  have l2 := hr.rs.len
  have l3 := hn.len
  have hTl := hb.bTl
  simp [ac6,rs6,lk_cons,o1,o2,o3,o4,o5,o6]
  obtain ⟨S,hS⟩:∃ S:St,S=⟨σ.mem.set σ.next (.cells 5 [u64 (ep:Int),u64 (last:Int),lv,sv,nv]),σ.next+1⟩ := ⟨_,rfl⟩
  have gS:Grow σ S := ⟨by rw [hS]; exact Nat.le_succ _,fun a ha=>by rw [hS]; simp [show ¬ a=σ.next by omega]⟩
  have nS:S.next=σ.next+1 := by rw [hS]
  have mS:S.mem.get σ.next=some (.cells 5 [u64 (ep:Int),u64 (last:Int),lv,sv,nv]) := by rw [hS]; simp
  rw [← hS]
  refine wp_loop (RlJ σ.next [u64 (ep:Int),u64 (last:Int),lv,sv,nv] T σ) T.length ?_ ?_
  · exact ⟨0,rfl,Nat.zero_le _,gS,⟨by omega,mS⟩,by omega,by simp [lk_cons]⟩
  rintro mm rg σ1 ⟨i,rfl,hi,g1,⟨hp1,m1⟩,hall,rfl⟩
  have n1 := g1.1
  by_cases hlt:i<T.length
  · obtain ⟨⟨xn,x1,x2,xa,xb⟩,hx⟩:∃ x,T[i]?=some x := ⟨_,List.getElem?_eq_getElem hlt⟩
    have w1:IntKind.i64.wrap ((i:Int)+1)=((i+1:Nat):Int) := by rw [IntWalk.i64_in] <;> omega
    obtain ⟨p,p1,p2,_⟩ := hn.at hlt (ρ := σ1) g1.2
    have row:((rws rwL T).drop (i*5)).take 5=[.str xn,u64 (x1:Int),u64 (x2:Int),u64 (xa:Int),u64 (xb:Int)] := rws_at rwL hx
    rw [row] at p2
    obtain ⟨S1,hS1⟩:∃ S:St,S=⟨(σ1.mem.set σ1.next (.cells 5 [.str ⟨#[]⟩,.int .u64 0,.int .u64 0,.int .u64 0,.int .u64 0])).set σ1.next (.cells 5 [.str xn,u64 (x1:Int),u64 (x2:Int),u64 (xa:Int),u64 (xb:Int)]),σ1.next+1⟩ := ⟨_,rfl⟩
    have kS1:∀ a,a<σ1.next→S1.mem.get a=σ1.mem.get a := fun a ha=>by rw [hS1]; simp [show ¬ a=σ1.next by omega]
    have nS1:S1.next=σ1.next+1 := by rw [hS1]
    have gS1:Grow σ S1 := g1.trans ⟨by omega,kS1⟩
    have z1:¬ σ.next=σ1.next := by omega
    have bad:¬ lnCond T i→Q (.tup [.nilsl,i64 (23:Nat)]) S1 := fun hc=>hQ _ 23 S1 (.inl ⟨rfl,rfl,fun e=>hc (e.1 i hlt)⟩) gS1
    by_cases e0:xn.size<1
    · have e0':(xn.size:Int)<1 := by omega
      simp [lk_cons,m1,↓l3,hlt,↓p1,↓p2,storeL,e0,e0']
      rw [← hS1]
      exact bad fun e=>by have:1≤xn.size := (e _ hx).1.1; omega
    have e0':¬ (xn.size:Int)<1 := by omega
    by_cases e1:64<xn.size
    · have e1':(64:Int)<xn.size := by omega
      simp [lk_cons,m1,↓l3,hlt,↓p1,↓p2,storeL,e0,e0',e1,e1']
      rw [← hS1]
      exact bad fun e=>by have:xn.size≤64 := (e _ hx).1.2; omega
    have e1':¬ (64:Int)<xn.size := by omega
    by_cases e2:x2=0
    · have e2':(x2:Int)=0 := by omega
      simp [lk_cons,m1,↓l3,hlt,↓p1,↓p2,storeL,e0,e0',e1,e1',iff_true_intro e2,iff_true_intro e2']
      rw [← hS1]
      exact bad fun e=>(e _ hx).2.2.1 e2
    have e2':¬ (x2:Int)=0 := by omega
    by_cases e3:x1=x2
    case neg =>
      have e3':¬ (x1:Int)=(x2:Int) := by omega
      simp [lk_cons,m1,↓l3,hlt,↓p1,↓p2,storeL,e0,e0',e1,e1',e2,e2',e3,e3']
      rw [← hS1]
      exact bad fun e=>e3 (e _ hx).2.1
    subst e3
    have hprev:i=0∨0<i∧∃ y P P0,T[i - 1]?=some y∧evalV S1 (.idxAddr 5 nv (.int .i64 ((i:Int) - 1)))=some (P,S1)∧evalV S1 (.fieldAddr 0 P)=some (P0,S1)∧evalV S1 (.ld1 P0)=some (.str y.1,S1) := by
      by_cases h0:i=0
      · exact .inl h0
      · obtain ⟨y,hy⟩:∃ y,T[i - 1]?=some y := ⟨_,List.getElem?_eq_getElem (by omega)⟩
        obtain ⟨P,q1,_,qf⟩ := hn.at (show i - 1<T.length by omega) (ρ := S1) gS1.2
        obtain ⟨P0,r1,_,r2⟩ := qf 0 1 (by decide)
        refine .inr ⟨by omega,y,P,P0,hy,?_,r1,r2 _ (by decide) (rwL_row hy).1⟩
        rw [← q1]; congr 2; simp only [i64]; congr 1; omega
    have ws:0<i→IntKind.i64.wrap ((i:Int) - 1)=(i:Int) - 1 := fun h=>by rw [IntWalk.i64_in] <;> omega
    rw [hS1] at hprev
    have mk:(∀ y,0<i→T[i - 1]?=some y→lessB y.1 xn=true)→i<16→lnCond T i := fun hc h16 z hz=>by
      rw [hx] at hz; cases hz
      exact ⟨⟨by show 1≤xn.size; omega,by show xn.size≤64; omega⟩,rfl,e2,hc,h16⟩
    have fin:lnCond T i→∃ m',m'<T.length - i∧RlJ σ.next [u64 (ep:Int),u64 (last:Int),lv,sv,nv] T σ m' [(1,.ptr σ.next 0),(4,i64 ((i+1:Nat):Int))] S1 := fun hc =>
      ⟨T.length - (i+1),by omega,i+1,rfl,by omega,gS1,⟨by omega,(kS1 _ (by omega)).trans m1⟩,lnOk_step hall hc,rfl⟩
    have h16all:(∀ j,j<i→lnCond T j)→i≤16 := fun h=>by
      by_cases h0:i=0
      · omega
      · obtain ⟨y,hy⟩:∃ y,T[i - 1]?=some y := ⟨_,List.getElem?_eq_getElem (by omega)⟩
        have := (h (i - 1) (by omega) y hy).2.2.2.2
        omega
    have hle16 := h16all hall
    by_cases h16:i=16
    · have h16':(i:Int)=16 := by omega
      have nol:¬ lnCond T i := fun e=>by have := (e _ hx).2.2.2.2; omega
      rcases hprev with hi0 | ⟨hi1,y,P,P0,hy,q1,q2,q3⟩
      · omega
      have ws := ws hi1
      have hi1':(0:Int)<i := by omega
      cases hle:(lessB xn y.1 || decide (xn=y.1)) with
      | true =>
        simp [lk_cons,m1,z1,↓l3,hlt,↓p1,↓p2,storeL,e0,e0',e1,e1',e2,e2',hi1,hi1',ws,↓q1,↓q2,↓q3,strLeq,hle]
        rw [← hS1]
        exact bad nol
      | false =>
        simp [lk_cons,m1,z1,↓l3,hlt,↓p1,↓p2,storeL,e0,e0',e1,e1',e2,e2',hi1,hi1',ws,↓q1,↓q2,↓q3,strLeq,hle,iff_true_intro h16,iff_true_intro h16']
        rw [← hS1]
        exact bad nol
    have h16':¬ (i:Int)=16 := by omega
    rcases hprev with hi0 | ⟨hi1,y,P,P0,hy,q1,q2,q3⟩
    · have hi1:¬ 0<i := by omega
      simp [lk_cons,m1,z1,↓l3,hlt,↓p1,↓p2,storeL,e0,e0',e1,e1',e2,e2',hi1,h16,h16',w1]
      rw [← hS1]
      exact fin (mk (fun y h0=>absurd h0 hi1) (by omega))
    · have ws := ws hi1
      have hi1':(0:Int)<i := by omega
      cases hle:lessB y.1 xn with
      | false =>
        have hle2:(lessB xn y.1 || decide (xn=y.1))=true := by
          cases h3:lessB xn y.1 with
          | true=>rfl
          | false=>simp [lessB_tri h3 hle]
        simp [lk_cons,m1,z1,↓l3,hlt,↓p1,↓p2,storeL,e0,e0',e1,e1',e2,e2',hi1,hi1',ws,↓q1,↓q2,↓q3,strLeq,hle2]
        rw [← hS1]
        exact bad fun e=>by have := (e _ hx).2.2.2.1 y hi1 hy; rw [hle] at this; cases this
      | true =>
        have hle2:(lessB xn y.1 || decide (xn=y.1))=false := by
          rw [lessB_asymm hle,Bool.false_or,decide_eq_false_iff_not]
          intro e
          rw [e,lessB_irrefl] at hle; cases hle
        simp [lk_cons,m1,z1,↓l3,hlt,↓p1,↓p2,storeL,e0,e0',e1,e1',e2,e2',hi1,hi1',ws,↓q1,↓q2,↓q3,strLeq,hle2,h16,h16',w1]
        rw [← hS1]
        exact fin (mk (fun z _ hz=>by rw [hy] at hz; cases hz; exact hle) (by omega))
  have:i=T.length := by omega
  subst this
  have hok:lnOkT T := hall
  simp [lk_cons,m1,↓l3]
  refine tpright_g ⟨hr.rl.frame g1.1 g1.2,hr.rs.frame g1.1 g1.2,hr.rc.frame g1.1 g1.2⟩ hf (ep:Int) (last:Int) o5 _ fun b hbk=>?_
  cases b with
  | false =>
    simp [lk_cons]
    exact hQ .nilsl 23 σ1 (.inl ⟨rfl,rfl,fun e=>by have := hbk.2 e.2; cases this⟩) g1
  | true =>
    have htp := hbk.1 rfl
    have h64 := htp.1.1
    have h2 := htp.2.2.1
    simp [lk_cons,m1]
    have mA:∀ {σ':St} {b':Option Nat},BStp none b' σ1 σ'→σ'.mem.get σ.next=some (.cells 5 [u64 (ep:Int),u64 (last:Int),lv,sv,nv]) := fun q=>(q.keep σ.next (by omega) (by simp)).trans m1
    have gA:∀ {σ':St} {b':Option Nat},BStp none b' σ1 σ'→Grow σ σ' := fun q=>g1.trans q.grow0
    have wl:IntKind.u64.wrap (t.length:Int)=t.length := by rw [IntWalk.u64_in] <;> omega
    have wl2:IntKind.u64.wrap (s.length:Int)=s.length := by rw [IntWalk.u64_in] <;> omega
    refine rput_c (GS.nil σ1) (n := ep) (size := 8) (by decide) (by simp) hb.be.1 _ fun v2 σ2 b2 h2 t2=>?_
    simp [lk_cons,mA t2]
    refine rput_c h2 (n := last) (size := 8) (by decide) (by simp [beN_len]) hb.be.2 _ fun v3 σ3 b3 h3 t3=>?_
    have t3 := t2.trans t3
    simp [lk_cons,mA t3,↓l1,wl]
    refine rput_c h3 (n := t.length) (size := 1) (by decide) (by simp [beN_len]) (by omega) _ fun v4 σ4 b4 h4 t4=>?_
    have t4 := t3.trans t4
    simp [lk_cons]
    obtain ⟨L0,hL0⟩:∃ L0,[]++beN 8 ep++beN 8 last++beN 1 t.length=L0 := ⟨_,rfl⟩
    have hL0l:L0.length=17 := by rw [← hL0]; simp [beN_len]
    rw [hL0] at h4
    refine wp_loop (R1J σ.next t L0 σ1) t.length ?_ ?_
    · exact ⟨0,v4,b4,rfl,Nat.zero_le _,by simpa [ldsB] using h4,t4,by simp [lk_cons]⟩
    rintro mm rg σ5 ⟨i,v5,b5,rfl,hi,h5,s5,rfl⟩
    have hll := ldsB_len (t.take i)
    rw [List.length_take] at hll
    by_cases hlt:i<t.length
    · obtain ⟨x,hx⟩:∃ x,t[i]?=some x := ⟨_,List.getElem?_eq_getElem hlt⟩
      have hxm := List.mem_of_getElem? hx
      have w1:IntKind.i64.wrap ((i:Int)+1)=((i+1:Nat):Int) := by rw [IntWalk.i64_in] <;> omega
      have htk:t.take (i+1)=t.take i++[x] := by rw [List.take_add_one,hx]; rfl
      obtain ⟨p,p1,p2,_⟩ := hr.rl.at hlt (ρ := σ5) (gA s5).2
      rw [(ldc_take hx).1] at p2
      obtain ⟨na,ea,ta,ba⟩ := nat_of (hb.bl x hxm).1
      obtain ⟨nc,ec,tc,bc⟩ := nat_of (hb.bl x hxm).2
      rw [ea,ec] at p2
      simp [lk_cons,mA s5,↓l1,hlt,↓p1,↓p2,storeL]
      obtain ⟨S5,hS5⟩:∃ S5:St,S5=⟨(σ5.mem.set σ5.next (.cells 3 [.int .u64 0,.bool false,.int .u64 0])).set σ5.next (.cells 3 [u64 (na:Int),.bool x.f1,u64 (nc:Int)]),σ5.next+1⟩ := ⟨_,rfl⟩
      have gS5:Grow σ5 S5 := ⟨by rw [hS5]; exact Nat.le_succ _,fun a ha=>by rw [hS5]; simp [show ¬ a=σ5.next by omega]⟩
      have nS5:S5.next=σ5.next+1 := by rw [hS5]
      have mS5:S5.mem.get σ5.next=some (.cells 3 [u64 (na:Int),.bool x.f1,u64 (nc:Int)]) := by rw [hS5]; simp
      have hb5:∀ x,b5=some x→x<σ5.next := fun x hx=>h5.lt hx
      have mm5:∀ {σ':St} {b':Option Nat},BStp b5 b' S5 σ'→σ'.mem.get σ5.next=S5.mem.get σ5.next := fun q=>q.keep σ5.next (by omega) (fun e=>by have := hb5 _ e; omega)
      have s5S:BStp none b5 σ1 S5 := s5.trans (BStp.ofG b5 gS5)
      rw [← hS5]
      refine rput_c (h5.grow gS5) (n := na) (size := 8) (by decide) (by rw [List.length_append]; omega) ba _ fun v6 σ6 b6 h6 t6=>?_
      simp [lk_cons,mm5 t6,mS5]
      refine refyes_c _ _ ?_
      simp [lk_cons,mm5 t6,mS5]
      refine rput_c h6 (n := if x.f1 then 1 else 0) (size := 1) (by decide) (by simp only [List.length_append,beN_len]; omega) (by split <;> decide) _ fun v7 σ7 b7 h7 t7=>?_
      have t7 := t6.trans t7
      simp [lk_cons,mm5 t7,mS5]
      refine rput_c h7 (n := nc) (size := 8) (by decide) (by simp only [List.length_append,beN_len]; omega) bc _ fun v8 σ8 b8 h8 t8=>?_
      have t8 := t7.trans t8
      simp [lk_cons,w1]
      refine ⟨t.length - (i+1),by omega,i+1,v8,b8,rfl,by omega,?_,s5S.trans t8,rfl⟩
      rw [htk,ldsB_snoc,ldB,ta,tc]
      simpa [List.append_assoc] using h8
    have:i=t.length := by omega
    subst this
    rw [List.take_length] at h5 hll
    simp [lk_cons,mA s5,↓l1,↓l2,wl2]
    refine rput_c h5 (n := s.length) (size := 1) (by decide) (by rw [List.length_append]; omega) (by omega) _ fun v6 σ6 b6 h6 t6=>?_
    have t6 := s5.trans t6
    simp [lk_cons]
    obtain ⟨L1,hL1⟩:∃ L1,L0++ldsB t++beN 1 s.length=L1 := ⟨_,rfl⟩
    have hL1l:L1.length≤2000 := by rw [← hL1]; simp only [List.length_append,beN_len]; omega
    rw [hL1] at h6
    refine wp_loop (R2J σ.next s L1 σ1) s.length ?_ ?_
    · exact ⟨0,v6,b6,rfl,Nat.zero_le _,by simpa [sbsB] using h6,t6,by simp [lk_cons]⟩
    rintro mm rg σ7 ⟨i,v7,b7,rfl,hi,h7,s7,rfl⟩
    have hsl := sbsB_take s i
    by_cases hlt:i<s.length
    · obtain ⟨x,hx⟩:∃ x,s[i]?=some x := ⟨_,List.getElem?_eq_getElem hlt⟩
      have hxm := List.mem_of_getElem? hx
      have hxc := htp.2.2.2 i hlt x hx
      have w1:IntKind.i64.wrap ((i:Int)+1)=((i+1:Nat):Int) := by rw [IntWalk.i64_in] <;> omega
      have htk:s.take (i+1)=s.take i++[x] := by rw [List.take_add_one,hx]; rfl
      obtain ⟨p,p1,p2,_⟩ := hr.rs.at hlt (ρ := σ7) (gA s7).2
      obtain ⟨hv,c1,c2⟩ := hI.get hx
      rw [c2] at p2
      simp only [sbA] at p2
      have hv1 := c1.one
      have hbx := hb.bs x hxm
      have hxn := hxc.1.2
      have hsz:x.name.size≤140737488355328 := by omega
      simp [lk_cons,mA s7,↓l2,hlt,↓p1,↓p2,storeL,hv1]
      obtain ⟨S7,hS7⟩:∃ S7:St,S7=⟨(σ7.mem.set σ7.next (.cells 5 [.str ⟨#[]⟩,.int .u8 0,.int .u64 0,.int .u64 0,.nilsl])).set σ7.next (.cells 5 [.str x.name,.int .u8 (x.kind:Int),u64 x.ml,u64 x.me,hv]),σ7.next+1⟩ := ⟨_,rfl⟩
      have gS7:Grow σ7 S7 := ⟨by rw [hS7]; exact Nat.le_succ _,fun a ha=>by rw [hS7]; simp [show ¬ a=σ7.next by omega]⟩
      have nS7:S7.next=σ7.next+1 := by rw [hS7]
      have mS7:S7.mem.get σ7.next=some (.cells 5 [.str x.name,.int .u8 (x.kind:Int),u64 x.ml,u64 x.me,hv]) := by rw [hS7]; simp
      have hb7:∀ x,b7=some x→x<σ7.next := fun x hx=>h7.lt hx
      obtain ⟨S8,hS8⟩:∃ S8:St,S8=⟨(((σ7.mem.set σ7.next (.cells 5 [.str ⟨#[]⟩,.int .u8 0,.int .u64 0,.int .u64 0,.nilsl])).set σ7.next (.cells 5 [.str x.name,.int .u8 (x.kind:Int),u64 x.ml,u64 x.me,hv])).set (σ7.next+1) (.cells 1 (x.name.data.toList.map fun b=>.int .u8 (b.toNat:Int)))),σ7.next+1+1⟩ := ⟨_,rfl⟩
      have gS8:Grow S7 S8 := ⟨by rw [hS7,hS8]; exact Nat.le_succ _,fun a ha=>by rw [hS8,hS7]; simp [show ¬ a=σ7.next+1 by rw [hS7] at ha; exact Nat.ne_of_lt ha]⟩
      have nS8:S8.next=σ7.next+2 := by rw [hS8]
      have mm7:∀ {σ':St} {b':Option Nat},BStp b7 b' S8 σ'→σ'.mem.get σ7.next=some (.cells 5 [.str x.name,.int .u8 (x.kind:Int),u64 x.ml,u64 x.me,hv]) := fun q=>(q.keep σ7.next (by omega) (fun e=>by have := hb7 _ e; omega)).trans ((gS8.2 _ (by omega)).trans mS7)
      have s8S:BStp none b7 σ1 S8 := s7.trans (BStp.ofG b7 (gS7.trans gS8))
      have hlb:x.name.data.toList.length=x.name.size := by simp
      have u8:RdB S8 (.sl (σ7.next+1) 0 x.name.size x.name.size false) x.name.data.toList (some (σ7.next+1)) := RdB.ofGS (.inr ⟨σ7.next+1,false,rfl,by rw [hlb],by rw [nS8]; omega,by rw [hS8]; simp [rwsB,bytesV]⟩)
      have mS8 := (gS8.2 _ (by omega)).trans mS7
      simp [hsz]
      rw [← hS8]
      simp [lk_cons,mS8,hv1]
      refine rputb_r (h7.grow (gS7.trans gS8)) u8 (fun z hz hb4=>by cases hz; have := hb7 _ hb4; omega) (by rw [List.length_append]; omega) (by omega) _ fun v8 σ8 b8 h8 t8=>?_
      rw [hlb] at h8
      have wkd:IntKind.u64.wrap (x.kind:Int)=x.kind := by rw [IntWalk.u64_in] <;> omega
      simp [lk_cons,mm7 t8,wkd]
      refine rput_c h8 (n := x.kind) (size := 1) (by decide) (by simp only [List.length_append,beN_len]; omega) (by omega) _ fun v9 σ9 b9 h9 t9=>?_
      have t9 := t8.trans t9
      simp [lk_cons,mm7 t9,hv1]
      refine cbytes_c h9 c1 hbx.1 hbx.2.1.1 hbx.2.1.2 (by simp only [List.length_append,beN_len]; omega) _ fun va σa ba ha ta=>?_
      have ta := t9.trans ta
      simp [lk_cons,w1]
      refine ⟨s.length - (i+1),by omega,i+1,va,ba,rfl,by omega,?_,s8S.trans ta,rfl⟩
      rw [htk,sbsB_snoc,sbB,txB]
      simpa [List.append_assoc] using ha
    have:i=s.length := by omega
    subst this
    rw [List.take_length] at h7
    have o7 := h7.one
    simp [lk_cons,mA s7,↓l2,fillL,o5,o6,storeL]
    obtain ⟨S9,hS9⟩:∃ S:St,S=⟨σ7.mem.set σ7.next (.cells 1 [nv]),σ7.next+1⟩ := ⟨_,rfl⟩
    have gS9:Grow σ7 S9 := ⟨by rw [hS9]; exact Nat.le_succ _,fun a ha=>by rw [hS9]; simp [show ¬ a=σ7.next by omega]⟩
    have nS9:S9.next=σ7.next+1 := by rw [hS9]
    have mS9:S9.mem.get σ7.next=some (.cells 1 [nv]) := by rw [hS9]; simp
    rw [← hS9]
    have G9 := (gA s7).trans gS9
    refine rbytes_g (h7.grow gS9) (by rw [List.length_append]; omega) mS9 (by omega) (hn.frame G9.1 G9.2) hb.bTl hb.bT _ fun v8 ys σ8 b8 py ry h8 t8=>?_
    have hys:ys=T := RisL.uniq ry (ris_of hok).1 ((py.map _).nodup_iff.2 (ris_of hok).2) py
    subst hys
    have hTB:L1++sbsB s++encT ys=tpB ep last t s ys := by
      rw [← hL1,← hL0,tpB,Nat.mod_eq_of_lt (by omega),Nat.mod_eq_of_lt (by omega)]
      simp [List.append_assoc]
    rw [hTB] at h8
    have G8:Grow σ σ8 := (gA (s7.trans (BStp.ofG b7 gS9 |>.trans t8)))
    have hlen := h8.len
    have o8 := h8.one.1
    by_cases hc:3840<(tpB ep last t s ys).length
    · have hc':(3840:Int)<((tpB ep last t s ys).length:Int) := by omega
      simp [lk_cons,↓hlen,hc,hc']
      exact hQ .nilsl 3 σ8 (.inr ⟨⟨hok,htp⟩,.inl ⟨rfl,rfl,hc⟩⟩) G8
    · have hc':¬ (3840:Int)<((tpB ep last t s ys).length:Int) := by omega
      simp [lk_cons,↓hlen,hc,hc']
      exact hQ v8 0 σ8 (.inr ⟨⟨hok,htp⟩,.inr ⟨rfl,⟨b8,h8⟩,by omega⟩⟩) G8
end Go.Proofs.YticefdfhcahlfaaGreatDoor.AM


namespace Go.Proofs.YticefdfhcahlfaaGreatDoor.AM
open Go.RowKit
set_option maxRecDepth 100000
set_option linter.unusedVariables false
set_option linter.unusedSimpArgs false
def SlJ (v w:AVal) (n:Nat) (S:St) (mm:Nat) (rg:Regs) (σ':St):Prop := ∃ i:Nat,mm=n - i∧i≤n∧σ'=S∧rg=[(0,v),(1,w),(5,i64 i)]
theorem sameld_c {σ:St} {v w:AVal} {t:List Ld} (hv:Rd 3 σ v t.length (ldc t)) (hw:Rd 3 σ w t.length (ldc t)) (hl:t.length≤1000000) (Q:AVal→St→Prop) (hQ:Q (.bool true) σ):ACall Tryz.prog 41 [v,w] σ Q := by
  refine ACall.of_compF hmx (fun a w=>Tryz.call41 a w) Tryz.func41 cf41 (n := 2) (by decide) rfl ?_
  have l1 := hv.len
  have l2 := hw.len
  simp [ac41,rs41,lk_cons,↓l1,↓l2]
  refine wp_loop (SlJ v w t.length σ) t.length ?_ ?_
  · exact ⟨0,rfl,Nat.zero_le _,rfl,by simp [lk_cons]⟩
  rintro mm rg S ⟨i,rfl,hi,hS,rfl⟩
  subst hS
  by_cases hlt:i<t.length
  · obtain ⟨x,hx⟩:∃ x,t[i]?=some x := ⟨_,List.getElem?_eq_getElem hlt⟩
    have w1:IntKind.i64.wrap ((i:Int)+1)=((i+1:Nat):Int) := by rw [IntWalk.i64_in] <;> omega
    obtain ⟨p,p1,p2,_⟩ := hv.at hlt (ρ := S) fun _ _=>rfl
    obtain ⟨q,q1,q2,_⟩ := hw.at hlt (ρ := S) fun _ _=>rfl
    rw [(ldc_take hx).1] at p2 q2
    simp [lk_cons,↓l1,hlt,↓p1,↓p2,↓q1,↓q2,w1,shapeOk,keysEq,kShape,keyEq,ba_beq]
    exact ⟨t.length - (i+1),by omega,i+1,rfl,by omega,rfl,by simp⟩
  have:i=t.length := by omega
  subst this
  simp [lk_cons,↓l1]
  exact hQ
def SmlJ (v w:AVal) (n:Nat) (S:St) (mm:Nat) (rg:Regs) (σ':St):Prop := ∃ i:Nat,mm=n - i∧i≤n∧σ'=S∧rg=[(0,v),(1,w),(5,i64 i)]
theorem sameln_c {σ:St} {v w:AVal} {t:Tbl} (hv:Rd 5 σ v t.length (rws rwL t)) (hw:Rd 5 σ w t.length (rws rwL t)) (hl:t.length≤1000000) (Q:AVal→St→Prop) (hQ:Q (.bool true) σ):ACall Tryz.prog 42 [v,w] σ Q := by
  refine ACall.of_compF hmx (fun a w=>Tryz.call42 a w) Tryz.func42 cf42 (n := 2) (by decide) rfl ?_
  have l1 := hv.len
  have l2 := hw.len
  simp [ac42,rs42,lk_cons,↓l1,↓l2]
  refine wp_loop (SmlJ v w t.length σ) t.length ?_ ?_
  · exact ⟨0,rfl,Nat.zero_le _,rfl,by simp [lk_cons]⟩
  rintro mm rg S ⟨i,rfl,hi,hS,rfl⟩
  subst hS
  by_cases hlt:i<t.length
  · obtain ⟨⟨xn,x1,x2,xa,xb⟩,hx⟩:∃ x,t[i]?=some x := ⟨_,List.getElem?_eq_getElem hlt⟩
    have w1:IntKind.i64.wrap ((i:Int)+1)=((i+1:Nat):Int) := by rw [IntWalk.i64_in] <;> omega
    obtain ⟨p,p1,p2,_⟩ := hv.at hlt (ρ := S) fun _ _=>rfl
    obtain ⟨q,q1,q2,_⟩ := hw.at hlt (ρ := S) fun _ _=>rfl
    have row:((rws rwL t).drop (i*5)).take 5=[.str xn,u64 (x1:Int),u64 (x2:Int),u64 (xa:Int),u64 (xb:Int)] := rws_at rwL hx
    rw [row] at p2 q2
    simp [lk_cons,↓l1,hlt,↓p1,↓p2,↓q1,↓q2,w1,shapeOk,keysEq,kShape,keyEq,ba_beq]
    exact ⟨t.length - (i+1),by omega,i+1,rfl,by omega,rfl,by simp⟩
  have:i=t.length := by omega
  subst this
  simp [lk_cons,↓l1]
  exact hQ
def StJ (p q:Nat) (n:Nat) (S:St) (mm:Nat) (rg:Regs) (σ':St):Prop := ∃ i:Nat,mm=n - i∧i≤n∧σ'=S∧rg=[(2,.ptr p 0),(3,.ptr q 0),(5,i64 i)]
end Go.Proofs.YticefdfhcahlfaaGreatDoor.AM

/- Same, of equal cursors that can be read. -/
namespace Go.Proofs.YticefdfhcahlfaaGreatDoor.AM
open Go.RowKit
set_option maxRecDepth 100000
set_option linter.unusedVariables false
set_option linter.unusedSimpArgs false

theorem rsame_w {σ:St} {v w:AVal} {l m:List S25} (hv:RgW σ v l) (hw:RgW σ w m) (hl:l.length≤100000) (Q:AVal→St→Prop) (h:Q (.bool (decide (l=m))) σ):ACall Tryz.prog 75 [v,w] σ Q := by
  refine ACall.of_compF hmx (fun a w=>Tryz.call75 a w) Tryz.func75 cf75 (n := 2) (by decide) rfl ?_
  have l1 := hv.len
  have l2 := hw.len
  simp [ac75,rs75,lk_cons,↓l1,↓l2]
  by_cases hlen:l.length=m.length
  · have hlen':(l.length:Int)=m.length := by omega
    simp [lk_cons,hlen,hlen']
    refine wp_loop (SamJ v w l m σ) l.length ?_ ?_
    · exact ⟨0,rfl,Nat.zero_le _,rfl,rfl,rfl⟩
    · rintro mm rg σ' ⟨i,rfl,hi,hp,rfl,rfl⟩
      by_cases hlt:i<l.length
      · have hlt2:i<m.length := by omega
        obtain ⟨x,hx⟩:∃ x,l[i]?=some x := ⟨_,List.getElem?_eq_getElem hlt⟩
        obtain ⟨y,hy⟩:∃ y,m[i]?=some y := ⟨_,List.getElem?_eq_getElem hlt2⟩
        obtain ⟨k,hk⟩:∃ k,i+1=k := ⟨_,rfl⟩
        have w1:IntKind.i64.wrap ((i:Int)+1)=(k:Int) := by rw [IntWalk.i64_in] <;> omega
        obtain ⟨p,p1,p2,_,_⟩ := hv.at hx (ρ := σ') fun _ _=>rfl
        obtain ⟨q,q1,q2,_,_⟩ := hw.at hy (ρ := σ') fun _ _=>rfl
        by_cases hxy:x=y
        · subst hxy
          have ke:keysEq [u64 x.f0,u64 x.f1] [u64 x.f0,u64 x.f1]=some true := by simp [keysEq,keyEq]
          simp [lk_cons,↓l1,↓l2,hlt,hlt2,↓p1,↓p2,↓q1,↓q2,shapeOk,kShape,ke,w1]
          exact ⟨l.length - k,by omega,k,rfl,by omega,by rw [← hk,List.take_add_one,List.take_add_one,hp,hx,hy],rfl,rfl⟩
        · have ke:keysEq [u64 x.f0,u64 x.f1] [u64 y.f0,u64 y.f1]=some false := by
            obtain ⟨a,b⟩ := x; obtain ⟨c,d⟩ := y
            by_cases h1:a=c
            · have h2:¬ b=d := fun e=>hxy (by rw [h1,e])
              have h3:(b == d)=false := by simpa using h2
              simp [keysEq,keyEq,h1,h3]
            · have h3:(a == c)=false := by simpa using h1
              simp [keysEq,keyEq,h3]
          have hne:¬ l=m := fun e=>hxy (by subst e; rw [hx] at hy; cases hy; rfl)
          rw [decide_eq_false hne] at h
          simp [lk_cons,↓l1,↓l2,hlt,hlt2,↓p1,↓p2,↓q1,↓q2,shapeOk,kShape,ke]
          exact h
      · have:i=l.length := by omega
        subst this
        have:l=m := by rw [List.take_length,hlen,List.take_length] at hp; exact hp
        rw [decide_eq_true this] at h
        simp [lk_cons,↓l1]
        exact h
  · have hlen':¬ (l.length:Int)=m.length := by omega
    have hne:¬ l=m := fun e=>hlen (by rw [e])
    rw [decide_eq_false hne] at h
    simp [lk_cons,hlen,hlen']
    exact h
def HSm6 (h:List Hd):Prop := h.length≤100000∧∀ x∈h,x.f1.length≤100000
/-- Two that are one are the same. -/
theorem csame_w {v w:AVal} {h:List Hd} {σ:St} (hv:HR σ v h) (hw:HR σ w h) (hH:HSm6 h) (ml me:Int) (Q:AVal→St→Prop) (hq:Q (.bool true) σ):ACall Tryz.prog 43 [cv ml me v,cv ml me w] σ Q := by
  refine ACall.scrub ?_
  refine ACall.of_compF hmx (fun a w=>Tryz.call43 a w) Tryz.func43 cf43 (n := 2) (by decide) rfl ?_
  have l1 := hv.len
  have l2 := hw.len
  have v1 := hv.one.1
  have v2 := hv.one.2
  have w1 := hw.one.1
  have w2 := hw.one.2
  have hl := hH.1
  have eqt:∀ ρ:St,evalV ρ (.eqs true [1,1] (.agg [u64 ml,u64 me]) (.agg [u64 ml,u64 me]))=some (.bool false,ρ) := fun ρ=>by
    simp [evalV,shapeOk,keysEq,kShape,keyEq]
  simp only [ac43,rs43]
  simp [lk_cons,v1,v2,w1,w2,↓eqt,↓l1,↓l2]
  refine wp_loop (CsJ v w h ml me σ) h.length ?_ ?_
  · exact ⟨0,rfl,Nat.zero_le _,rfl,by simp [lk_cons]⟩
  · rintro mm rg σ' ⟨i,rfl,hi,rfl,rfl⟩
    by_cases hlt:i<h.length
    · obtain ⟨x,hx⟩:∃ x,h[i]?=some x := ⟨_,List.getElem?_eq_getElem hlt⟩
      obtain ⟨k,hk⟩:∃ k,i+1=k := ⟨_,rfl⟩
      have w5:IntKind.i64.wrap ((i:Int)+1)=(k:Int) := by rw [IntWalk.i64_in] <;> omega
      have gold:∀ a,a<σ.next→((σ.mem.set σ.next (.cells 3 [u64 ml,u64 me,v])).set (σ.next+1) (.cells 3 [u64 ml,u64 me,w])).get a=σ.mem.get a := fun a ha=>by simp [show ¬ a=σ.next by omega,show ¬ a=σ.next+1 by omega]
      obtain ⟨p,r,hr,p1,_,⟨q0,a1,a2⟩,⟨q1,b1,b2⟩⟩ := hv.at hx (ρ := ⟨(σ.mem.set σ.next (.cells 3 [u64 ml,u64 me,v])).set (σ.next+1) (.cells 3 [u64 ml,u64 me,w]),σ.next+1+1⟩) gold
      obtain ⟨p',r',hr',p1',_,⟨q0',a1',a2'⟩,⟨q1',b1',b2'⟩⟩ := hw.at hx (ρ := ⟨(σ.mem.set σ.next (.cells 3 [u64 ml,u64 me,v])).set (σ.next+1) (.cells 3 [u64 ml,u64 me,w]),σ.next+1+1⟩) gold
      have hxr := hH.2 x (List.mem_of_getElem? hx)
      simp [lk_cons,↓l1,hlt,↓p1,↓a1,↓a2,↓b1,↓b2,↓p1',↓a1',↓a2',↓b1',↓b2']
      refine rsame_w (hr.frame (by simp; omega) gold) (hr'.frame (by simp; omega) gold) (by omega) _ ?_
      simp [lk_cons,w5]
      exact ⟨h.length - k,by omega,k,rfl,by omega,rfl,by simp [lk_cons]⟩
    · have:i=h.length := by omega
      subst this
      simp [lk_cons,↓l1]
      exact ⟨fun a ha=>by simp [show ¬ a=σ.next by omega,show ¬ a=σ.next+1 by omega],hq⟩
end Go.Proofs.YticefdfhcahlfaaGreatDoor.AM

/- Same topics, that can be read. -/
namespace Go.Proofs.YticefdfhcahlfaaGreatDoor.AM
open Go.RowKit
set_option maxRecDepth 100000
set_option linter.unusedVariables false
set_option linter.unusedSimpArgs false

set_option maxHeartbeats 4000000 in
theorem same_w {σ:St} {lv sv nv lw sw nw:AVal} {t:List Ld} {s:List SbV} {cs ds:List AVal} {T:Tbl} {ep last:Nat} (h1:Rd 3 σ lv t.length (ldc t)) (h2:Rd 5 σ sv s.length cs) (h3:Rd 5 σ nv T.length (rws rwL T)) (hI:SbC σ cs s) (k1:Rd 3 σ lw t.length (ldc t)) (k2:Rd 5 σ sw s.length ds) (k3:Rd 5 σ nw T.length (rws rwL T)) (kI:SbC σ ds s) (tl:t.length≤1000000) (sl:s.length≤1000000) (Tl:T.length≤1000000) (hH:∀ x∈s,HSm6 x.h) (Q:AVal→St→Prop) (hQ:Q (.bool true) σ) :
    ACall Tryz.prog 11 [.agg [u64 (ep:Int),u64 (last:Int),lv,sv,nv],.agg [u64 (ep:Int),u64 (last:Int),lw,sw,nw]] σ Q := by
  refine ACall.scrub ?_
  refine ACall.of_compF hmx (fun a w=>Tryz.call11 a w) Tryz.func11 cf11 (n := 2) (by decide) rfl ?_
  obtain ⟨o1,o2⟩ := h1.one
  obtain ⟨o3,o4⟩ := h2.one
  obtain ⟨o5,o6⟩ := h3.one
  obtain ⟨u1,u2⟩ := k1.one
  obtain ⟨u3,u4⟩ := k2.one
  obtain ⟨u5,u6⟩ := k3.one
  have l1 := h2.len
  have l2 := k2.len
  have z0:¬ σ.next=σ.next+1 := by omega
  simp only [ac11,rs11]
  simp [lk_cons,o1,o2,o3,o4,o5,o6,u1,u2,u3,u4,u5,u6,z0]
  obtain ⟨S,hS⟩:∃ S:St,S=⟨(σ.mem.set σ.next (.cells 5 [u64 (ep:Int),u64 (last:Int),lv,sv,nv])).set (σ.next+1) (.cells 5 [u64 (ep:Int),u64 (last:Int),lw,sw,nw]),σ.next+1+1⟩ := ⟨_,rfl⟩
  have gS:Grow σ S := ⟨by rw [hS]; show σ.next≤σ.next+1+1; omega,fun a ha=>by rw [hS]; simp [show ¬ a=σ.next by omega,show ¬ a=σ.next+1 by omega]⟩
  have nS:S.next=σ.next+2 := by rw [hS]
  have m1:S.mem.get σ.next=some (.cells 5 [u64 (ep:Int),u64 (last:Int),lv,sv,nv]) := by rw [hS]; simp
  have m2:S.mem.get (σ.next+1)=some (.cells 5 [u64 (ep:Int),u64 (last:Int),lw,sw,nw]) := by rw [hS]; simp
  try rw [← hS]
  refine sameld_c (t := t) (h1.frame gS.1 gS.2) (k1.frame gS.1 gS.2) tl _ ?_
  simp [lk_cons,m1,m2,↓l1,↓l2]
  refine sameln_c (t := T) (h3.frame gS.1 gS.2) (k3.frame gS.1 gS.2) Tl _ ?_
  simp [lk_cons,m1,m2,↓l1,↓l2]
  refine wp_loop (StJ σ.next (σ.next+1) s.length S) s.length ?_ ?_
  · exact ⟨0,rfl,Nat.zero_le _,rfl,by simp [lk_cons]⟩
  rintro mm rg S' ⟨i,rfl,hi,hS',rfl⟩
  subst hS'
  by_cases hlt:i<s.length
  · obtain ⟨x,hx⟩:∃ x,s[i]?=some x := ⟨_,List.getElem?_eq_getElem hlt⟩
    have w1:IntKind.i64.wrap ((i:Int)+1)=((i+1:Nat):Int) := by rw [IntWalk.i64_in] <;> omega
    obtain ⟨p,p1,_,pf⟩ := h2.at hlt (ρ := S') gS.2
    obtain ⟨q,q1,_,qf⟩ := k2.at hlt (ρ := S') gS.2
    obtain ⟨hv,a1,a2,a3,a4,a5,a6⟩ := hI.get hx
    obtain ⟨hw,b1,b2,b3,b4,b5,b6⟩ := kI.get hx
    obtain ⟨P0,e1,_,e2⟩ := pf 0 1 (by decide)
    have e2 := e2 _ (by decide) a3
    obtain ⟨P1,e3,_,e4⟩ := pf 1 1 (by decide)
    have e4 := e4 _ (by decide) a4
    obtain ⟨P2,e5,e6,_⟩ := pf 2 3 (by decide)
    rw [a5] at e6
    obtain ⟨Q0,f1,_,f2⟩ := qf 0 1 (by decide)
    have f2 := f2 _ (by decide) b3
    obtain ⟨Q1,f3,_,f4⟩ := qf 1 1 (by decide)
    have f4 := f4 _ (by decide) b4
    obtain ⟨Q2,f5,f6,_⟩ := qf 2 3 (by decide)
    rw [b5] at f6
    have en:abinS .neq x.name x.name=some (.bool false) := by simp [abinS]
    simp [lk_cons,m1,m2,↓l1,hlt,↓p1,↓q1,↓e1,↓e2,↓e3,↓e4,↓e5,↓e6,↓f1,↓f2,↓f3,↓f4,↓f5,↓f6,en]
    refine csame_w (a1.frame gS.1 gS.2) (b1.frame gS.1 gS.2) (hH x (List.mem_of_getElem? hx)) x.ml x.me _ ?_
    simp [lk_cons,m1,m2,↓l1,hlt,↓p1,↓q1,↓e1,↓e2,↓e3,↓e4,↓e5,↓e6,↓f1,↓f2,↓f3,↓f4,↓f5,↓f6,en,w1]
    exact ⟨s.length - (i+1),by omega,i+1,rfl,by omega,rfl,by simp⟩
  have:i=s.length := by omega
  subst this
  simp [lk_cons,m1,↓l1]
  exact ⟨gS.2,hQ⟩
end Go.Proofs.YticefdfhcahlfaaGreatDoor.AM

namespace Go.Proofs.YticefdfhcahlfaaGreatDoor.AM
open Go.RowKit
set_option maxRecDepth 100000
set_option linter.unusedVariables false
set_option linter.unusedSimpArgs false
theorem made13_w {d:AVal} {l:List UInt8} (hb:BytesOf d l) (hl:l.length≤9223372036854775806) (op:Bool) (σ:St) (Q:AVal→St→Prop) (hq:∀ v t σ',LOut σ.next σ' v t→Mk t→Grow σ σ'→Q v σ'):ACall Tryz.prog 21 [d,.bool op] σ Q := by
  refine ACall.of_compF hmx (fun a w=>Tryz.call21 a w) Tryz.func21 cf21 (n := 2) (by decide) rfl ?_
  have l1 := hb.len
  simp only [ac21,rs21]
  refine wp_cut (fun rg s=>rg=[(0,d),(1,.bool op)]∧s=σ) (by simp [lk_cons]) ?_
  rintro _ s ⟨rfl,hs⟩
  rw [hs]
  clear hs s
  refine wp_cut (fun rg s=>rg=[(0,d),(1,.bool op),(5,.nilsl)]∧s=σ) (by simp [lk_cons]) ?_
  rintro _ s ⟨rfl,hs⟩
  rw [hs]
  clear hs s
  refine wp_cut (fun rg s=>rg=[(0,d),(1,.bool op),(5,.nilsl),(6,u64 0)]∧s=σ) (by simp [lk_cons]) ?_
  rintro _ s ⟨rfl,hs⟩
  rw [hs]
  clear hs s
  refine wp_cut (fun rg s=>∃ ov acc,Mk acc∧Grow σ s∧LOut σ.next s ov acc∧rg.lookup 1=some (.bool op)∧rg.lookup 5=some ov) ?_ ?_
  · simp [lk_cons,↓l1]
    refine wp_loop (MdJ d op l σ) l.length ?_ ?_
    · exact ⟨0,.nilsl,[],0,rfl,Nat.zero_le _,by omega,rfl,⟨by simp,by simp [RisingP],by simp⟩,by simp,by omega,by omega,Grow.refl _,.inl ⟨rfl,rfl⟩,rfl⟩
    · rintro mm rg σ' ⟨i,ov,acc,id,rfl,hi,hi13,hal,hmk,hid,hid0,hid4,hg,ho,rfl⟩
      by_cases hlt:i<l.length
      · by_cases h12:i=13
        · obtain ⟨x,hx⟩:∃ x,l[i]?=some x := ⟨_,List.getElem?_eq_getElem hlt⟩
          obtain ⟨p,p1,p2⟩ := hb.at14 hx σ'
          have c12:(12:Int)<(i:Int) := by omega
          simp [lk_cons,hlt,↓p1,↓p2,c12]
          exact ⟨ov,acc,hmk,hg,ho,rfl⟩
        · obtain ⟨x,hx⟩:∃ x,l[i]?=some x := ⟨_,List.getElem?_eq_getElem hlt⟩
          obtain ⟨k,hk⟩:∃ k,i+1=k := ⟨_,rfl⟩
          have w1:IntKind.i64.wrap ((i:Int)+1)=(k:Int) := by rw [IntWalk.i64_in] <;> omega
          have c12:¬ (12:Int)<(i:Int) := by omega
          obtain ⟨p,p1,p2⟩ := hb.at14 hx σ'
          have xb:x.toNat<256 := x.toNat_lt
          simp [lk_cons,hlt,↓p1,↓p2,c12]
          have q1:IntKind.u8.wrap ((x.toNat:Int) / 64)=(x.toNat:Int) / 64 := by rw [IntWalk.u8_in]; omega
          have q2:IntKind.u64.wrap ((x.toNat:Int) / 64)=(x.toNat:Int) / 64 := by rw [IntWalk.u64_in]; omega
          have q3:IntKind.u64.wrap (1+(x.toNat:Int) / 64)=1+(x.toNat:Int) / 64 := by rw [IntWalk.u64_in]; omega
          have q4:IntKind.u64.wrap (id+(1+(x.toNat:Int) / 64))=id+(1+(x.toNat:Int) / 64) := by rw [IntWalk.u64_in]; omega
          have q5:Int.tmod (x.toNat:Int) 6=(x.toNat:Int) % 6 := Int.tmod_eq_emod_of_nonneg (by omega)
          have q6:IntKind.u64.wrap ((x.toNat:Int) % 6)=(x.toNat:Int) % 6 := by rw [IntWalk.u64_in]; omega
          obtain ⟨w,ρ',e1,e2,e3,e4⟩ := lout_app (b := σ'.next) (ρ0 := σ') (ρ := ⟨σ'.mem.set σ'.next (.cells 3 [u64 (id+(1+(x.toNat:Int) / 64)),.bool true,u64 ((x.toNat:Int) % 6)]),σ'.next+1⟩) ho (fun a ha hb=>by simp [show ¬ a=σ'.next by omega]) (by simp) (by omega) ⟨id+(1+(x.toNat:Int) / 64),true,(x.toNat:Int) % 6⟩ (by simp) hg.1
          simp [lk_cons,hlt,↓p1,↓p2,c12,q1,q2,q3,q4,q5,q6,fillL,storeL,repL,↓e1,w1]
          refine ⟨l.length - k,by omega,k,w,acc++[⟨id+(1+(x.toNat:Int) / 64),true,(x.toNat:Int) % 6⟩],id+(1+(x.toNat:Int) / 64),rfl,by omega,by omega,by simp; omega,⟨by simp; omega,?_,fun y hy=>?_⟩,fun y hy=>?_,?_,?_,⟨by rw [e3]; have := hg.1; simp; omega,fun a ha=>?_⟩,e2,rfl⟩
          · unfold RisingP
            rw [List.pairwise_append]
            refine ⟨hmk.2.1,by simp,fun a ha b hb=>?_⟩
            rw [List.mem_singleton.1 hb]
            have := hid a ha
            show a.f0<id+(1+(x.toNat:Int) / 64)
            omega
          · rcases List.mem_append.1 hy with hy | hy
            · exact hmk.2.2 y hy
            · rw [List.mem_singleton.1 hy]
              show (0≤id+(1+(x.toNat:Int) / 64)∧id+(1+(x.toNat:Int) / 64)≤52)∧0≤(x.toNat:Int) % 6∧(x.toNat:Int) % 6≤5
              omega
          · rcases List.mem_append.1 hy with hy | hy
            · have := hid y hy; omega
            · rw [List.mem_singleton.1 hy]; exact Int.le_refl _
          · omega
          · omega
          · rw [e4 a ha]
            have := hg.1
            simp [show ¬ a=σ'.next by omega]
            exact hg.2 a ha
      · have:i=l.length := by omega
        subst this
        simp [lk_cons]
        exact ⟨ov,acc,hmk,hg,ho,rfl⟩
  · rintro rg s ⟨ov,acc,hmk,hg,ho,r1,r5⟩
    have l2 := ho.len
    cases op with
    | false =>
      simp [lk_cons,r1,r5,↓l2]
      exact hq ov acc s ho hmk hg
    | true =>
      rcases List.eq_nil_or_concat acc with rfl | ⟨m,x,rfl⟩
      · simp [lk_cons,r1,r5,↓l2]
        exact hq ov [] s ho hmk hg
      · rw [List.concat_eq_append] at *
        obtain ⟨k1,k2,k3⟩ := hmk
        have hml:m.length≤12 := by simp at k1; omega
        have l3:∀ ρ:St,evalV ρ (.len 1 ov)=some (i64 ((m.length:Int)+1),ρ) := fun ρ=>by rw [l2]; simp
        have c1:(0:Int)<(m.length:Int)+1 := by omega
        have w1:IntKind.i64.wrap (m.length:Int)=(m.length:Int) := by rw [IntWalk.i64_in] <;> omega
        rcases ho with ⟨_,h0⟩ | ⟨o,rfl,h0,h1,h2,h3⟩
        · simp at h0
        · have c2:(m.length:Int)<(m.length:Int)+1 := by omega
          have e1:(ldc m++[u64 x.f0,.bool x.f1,u64 x.f2]).set (m.length*3+1) (.bool false)=ldc m++[u64 x.f0,.bool false,u64 x.f2] := by
            rw [← ldc_len m,List.set_append_right _ _ (by omega)]; simp
          simp [lk_cons,r1,r5,c1,w1,h3,ldc_app,ldc,ldc_len,c2,storeL,e1]
          have e2:ldc m++[u64 x.f0,.bool false,.int .u64 0]=ldc (m++[⟨x.f0,false,0⟩]) := by rw [ldc_app]; rfl
          rw [e2]
          have ho2:LOut σ.next ⟨(s.mem.set o (.cells 3 (ldc m++[u64 x.f0,.bool false,u64 x.f2]))).set o (.cells 3 (ldc (m++[⟨x.f0,false,0⟩]))),s.next⟩ (.sl o 0 (m.length+1) (m.length+1) false) (m++[⟨x.f0,false,0⟩]) := .inr ⟨o,by simp,by simp,h1,h2,by simp⟩
          refine hq _ _ _ ho2 ⟨by simp; omega,?_,fun y hy=>?_⟩ ⟨hg.1,fun a ha=>?_⟩
          · unfold RisingP at k2 ⊢
            rw [List.pairwise_append] at k2 ⊢
            refine ⟨k2.1,by simp,fun a ha b hb=>?_⟩
            rw [List.mem_singleton.1 hb]
            exact k2.2.2 a ha x (by simp)
          · rcases List.mem_append.1 hy with hy | hy
            · exact k3 y (by simp [hy])
            · rw [List.mem_singleton.1 hy]
              have := k3 x (by simp)
              exact ⟨this.1,by show (0:Int)≤0; omega,by show (0:Int)≤5; omega⟩
          · simp [show ¬ a=o by omega]; exact hg.2 a ha
theorem LOut.rd {lo:Nat} {σ:St} {v:AVal} {l:List Ld} (h:LOut lo σ v l):Rd 3 σ v l.length (ldc l) := by
  refine ⟨ldc_len l,?_⟩
  rcases h with ⟨rfl,rfl⟩ | ⟨o,rfl,h1,h2,h3,h4⟩
  · exact .inl ⟨rfl,rfl⟩
  · exact .inr (.inr ⟨o,l.length,false,rfl,h3,h4⟩)
abbrev SbP := SbV×{v:AVal // v.one=true}
def rwS:Rw SbP 5 := ⟨fun p=>[.str p.1.name,.int .u8 (p.1.kind:Int),u64 p.1.ml,u64 p.1.me,p.2.1],fun _=>rfl,fun p=>by simp [p.2.2]⟩
theorem GS.rd {α:Type} {k:Nat} {R:Rw α k} {σ:St} {v:AVal} {l:List α} {b:Option Nat} (h:GS R σ v l b):Rd k σ v l.length (rws R l) := by
  refine ⟨rws_len R l,?_⟩
  rcases h with ⟨rfl,rfl,_⟩ | ⟨o,t,_,rfl,h3,h4⟩
  · exact .inl ⟨rfl,rfl⟩
  · exact .inr (.inr ⟨o,l.length,t,rfl,h3,h4⟩)
theorem sbI_rws:∀ {l:List SbP},(∀ p∈l,HI p.2.1 p.1.h)→SbI (rws rwS l) (l.map (·.1))
  | [],_=>trivial
  | p :: l,h=>by
    rw [rws_cons]
    exact ⟨⟨rfl,rfl,rfl,rfl,h p (by simp)⟩,sbI_rws fun q hq=>h q (by simp [hq])⟩
structure Sm (x:SbV):Prop where
  name:x.name.size≤200
  kind:x.kind<256
  num:In64 x.ml∧In64 x.me
  hs:HSm x.h
  few:x.h.length≤40∧∀ y∈x.h,y.f1.length≤40
theorem hdsB_len4 {h:List Hd} (he:∀ x∈h,x.f1.length≤40):(hdsB h).length≤650*h.length := by
  induction h with
  | nil=>simp [hdsB]
  | cons x l ih =>
    have h1 := ih fun y hy=>he y (by simp [hy])
    have h2 := he x (by simp)
    have h3 := rgsB_len x.f1
    simp only [hdsB,List.map_cons,List.flatten_cons,List.length_append,List.length_cons,hdB,beN_len] at h1 ⊢
    omega
theorem sm_sum:∀ {s:List SbV},(∀ x∈s,Sm x)→(sbsB s).length≤30000*s.length
  | [],_=>by simp [sbsB]
  | x :: s,h=>by
    have h1 := sm_sum (s := s) fun y hy=>h y (by simp [hy])
    have h2 := h x (by simp)
    have h3 := hdsB_len4 h2.few.2
    have h4 := h2.few.1
    have h5 := h2.name
    simp only [sbsB,List.map_cons,List.flatten_cons,List.length_append,List.length_cons,sbB,cuB,beN_len,txB_len] at h1 ⊢
    omega
theorem HSm.ofC {ml me:Int} {h:List Hd} (hC:COk ml me h) (h7:h.length≤7) (h14:∀ x∈h,x.f1.length≤14):HSm h∧(h.length≤40∧∀ y∈h,y.f1.length≤40) := by
  refine ⟨⟨by omega,fun x hx=>by have := h14 x hx; omega,fun x hx=>?_,fun x hx z hz=>?_⟩,by omega,fun x hx=>by have := h14 x hx; omega⟩
  · have h1 := (hok_mem hC.1 x hx).1
    have h2 := hC.2.1 x hx
    exact ⟨by omega,by omega⟩
  · have h1 := good_mem (hok_mem hC.1 x hx).2.1 z hz
    exact ⟨⟨by omega,by omega⟩,by omega,by omega⟩
end Go.Proofs.YticefdfhcahlfaaGreatDoor.AM

namespace Go.Proofs.YticefdfhcahlfaaGreatDoor.AM
open Go.RowKit
set_option maxRecDepth 100000
set_option linter.unusedVariables false
set_option linter.unusedSimpArgs false
def rwD:Rw Ld 3 := ⟨fun x=>[u64 x.f0,.bool x.f1,u64 x.f2],fun _=>rfl,fun _=>rfl⟩
theorem rwsD:∀ t:List Ld,rws rwD t=ldc t
  | []=>rfl
  | x :: t=>by rw [rws_cons,rwsD t]; rfl
def pLd:Prs Ld := pB (pNum 8) fun a=>pB pFlag fun b=>pB (pNum 8) fun c=>pR ⟨(a:Int),b,(c:Int)⟩
def pSb:Prs SbV := pB pTx fun nm=>pB (pNum 1) fun k=>pB pCu fun c=>pR ⟨nm,k,c.ml,c.me,c.h⟩
structure Tp where
  ep:Nat
  last:Nat
  t:List Ld
  s:List SbV
  T:Tbl
open Classical in
noncomputable def pT5 (ep last:Nat) (t:List Ld) (s:List SbV):Prs Tp := pB pTab fun T l=>if tpOk (last:Int) t s then .ok (⟨ep,last,t,s,T⟩,l) else .error 23
noncomputable def pT4 (ep last:Nat) (t:List Ld):Prs Tp := pB (pNum 1) fun n=>pB (pMany pSb n) fun s=>pT5 ep last t s
noncomputable def pTp:Prs Tp := pB (pNum 8) fun ep=>pB (pNum 8) fun last=>pB (pNum 1) fun n=>pB (pMany pLd n) fun t=>pT4 ep last t
theorem RgN.mono2 {lo hi hi':Nat} {m m':Mem} {v:AVal} {l:List S25} (h:RgN lo hi m v l) (h2:hi≤hi') (hm:∀ a,lo≤a→a<hi→(∃ cs,m.get a=some (.cells 2 cs))→m'.get a=m.get a):RgN lo hi' m' v l := by
  rcases h with h | ⟨b,c,t,e,k1,k2,k3⟩
  · exact .inl h
  · exact .inr ⟨b,c,t,e,k1,Nat.lt_of_lt_of_le k2 h2,(hm b k1 k2 ⟨_,k3⟩).trans k3⟩
theorem HCM.mono2 {lo hi hi':Nat} {m m':Mem} (h2:hi≤hi') (hm:∀ a,lo≤a→a<hi→(∃ cs,m.get a=some (.cells 2 cs))→m'.get a=m.get a):∀ {cs:List AVal} {xs:List Hd},HCM lo hi m cs xs→HCM lo hi' m' cs xs
  | [],[],_=>trivial
  | a :: b :: cs,x :: xs,h=>⟨h.1,h.2.1.mono2 h2 hm,HCM.mono2 h2 hm h.2.2⟩
  | [],_ :: _,h=>h.elim
  | [_],_,h=>by cases ‹List Hd› <;> exact h.elim
  | _ :: _ :: _,[],h=>h.elim
theorem HOut.frame2 {lo:Nat} {σ1 σ2:St} {v:AVal} {h:List Hd} (hh:HOut lo σ1 v h) (hn:σ1.next≤σ2.next) (hm:∀ a,lo≤a→a<σ1.next→(∃ cs,σ1.mem.get a=some (.cells 2 cs))→σ2.mem.get a=σ1.mem.get a):HOut lo σ2 v h := by
  rcases hh with hh | ⟨o,cs,e,h1,h2,h3,h4,h5⟩
  · exact .inl hh
  · exact .inr ⟨o,cs,e,h1,h2,Nat.lt_of_lt_of_le h3 hn,(hm o h2 h3 ⟨_,h4⟩).trans h4,h5.mono2 (Nat.le_refl _) fun a ha hb hc=>hm a ha (by omega) hc⟩
theorem GS.blk {α:Type} {k:Nat} {R:Rw α k} {σ:St} {v:AVal} {l:List α} {a:Nat} (h:GS R σ v l (some a)):σ.mem.get a=some (.cells k (rws R l)) := by
  rcases h with ⟨_,_,h⟩ | ⟨o,t,h1,_,_,h4⟩
  · cases h
  · cases h1; exact h4
theorem setB_le (n:ByteArray) (x:Ln) (T:Tbl):(setB T n x).length≤T.length+1 := by rw [setB_len]; split <;> omega
theorem pLines_len:∀ (n:Nat) (T:Tbl) (last:ByteArray) (l l':List UInt8) (S:Tbl),T.length≤16→pLines n T last l=.ok (S,l')→S.length≤16
  | 0,T,_,l,l',S,h,e=>by simp only [pLines] at e; cases e; exact h
  | n+1,T,last,l,l',S,h,e=>by
    simp only [pLines] at e
    split at e
    · cases e
    · rename_i x l2 _
      by_cases hb:lnBad T last x=true
      · rw [if_pos hb] at e; cases e
      · rw [if_neg hb] at e
        refine pLines_len n _ _ _ _ _ ?_ e
        have h1 := setB_le x.1 x.2 T
        have:¬ 16≤T.length := fun h2=>hb (by simp [lnBad,h2])
        omega
theorem pTab_len {l l':List UInt8} {S:Tbl} (h:pTab l=.ok (S,l')):S.length≤16 := by
  unfold pTab at h
  split at h
  · cases h
  · exact pLines_len _ _ _ _ _ _ (by simp) h
def SbO (lo:Nat) (σ:St) (l:List SbP):Prop := ∀ p∈l,HOut lo σ p.2.1 p.1.h∧HFew p.1.h
theorem SbO.frame {lo:Nat} {σ σ':St} {l:List SbP} (h:SbO lo σ l) (hn:σ.next≤σ'.next) (hm:∀ a,lo≤a→a<σ.next→(∃ cs,σ.mem.get a=some (.cells 2 cs))→σ'.mem.get a=σ.mem.get a):SbO lo σ' l := fun p hp=>⟨(h p hp).1.frame2 hn hm,(h p hp).2⟩
theorem SbO.c {lo:Nat} {σ:St}:∀ {l:List SbP},SbO lo σ l→SbC σ (rws rwS l) (l.map (·.1))
  | [],_=>trivial
  | p :: l,h=>by
    rw [rws_cons]
    exact ⟨⟨rfl,rfl,rfl,rfl,.inr ⟨lo,(h p (by simp)).1⟩⟩,SbO.c fun q hq=>h q (by simp [hq])⟩
def De1 (res:Except Nat (Tp×List UInt8)) (r tc:Nat) (c:Option Nat) (ep last N:Nat) (S:St) (mm:Nat) (rg:Regs) (σ':St):Prop := ∃ (i:Nat) (l:List UInt8) (v:AVal) (t:List Ld) (b:Option Nat),mm=N - i∧i≤N∧t.length=i∧RR σ' r l c∧l.length≤1000000∧RStpC r tc S σ'∧σ'.mem.get tc=some (.cells 5 [u64 (ep:Int),u64 (last:Int),v,.nilsl,.nilsl])∧GS rwD σ' v t b∧(∀ z,b=some z→S.next≤z)∧(∀ x∈t,0≤x.f2)∧res=pB (pMany pLd (N - i)) (fun is=>pT4 ep last (t++is)) l∧rg=[(0,.ptr r 0),(1,.ptr tc 0),(10,.int .u8 (N:Int)),(11,.int .u8 (i:Int))]
def De2 (res:Except Nat (Tp×List UInt8)) (r tc:Nat) (c:Option Nat) (ep last:Nat) (t:List Ld) (lv:AVal) (bt:Option Nat) (N:Nat) (S:St) (mm:Nat) (rg:Regs) (σ':St):Prop := ∃ (i:Nat) (l:List UInt8) (v:AVal) (s:List SbP) (b:Option Nat),mm=N - i∧i≤N∧s.length=i∧RR σ' r l c∧l.length≤1000000∧RStpC r tc S σ'∧σ'.mem.get tc=some (.cells 5 [u64 (ep:Int),u64 (last:Int),lv,v,.nilsl])∧GS rwD σ' lv t bt∧GS rwS σ' v s b∧SbO S.next σ' s∧(∀ z,b=some z→S.next≤z)∧res=pB (pMany pSb (N - i)) (fun is=>pT5 ep last t (s.map (·.1)++is)) l∧rg=[(0,.ptr r 0),(1,.ptr tc 0),(27,.int .u8 (N:Int)),(28,.int .u8 (i:Int))]
def TpM (tc:Nat) (x:Tp) (σ σ':St):Prop := ∃ lv sv nv bt bs bn s ys,σ'.mem.get tc=some (.cells 5 [u64 (x.ep:Int),u64 (x.last:Int),lv,sv,nv])∧GS rwD σ' lv x.t bt∧GS rwS σ' sv s bs∧x.s=s.map (·.1)∧SbO σ.next σ' s∧GS rwL σ' nv ys bn∧ys.Perm x.T∧RisL ys∧(∀ z,bt=some z∨bs=some z∨bn=some z→σ.next≤z)
set_option maxHeartbeats 4000000 in
theorem decc_c {T:AVal→St→Prop} {σ:St} {r tc:Nat} {l:List UInt8} {c:Option Nat} {K:AVal→St→Prop} (h:RR σ r l c) (hl:l.length≤1000000) (htc:σ.mem.get tc=some (.cells 5 [.int .u64 0,.int .u64 0,.nilsl,.nilsl,.nilsl])) (htl:tc<σ.next) (hrt:tc≠r) (hct:c≠some tc)
    (hT:∀ e σ',pTp l=.error e→RStpC r tc σ σ'→T (thrownV (e:Int)) σ')
    (hK:∀ x l' σ',pTp l=.ok (x,l')→RR σ' r l' c→TpM tc x σ σ'→RStpC r tc σ σ'→K (.tup []) σ'):ACall (Env.th Tryz.prog T) 24 [.ptr r 0,.ptr tc 0] σ K := by
  refine ACall.of_compF hmx (fun a w=>Tryz.call24 a w) Tryz.func24 cf24 (n := 2) (by decide) rfl ?_
  obtain ⟨v,q1,q2,q3,q4⟩ := id h
  have kR:∀ {σ':St} {l':List UInt8} (B:Blk),RR σ' r l' c→RR ⟨σ'.mem.set tc B,σ'.next⟩ r l' c := fun B hr=>hr.keep (Nat.le_refl _) fun a ha hac=>by
    have:a≠tc := by
      rcases hac with rfl | hac
      · exact Ne.symm hrt
      · exact fun e=>hct (by rw [hac,e])
    simp [this]
  have hcl:∀ a,c=some a→a<σ.next := fun a ha=>q2.lt ha
  simp [ac24,rs24,lk_cons]
  refine ru64_c h (by omega) (fun e he=>hT e σ (by rw [pTp]; exact pB_err he) ⟨Nat.le_refl _,fun _ _ _ _=>rfl⟩) fun ep l1 σ1 p1 h1 s1=>?_
  have hl1 := (pNum_len p1).1
  have n1 := s1.next
  simp [lk_cons]
  refine ru64_c h1 (by omega) (fun e he=>hT e σ1 (by rw [pTp,pB_ok p1]; exact pB_err he) s1.c) fun last l2 σ2 p2 h2 s2=>?_
  have s2 := s1.trans s2
  have hl2 := (pNum_len p2).1
  have n2 := s2.next
  have m2 := (s2.keep tc htl hrt).trans htc
  simp [lk_cons,m2,storeL]
  obtain ⟨S3,hS3⟩:∃ S:St,S=⟨(σ2.mem.set tc (.cells 5 [u64 (ep:Int),.int .u64 0,.nilsl,.nilsl,.nilsl])).set tc (.cells 5 [u64 (ep:Int),u64 (last:Int),.nilsl,.nilsl,.nilsl]),σ2.next⟩ := ⟨_,rfl⟩
  have nS3:S3.next=σ2.next := by rw [hS3]
  have mS3:S3.mem.get tc=some (.cells 5 [u64 (ep:Int),u64 (last:Int),.nilsl,.nilsl,.nilsl]) := by rw [hS3]; simp
  have rS3:RR S3 r l2 c := by rw [hS3]; exact kR (σ' := ⟨_,σ2.next⟩) _ (kR _ h2)
  have sS3:RStpC r tc σ S3 := by rw [hS3]; exact (s2.c.trans RStpC.st).trans (RStpC.st (σ := ⟨_,σ2.next⟩))
  rw [← hS3]
  refine ru8_c rS3 (by omega) (fun e he=>hT e S3 (by rw [pTp,pB_ok p1,pB_ok p2]; exact pB_err he) sS3) fun N l3 σ4 p3 h4 s4=>?_
  have hl3 := (pNum_len p3).1
  have hN := (pNum_len p3).2
  have n4 := s4.next
  have m4 := (s4.keep tc (by omega) hrt).trans mS3
  have sS4 := sS3.trans s4.c
  have hr4:pTp l=pB (pMany pLd N) (fun is=>pT4 ep last is) l3 := by rw [pTp,pB_ok p1,pB_ok p2,pB_ok p3]
  simp [lk_cons]
  refine wp_loop (De1 (pTp l) r tc c ep last N σ4) N ?_ ?_
  · exact ⟨0,l3,.nilsl,[],none,rfl,by omega,rfl,h4,by omega,⟨Nat.le_refl _,fun _ _ _ _=>rfl⟩,m4,GS.nil _,by simp,by simp,hr4,rfl⟩
  rintro mm rg σ5 ⟨i,l5,v5,t,b,rfl,hi,hti,h5,hl5,s5,m5,g5,hb5,hp5,hr5,rfl⟩
  have n5 := s5.next
  by_cases hlt:i<N
  · have hlt':(i:Int)<N := by omega
    have w1:IntKind.u8.wrap ((i:Int)+1)=((i+1:Nat):Int) := by rw [IntWalk.u8_in] <;> omega
    obtain ⟨j,hj⟩:∃ j,N - i=j+1 := ⟨N - i - 1,by omega⟩
    rw [hj,pMany_step] at hr5
    simp [lk_cons,hlt,hlt',m5]
    refine ru64_c h5 (by omega) (fun e he=>hT e σ5 (by rw [hr5]; exact pB_err (pB_err he)) (sS4.trans s5)) fun a l6 σ6 u1 h6 s6=>?_
    have n6 := s6.next
    have hl6 := (pNum_len u1).1
    have s6c := s5.trans s6.c
    have m6 := (s6.keep tc (by omega) hrt).trans m5
    simp [lk_cons,m6]
    refine ryes_c h6 (by omega) (fun e σ' he hs=>hT e σ' (by rw [hr5]; exact pB_err (by rw [pLd,pB_ok u1]; exact pB_err he)) (sS4.trans (s6c.trans hs.c))) fun y l7 σ7 u2 h7 s7 hl7=>?_
    have n7 := s7.next
    have s7c := s6c.trans s7.c
    have m7 := (s7.keep tc (by omega) hrt).trans m6
    simp [lk_cons,m7]
    refine ru64_c h7 (by omega) (fun e he=>hT e σ7 (by rw [hr5]; exact pB_err (by rw [pLd,pB_ok u1,pB_ok u2]; exact pB_err he)) (sS4.trans s7c)) fun z l8 σ8 u3 h8 s8=>?_
    have n8 := s8.next
    have hl8 := (pNum_len u3).1
    have s8c := s7c.trans s8.c
    have m8 := (s8.keep tc (by omega) hrt).trans m7
    have g8:GS rwD σ8 v5 t b := g5.keep (by omega) fun a ha hab=>by
      have := hb5 a hab
      exact (s8.keep a (by omega) (by omega)).trans ((s7.keep a (by omega) (by omega)).trans (s6.keep a ha (by omega)))
    obtain ⟨x,hx⟩:∃ x:Ld,x=⟨(a:Int),y,(z:Int)⟩ := ⟨_,rfl⟩
    have hxA:rwD.a x=[u64 (a:Int),.bool y,u64 (z:Int)] := by rw [hx]; rfl
    have g9:GS rwD ⟨σ8.mem.set σ8.next (.cells 3 (rwD.a x)),σ8.next+1⟩ v5 t b := g8.keep (by simp) fun a ha _=>by simp [show ¬ a=σ8.next by omega]
    obtain ⟨σ9,f1,f2,f3,f4⟩ := gs_app1 g9 (nb := σ8.next) (by_ := 24) (t := true) (x := x) (by decide) (by simp) (fun e=>by have := g8.lt e; omega) (by omega) (by omega)
    rw [hxA] at f1
    have m9:σ9.mem.get tc=some (.cells 5 [u64 (ep:Int),u64 (last:Int),v5,.nilsl,.nilsl]) := by
      rw [f4 tc (by show tc<σ8.next+1; omega) fun e=>by have := hb5 _ e; omega]
      simp [show ¬ tc=σ8.next by omega]; exact m8
    simp [lk_cons,m8,fillL,storeL,repL,↓f1,m9,w1]
    have k9:∀ a,a<σ4.next→σ9.mem.get a=σ8.mem.get a := fun a ha=>by
      rw [f4 a (by show a<σ8.next+1; omega) fun e=>by have := hb5 _ e; omega]
      simp [show ¬ a=σ8.next by omega]
    have n9:σ9.next=σ8.next+2 := by rw [f3]
    have r9:RR σ9 r l8 c := h8.keep (by omega) fun a ha hac=>k9 a (by
      rcases hac with rfl | hac
      · omega
      · have := hcl a hac; omega)
    refine ⟨N - (i+1),by omega,i+1,l8,_,t++[x],some (σ8.next+1),rfl,by omega,by simp [hti],kR _ r9,by omega,⟨by show σ4.next≤σ9.next; omega,fun a ha h1 h2=>?_⟩,by simp,f2.keep (Nat.le_refl _) fun a ha hab=>?_,fun z hz=>?_,fun y2 hy=>?_,?_,by simp⟩
    · simp [h2]; exact (k9 a ha).trans (s8c.keep a ha h1 h2)
    · have hab:σ8.next+1=a := Option.some.inj hab
      simp [show ¬ a=tc by omega]
    · have hz:σ8.next+1=z := Option.some.inj hz
      omega
    · rcases List.mem_append.1 hy with hy | hy
      · exact hp5 y2 hy
      · rw [List.mem_singleton.1 hy,hx]; show (0:Int)≤z; omega
    · rw [hr5,pLd,pB_assoc,pB_ok u1,pB_assoc,pB_ok u2,pB_assoc,pB_ok u3,pB_pR,show N - (i+1)=j by omega,hx]
      simp
  have:i=N := by omega
  subst this
  simp [lk_cons]
  rw [Nat.sub_self] at hr5
  have sS5 := sS4.trans s5
  simp only [pMany,pB_pR,List.append_nil] at hr5
  refine ru8_c h5 (by omega) (fun e he=>hT e σ5 (by rw [hr5,pT4]; exact pB_err he) sS5) fun M l6 σ6 u1 h6 s6=>?_
  have hl6 := (pNum_len u1).1
  have hM := (pNum_len u1).2
  have n6 := s6.next
  have m6 := (s6.keep tc (by omega) hrt).trans m5
  have sS6 := sS5.trans s6.c
  have g6:GS rwD σ6 v5 t b := g5.keep (by omega) fun a ha hab=>s6.keep a ha (by have := hb5 a hab; omega)
  have hr6:pTp l=pB (pMany pSb M) (fun is=>pT5 ep last t is) l6 := by rw [hr5,pT4,pB_ok u1]
  have hb6:∀ z,b=some z→z<σ6.next∧σ4.next≤z := fun z hz=>⟨g6.lt hz,hb5 z hz⟩
  simp [lk_cons]
  refine wp_loop (De2 (pTp l) r tc c ep last t v5 b M σ6) M ?_ ?_
  · exact ⟨0,l6,.nilsl,[],none,rfl,by omega,rfl,h6,by omega,⟨Nat.le_refl _,fun _ _ _ _=>rfl⟩,m6,g6,GS.nil _,fun _ h=>absurd h List.not_mem_nil,by simp,hr6,rfl⟩
  rintro mm rg σ7 ⟨i2,l7,v7,s,b7,rfl,hi2,hsi,h7,hl7,s7,m7,gt7,g7,o7,hb7,hr7,rfl⟩
  have n7 := s7.next
  by_cases hlt:i2<M
  · have hlt':(i2:Int)<M := by omega
    have w1:IntKind.u8.wrap ((i2:Int)+1)=((i2+1:Nat):Int) := by rw [IntWalk.u8_in] <;> omega
    obtain ⟨j,hj⟩:∃ j,M - i2=j+1 := ⟨M - i2 - 1,by omega⟩
    rw [hj,pMany_step] at hr7
    simp [lk_cons,hlt,hlt',m7]
    refine rtext_c h7 (by omega) (fun e σ' he hs=>hT e σ' (by rw [hr7]; exact pB_err (by rw [pSb]; exact pB_err (by rw [pTx]; exact pB_err he))) (sS6.trans (s7.trans hs.c))) fun nm l8 σ8 u2 h8 s8=>?_
    have n8 := s8.next
    have hl8 := (pText_len u2).1
    have s8c := s7.trans s8.c
    have m8 := (s8.keep tc (by omega) hrt).trans m7
    simp [lk_cons,m8]
    refine ru8_c h8 (by omega) (fun e he=>hT e σ8 (by rw [hr7]; exact pB_err (by rw [pSb,pTx,pB_assoc,pB_ok u2,pB_pR]; exact pB_err he)) (sS6.trans s8c)) fun k l9 σ9 u3 h9 s9=>?_
    have n9 := s9.next
    have hl9 := (pNum_len u3).1
    have hk := (pNum_len u3).2
    have s9c := s8c.trans s9.c
    have m9 := (s9.keep tc (by omega) hrt).trans m8
    simp [lk_cons,m9]
    refine ctake_c h9 (by omega) (fun e σ' he hs=>hT e σ' (by rw [hr7]; exact pB_err (by rw [pSb,pTx,pB_assoc,pB_ok u2,pB_pR,pB_ok u3]; exact pB_err he)) (sS6.trans (s9c.trans hs.c))) fun cu l10 hv σ10 u4 h10 ho10 hf10 s10=>?_
    have n10 := s10.next
    have s10c := s9c.trans s10.c
    have m10 := (s10.keep tc (by omega) hrt).trans m9
    have hv1 := ho10.one
    obtain ⟨x,hx⟩:∃ x:SbP,x=(⟨⟨nm.toArray⟩,k,cu.ml,cu.me,cu.h⟩,⟨hv,hv1.1⟩) := ⟨_,rfl⟩
    have hxA:rwS.a x=[.str ⟨nm.toArray⟩,.int .u8 (k:Int),u64 cu.ml,u64 cu.me,hv] := by rw [hx]; rfl
    have hb7r:∀ a,b7=some a→a≠r∧a≠tc := fun a ha=>by have := hb7 a ha; omega
    have k10:∀ a,a<σ7.next→a≠r→σ10.mem.get a=σ7.mem.get a := fun a ha hr=>(s10.keep a (by omega) hr).trans ((s9.keep a (by omega) hr).trans (s8.keep a ha hr))
    have g10:GS rwS σ10 v7 s b7 := g7.keep (by omega) fun a ha hab=>k10 a ha (hb7r a hab).1
    have o10:SbO σ6.next σ10 s := o7.frame (by omega) fun a ha hb _=>k10 a hb (by omega)
    have g11:GS rwS ⟨σ10.mem.set σ10.next (.cells 5 (rwS.a x)),σ10.next+1⟩ v7 s b7 := g10.keep (by simp) fun a ha _=>by simp [show ¬ a=σ10.next by omega]
    obtain ⟨σ11,f1,f2,f3,f4⟩ := gs_app1 g11 (nb := σ10.next) (by_ := 64) (t := true) (x := x) (by decide) (by simp) (fun e=>by have := g10.lt e; omega) (by omega) (by omega)
    rw [hxA] at f1
    have k11:∀ a,a<σ10.next→b7≠some a→σ11.mem.get a=σ10.mem.get a := fun a ha hb=>by
      rw [f4 a (by show a<σ10.next+1; omega) hb]
      simp [show ¬ a=σ10.next by omega]
    have m11 := (k11 tc (by omega) fun e=>(hb7r _ e).2 rfl).trans m10
    simp [lk_cons,m10,fillL,storeL,repL,hv1,↓f1,m11,w1]
    have n11:σ11.next=σ10.next+2 := by rw [f3]
    have r11:RR σ11 r l10 c := h10.keep (by omega) fun a ha hac=>k11 a ha fun e=>by
      rcases hac with rfl | hac
      · exact (hb7r _ e).1 rfl
      · have := hcl a hac; have := hb7 a e; omega
    have hl10:l10.length≤l9.length := pCu_len _ _ _ u4
    refine ⟨M - (i2+1),by omega,i2+1,l10,_,s++[x],some (σ10.next+1),rfl,by omega,by simp [hsi],kR _ r11,by omega,⟨by show σ6.next≤σ11.next; omega,fun a ha h1 h2=>?_⟩,by simp,gt7.keep (by show σ7.next≤σ11.next; omega) fun a ha hab=>?_,f2.keep (Nat.le_refl _) fun a ha hab=>?_,fun p hp=>?_,fun z hz=>?_,?_,by simp⟩
    · simp [h2]; exact (k11 a (by omega) fun e=>by have := hb7 a e; omega).trans (s10c.keep a ha h1 h2)
    · have hb := hb6 a hab
      have hne:a≠tc := by omega
      simp [hne]
      exact (k11 a (by omega) fun e=>by have := hb7 a e; omega).trans (k10 a ha (by omega))
    · have hab:σ10.next+1=a := Option.some.inj hab
      simp [show ¬ a=tc by omega]
    · have fr:∀ {v:AVal} {h:List Hd},HOut σ6.next σ10 v h→HOut σ6.next ⟨σ11.mem.set tc (.cells 5 [u64 (ep:Int),u64 (last:Int),v5,.sl (σ10.next+1) 0 (s.length+1) (s.length+1) false,.nilsl]),σ11.next⟩ v h := fun hh=>hh.frame2 (by show σ10.next≤σ11.next; omega) fun a ha hb hc=>by
        simp [show ¬ a=tc by omega]
        refine k11 a hb fun e=>?_
        have := (e ▸ g10).blk
        obtain ⟨cs,hc⟩ := hc
        rw [this] at hc; cases hc
      rcases List.mem_append.1 hp with hp | hp
      · exact ⟨fr (o10 p hp).1,(o10 p hp).2⟩
      · rw [List.mem_singleton.1 hp,hx]
        exact ⟨fr (ho10.mono (by omega)),hf10⟩
    · have hz:σ10.next+1=z := Option.some.inj hz
      omega
    · rw [hr7,pSb,pTx,pB_assoc,pB_assoc,pB_ok u2,pB_pR,pB_assoc,pB_ok u3,pB_assoc,pB_ok u4,pB_pR,show M - (i2+1)=j by omega,hx]
      simp
  have:i2=M := by omega
  subst this
  rw [Nat.sub_self] at hr7
  simp only [pMany,pB_pR,List.append_nil] at hr7
  have hrn:r<σ.next := q4
  have sS7 := sS6.trans s7
  simp [lk_cons]
  refine dtake_c h7 (by omega) (fun e σ' he hs=>hT e σ' (by rw [hr7,pT5]; exact pB_err he) (sS7.trans hs.c)) fun Tb l8 tt mp σ8 u2 tr h8 s8 hge=>?_
  have n8 := s8.next
  have m8 := (s8.keep tc (by omega) hrt).trans m7
  simp [lk_cons]
  refine ACall.into (all_c tr ?_ _ fun nv ys σ9 bn p9 ris g9 hbn gr9=>?_)
  · have := pTab_len u2
    omega
  have n9 := gr9.1
  have m9 := (gr9.2 tc (by omega)).trans m8
  have hnv := g9.one
  simp [lk_cons,m9,storeL,hnv]
  have k9:∀ a,a<σ7.next→a≠r→σ9.mem.get a=σ7.mem.get a := fun a ha hr=>(gr9.2 a (by omega)).trans (s8.keep a ha hr)
  obtain ⟨F,hF⟩:∃ F:St,F=⟨σ9.mem.set tc (.cells 5 [u64 (ep:Int),u64 (last:Int),v5,v7,nv]),σ9.next⟩ := ⟨_,rfl⟩
  have nF:F.next=σ9.next := by rw [hF]
  have kF:∀ a,a≠tc→F.mem.get a=σ9.mem.get a := fun a ha=>by rw [hF]; simp [ha]
  have mF:F.mem.get tc=some (.cells 5 [u64 (ep:Int),u64 (last:Int),v5,v7,nv]) := by rw [hF]; simp
  have rF:RR F r l8 c := by rw [hF]; exact kR _ (h8.grow gr9)
  rw [← hF]
  have gtF:GS rwD F v5 t b := gt7.keep (by omega) fun a ha hab=>by
    have := hb6 a hab
    exact (kF a (by omega)).trans (k9 a ha (by omega))
  have gsF:GS rwS F v7 s b7 := g7.keep (by omega) fun a ha hab=>by
    have := hb7 a hab
    exact (kF a (by omega)).trans (k9 a ha (by omega))
  have goF:SbO σ6.next F s := o7.frame (by omega) fun a ha hb _=>(kF a (by omega)).trans (k9 a hb (by omega))
  have gnF:GS rwL F nv ys bn := g9.keep (by omega) fun a ha hab=>by
    have := hbn a hab
    exact kF a (by omega)
  have sF:RStpC r tc σ F := (sS7.trans (s8.c.trans gr9.rstpc)).trans ⟨by omega,fun a ha _ h2=>kF a h2⟩
  have hlt' := hti
  refine ACall.into (tpcheck_g (t := t) (s := s.map (·.1)) (cs := rws rwS s) ⟨by have := gtF.rd; rwa [rwsD] at this,by simpa using gsF.rd,goF.c⟩ ⟨by omega,hp5,by simp; omega,fun x hx=>?_⟩ (ep:Int) (last:Int) hnv.1 _ fun bb hbb=>?_)
  · obtain ⟨p,hp,rfl⟩ := List.mem_map.1 hx
    exact (goF p hp).2
  cases bb with
  | true =>
    have htp := hbb.1 rfl
    simp [lk_cons]
    refine hK ⟨ep,last,t,s.map (·.1),Tb⟩ l8 F (by rw [hr7,pT5,pB_ok u2,if_pos htp]) rF ⟨v5,v7,nv,b,b7,bn,s,ys,mF,gtF,gsF,rfl,fun p hp=>⟨((goF p hp).1).mono (by omega),(goF p hp).2⟩,gnF,p9,ris,fun z hz=>?_⟩ sF
    rcases hz with hz | hz | hz
    · have := hb6 z hz; omega
    · have := hb7 z hz; omega
    · have := hbn z hz; omega
  | false =>
    have htp:¬ tpOk (last:Int) t (s.map (·.1)) := fun e=>by have := hbb.2 e; cases this
    simp [lk_cons]
    refine fail_c (fun _=>?_) fun e=>by cases e
    exact hT 23 F (by rw [hr7,pT5,pB_ok u2,if_neg htp]) sF
end Go.Proofs.YticefdfhcahlfaaGreatDoor.AM

namespace Go.Proofs.YticefdfhcahlfaaGreatDoor.AM
open Go.RowKit
set_option maxRecDepth 100000
set_option linter.unusedVariables false
set_option linter.unusedSimpArgs false
theorem HOut.frz2 {lo lo':Nat} {σ':St} {v:AVal} {h:List Hd} (hh:HOut lo σ' v h) (hl:lo'≤lo):∃ hv,frzD lo' σ'.mem 2 v=some hv∧HI hv h := by
  rcases hh with ⟨rfl,rfl⟩ | ⟨o,cs,rfl,h2,h3,h4,h5,h6⟩
  · exact ⟨.nilsl,by simp [frzD],.inl ⟨rfl,rfl⟩⟩
  · obtain ⟨cs',k1,k2⟩ := h6.frz hl
    have hlen := h6.len
    refine ⟨.isl cs' h.length false,?_,.inr ⟨cs',false,rfl,k2⟩⟩
    rw [frzD_sl (Nat.le_trans hl h3) h5 (by rw [hlen]; omega),List.drop_zero,List.take_of_length_le (by rw [hlen]; omega),k1]
    rfl
theorem GS.frz3 {α:Type} {k:Nat} {R:Rw α k} {σ:St} {v:AVal} {l:List α} {b:Option Nat} {lo:Nat} (h:GS R σ v l b) (hb:∀ z,b=some z→lo≤z) {cs:List AVal} (hc:listM (frzD lo σ.mem 2) (rws R l)=some cs):∃ v',frzD lo σ.mem 3 v=some v'∧∀ ρ,Rd k ρ v' l.length cs := by
  have hcl:cs.length=l.length*k := by rw [(listM_get hc).1,rws_len]
  rcases h with ⟨rfl,rfl,_⟩ | ⟨o,t,hbo,rfl,h3,h4⟩
  · exact ⟨.nilsl,by simp [frzD],fun ρ=>⟨hcl,.inl ⟨rfl,rfl⟩⟩⟩
  · refine ⟨.isl cs l.length (t && decide (l.length=l.length)),?_,fun ρ=>⟨hcl,.inr (.inl ⟨_,rfl⟩)⟩⟩
    rw [frzD_sl (hb o hbo) h4 (by rw [rws_len]; omega),List.drop_zero,List.take_of_length_le (by rw [rws_len]; omega),hc]
    rfl
theorem ldc_frz (lo:Nat) (m:Mem):∀ t:List Ld,listM (frzD lo m 2) (rws rwD t)=some (ldc t)
  | []=>rfl
  | x :: t=>by
    have ih := ldc_frz lo m t
    rw [rws_cons]
    show listM (frzD lo m 2) (u64 x.f0 :: .bool x.f1 :: u64 x.f2 :: rws rwD t)=_
    have e1:∀ b:Bool,frzD lo m 2 (.bool b)=some (.bool b) := fun b=>by simp [frzD]
    have e2:∀ k (x:Int),frzD lo m 2 (.int k x)=some (.int k x) := fun k x=>by simp [frzD]
    rw [listM_cons,e2,listM_cons,e1,listM_cons,e2,ih]
    rfl
theorem lns_frz (lo:Nat) (m:Mem):∀ t:Tbl,listM (frzD lo m 2) (rws rwL t)=some (rws rwL t)
  | []=>rfl
  | x :: t=>by
    have ih := lns_frz lo m t
    rw [rws_cons]
    show listM (frzD lo m 2) (.str x.1 :: u64 (x.2.1:Int) :: u64 (x.2.2.1:Int) :: u64 (x.2.2.2.1:Int) :: u64 (x.2.2.2.2:Int) :: rws rwL t)=_
    have e1:∀ x:ByteArray,frzD lo m 2 (.str x)=some (.str x) := fun x=>by simp [frzD]
    have e2:∀ k (x:Int),frzD lo m 2 (.int k x)=some (.int k x) := fun k x=>by simp [frzD]
    rw [listM_cons,e1,listM_cons,e2,listM_cons,e2,listM_cons,e2,listM_cons,e2,ih]
    rfl
theorem sbs_frz {lo lo':Nat} {σ:St} (hl:lo'≤lo):∀ {s:List SbP},SbO lo σ s→∃ cs,listM (frzD lo' σ.mem 2) (rws rwS s)=some cs∧SbI cs (s.map (·.1))
  | [],_=>⟨[],rfl,trivial⟩
  | p :: s,h=>by
    obtain ⟨cs,h1,h2⟩ := sbs_frz hl (s := s) fun q hq=>h q (by simp [hq])
    obtain ⟨hv,h3,h4⟩ := (h p (by simp)).1.frz2 hl
    rw [rws_cons]
    refine ⟨.str p.1.name :: .int .u8 (p.1.kind:Int) :: u64 p.1.ml :: u64 p.1.me :: hv :: cs,?_,⟨rfl,rfl,rfl,rfl,h4⟩,h2⟩
    show listM (frzD lo' σ.mem 2) (.str p.1.name :: .int .u8 (p.1.kind:Int) :: u64 p.1.ml :: u64 p.1.me :: p.2.1 :: rws rwS s)=_
    have e1:∀ x:ByteArray,frzD lo' σ.mem 2 (.str x)=some (.str x) := fun x=>by simp [frzD]
    have e2:∀ k (x:Int),frzD lo' σ.mem 2 (.int k x)=some (.int k x) := fun k x=>by simp [frzD]
    rw [listM_cons,e1,listM_cons,e2,listM_cons,e2,listM_cons,e2,listM_cons,h3,h1]
    rfl
def tpZ:List AVal := [.int .u64 0,.int .u64 0,.nilsl,.nilsl,.nilsl]
def TpI (x:Tp) (ys:Tbl) (lv sv nv:AVal) (cs:List AVal):Prop := (∀ σ,Rd 3 σ lv x.t.length (ldc x.t))∧(∀ σ,Rd 5 σ sv x.s.length cs)∧SbI cs x.s∧(∀ σ,Rd 5 σ nv ys.length (rws rwL ys))∧ys.Perm x.T∧RisL ys
def DecRel (l:List UInt8) (gv:AVal) (code:Nat):Prop := (pTp l=.error code∧gv=.agg tpZ)∨(∃ x l',pTp l=.ok (x,l')∧l'≠[]∧gv=.agg tpZ∧code=5)∨∃ x lv sv nv cs ys,pTp l=.ok (x,[])∧gv=.agg [u64 (x.ep:Int),u64 (x.last:Int),lv,sv,nv]∧TpI x ys lv sv nv cs∧code=0
theorem pFlag_err {l:List UInt8} {e:Nat} (h:pFlag l=.error e):e≠0 := by
  unfold pFlag at h
  rcases pB_inve h with h | ⟨x,m,h1,h2⟩
  · exact pNum_err h
  · split at h2
    · cases h2; decide
    · cases h2
theorem pLine_err {l:List UInt8} {e:Nat} (h:pLine l=.error e):e≠0 := by
  unfold pLine at h
  split at h
  · rename_i h1; cases h; exact pText_err h1
  · split at h
    · rename_i h1; cases h; exact pNum_err h1
    · split at h
      · rename_i h1; cases h; exact pNum_err h1
      · split at h
        · rename_i h1; cases h; exact pNum_err h1
        · cases h
theorem pLines_err:∀ (n:Nat) (T:Tbl) (last:ByteArray) (l:List UInt8) (e:Nat),pLines n T last l=.error e→e≠0
  | 0,T,_,l,e,h=>by simp only [pLines] at h; cases h
  | n+1,T,last,l,e,h=>by
    simp only [pLines] at h
    split at h
    · rename_i h1; cases h; exact pLine_err h1
    · rename_i x l2 _
      by_cases hb:lnBad T last x=true
      · rw [if_pos hb] at h; cases h; decide
      · rw [if_neg hb] at h
        exact pLines_err n _ _ _ _ h
theorem pTab_err {l:List UInt8} {e:Nat} (h:pTab l=.error e):e≠0 := by
  unfold pTab at h
  split at h
  · rename_i h1; cases h; exact pNum_err h1
  · exact pLines_err _ _ _ _ _ h
theorem pSb_ne0:∀ l e,pSb l=.error e→e≠0 := ne0 (ne0 (fun l e=>pText_err) fun _=>pR_ne0 _) fun _=>ne0 (fun l e=>pNum_err) fun _=>ne0 pCu_ne0 fun _=>pR_ne0 _
theorem pLd_ne0:∀ l e,pLd l=.error e→e≠0 := ne0 (fun l e=>pNum_err) fun _=>ne0 (fun l e=>pFlag_err) fun _=>ne0 (fun l e=>pNum_err) fun _=>pR_ne0 _
theorem pTp_ne0:∀ l e,pTp l=.error e→e≠0 := ne0 (fun l e=>pNum_err) fun _=>ne0 (fun l e=>pNum_err) fun _=>ne0 (fun l e=>pNum_err) fun n=>ne0 (pMany_ne0 pLd_ne0 n) fun _=>ne0 (fun l e=>pNum_err) fun n=>ne0 (pMany_ne0 pSb_ne0 n) fun _=>ne0 (fun l e=>pTab_err) fun _ l e h=>by
  split at h
  · cases h
  · cases h; decide
theorem tpZ_frz (lo:Nat) (m:Mem) (e:Int):frzD lo m 5 (.tup [.agg tpZ,i64 e])=some (.tup [.agg tpZ,i64 e]) := by
  simp [frzD,tpZ]
set_option maxHeartbeats 4000000 in
theorem decode_c {σ:St} {bv:AVal} {l:List UInt8} {c:Option Nat} (hb:RdB σ bv l c) (hl:l.length≤1000000) (Q:AVal→St→Prop) (hQ:∀ gv code,DecRel l gv code→Q (.tup [gv,i64 (code:Nat)]) σ):ACall Tryz.prog 9 [bv] σ Q := by
  refine ACall.freezeD 5 ?_
  refine ACall.of_compF hmx (fun a w=>Tryz.call9 a w) Tryz.func9 cf9 (n := 1) (by decide) rfl ?_
  simp [ac9,rs9,lk_cons]
  obtain ⟨S,hS⟩:∃ S:St,S=⟨(σ.mem.set σ.next (.cells 5 tpZ)).set (σ.next+1) (.cells 5 tpZ),σ.next+1+1⟩ := ⟨_,rfl⟩
  have nS:S.next=σ.next+2 := by rw [hS]
  have kS:∀ a,a<σ.next→S.mem.get a=σ.mem.get a := fun a ha=>by rw [hS]; simp [show ¬ a=σ.next by omega,show ¬ a=σ.next+1 by omega]
  have m2:S.mem.get σ.next=some (.cells 5 tpZ) := by rw [hS]; simp
  have m4:S.mem.get (σ.next+1)=some (.cells 5 tpZ) := by rw [hS]; simp
  unfold tpZ at hS
  rw [← hS]
  refine read_h (X := Tp) (res := pTp l) (Post := fun x σ1 σ'=>TpM (σ.next+1) x σ1 σ') (hb.keep (by omega) fun a ha _=>kS a ha) (cell := σ.next+1) (by omega) _ (fun T r σa K k1 k2 k3 k4 k5=>?_) (fun e σb he hn hk=>?_) (fun x l' σa σb σc hx hpost hga hna hmem hnx hnab hkeep=>?_)
  · have htc := (k3.2 (σ.next+1) (by omega)).trans m4
    exact decc_c k1 hl htc (by have := k3.1; omega) (by omega) (fun ec=>by have := hb.lt ec; omega) (fun e σ' he hs=>k4 e σ' he hs) fun x l' σ' h1 h2 h3 h4=>k5 x l' σ' h1 h2 h3 h4.next h4.keep
  · have he0 := pTp_ne0 _ _ he
    have he0':¬ (e:Int)=0 := by omega
    have hm := (hk σ.next (by omega) (by omega)).trans m2
    unfold tpZ at hm
    simp [lk_cons,he0,he0',hm,storeL,fillL]
    refine ⟨fun a ha=>?_,_,tpZ_frz _ _ _,hQ _ e (.inl ⟨he,rfl⟩)⟩
    simp [show ¬ a=σ.next by omega]
    exact (hk a (by omega) (by omega)).trans (kS a ha)
  · obtain ⟨lv,sv,nv,bt,bs,bn,s,ys,z1,z2,z3,z4,z5,z6,z7,z8,z9⟩ := hpost
    have hm:σc.mem.get (σ.next+1)=some (.cells 5 [u64 (x.ep:Int),u64 (x.last:Int),lv,sv,nv]) := (hmem (σ.next+1) (by omega)).trans z1
    have hm2:σc.mem.get σ.next=some (.cells 5 tpZ) := (hmem σ.next (by omega)).trans ((hkeep σ.next (by omega) (by omega)).trans m2)
    have gk:∀ a,a<σ.next→σc.mem.get a=σ.mem.get a := fun a ha=>by
      rw [hmem a (by omega),hkeep a (by omega) (by omega),kS a ha]
    unfold tpZ at hm2
    obtain ⟨o1,o2⟩ := z2.one
    obtain ⟨o3,o4⟩ := z3.one
    obtain ⟨o5,o6⟩ := z6.one
    cases l' with
    | nil =>
      simp [lk_cons,hm,hm2,storeL,o1,o3,o5]
      obtain ⟨F,hF⟩:∃ F:St,F=⟨σc.mem.set σ.next (.cells 5 [u64 (x.ep:Int),u64 (x.last:Int),lv,sv,nv]),σc.next⟩ := ⟨_,rfl⟩
      have nF:F.next=σc.next := by rw [hF]
      have kF:∀ a,a≠σ.next→F.mem.get a=σc.mem.get a := fun a ha=>by rw [hF]; simp [ha]
      have eF:F.mem=σc.mem.set σ.next (.cells 5 [u64 (x.ep:Int),u64 (x.last:Int),lv,sv,nv]) := by rw [hF]
      rw [← hF,← eF]
      have n1 := hga.1
      have kk:∀ a,σa.next≤a→F.mem.get a=σb.mem.get a := fun a ha=>(kF a (by omega)).trans (hmem a (by omega))
      have gl:GS rwD F lv x.t bt := z2.keep (by omega) fun a ha hab=>kk a (z9 a (.inl hab))
      have gsb:GS rwS F sv s bs := z3.keep (by omega) fun a ha hab=>kk a (z9 a (.inr (.inl hab)))
      have gn:GS rwL F nv ys bn := z6.keep (by omega) fun a ha hab=>kk a (z9 a (.inr (.inr hab)))
      have go:SbO σa.next F s := z5.frame (by omega) fun a ha _ _=>kk a ha
      have up:∀ {z},σa.next≤z→σ.next≤z := fun h=>by omega
      obtain ⟨lv',f1,r1⟩ := gl.frz3 (lo := σ.next) (fun z hz=>up (z9 z (.inl hz))) (ldc_frz _ _ _)
      obtain ⟨cs,f2,r2⟩ := sbs_frz (lo' := σ.next) (show σ.next≤σa.next by omega) go
      obtain ⟨sv',f3,r3⟩ := gsb.frz3 (lo := σ.next) (fun z hz=>up (z9 z (.inr (.inl hz)))) f2
      obtain ⟨nv',f4,r4⟩ := gn.frz3 (lo := σ.next) (fun z hz=>up (z9 z (.inr (.inr hz)))) (lns_frz _ _ _)
      refine ⟨fun a ha=>(kF a (by omega)).trans (gk a ha),.tup [.agg [u64 (x.ep:Int),u64 (x.last:Int),lv',sv',nv'],i64 0],?_,hQ _ 0 (.inr (.inr ⟨x,lv',sv',nv',cs,ys,hx,rfl,⟨r1,fun ρ=>by rw [z4,List.length_map]; exact r3 ρ,by rw [z4]; exact r2,r4,z7,z8⟩,rfl⟩))⟩
      have e2:∀ k (x:Int),frzD σ.next F.mem 3 (.int k x)=some (.int k x) := fun k x=>by simp [frzD]
      have e4:frzD σ.next F.mem 4 (.int .i64 0)=some (.int .i64 0) := by simp [frzD]
      have ea:frzD σ.next F.mem 4 (.agg [u64 (x.ep:Int),u64 (x.last:Int),lv,sv,nv])=some (.agg [u64 (x.ep:Int),u64 (x.last:Int),lv',sv',nv']) := by
        show (listM (frzD σ.next F.mem 3) [u64 (x.ep:Int),u64 (x.last:Int),lv,sv,nv]).map AVal.agg=_
        rw [listM_cons,e2,listM_cons,e2,listM_cons,f1,listM_cons,f3,listM_cons,f4]
        rfl
      show (listM (frzD σ.next F.mem 4) [.agg [u64 (x.ep:Int),u64 (x.last:Int),lv,sv,nv],i64 0]).map AVal.tup=_
      rw [listM_cons,ea,listM_cons,e4]
      rfl
    | cons y l' =>
      simp [lk_cons,hm,hm2,storeL,fillL]
      refine ⟨fun a ha=>?_,_,tpZ_frz _ _ _,hQ _ 5 (.inr (.inl ⟨x,y :: l',hx,by simp,rfl,rfl⟩))⟩
      simp [show ¬ a=σ.next by omega]
      exact gk a ha
end Go.Proofs.YticefdfhcahlfaaGreatDoor.AM

namespace Go.Proofs.YticefdfhcahlfaaGreatDoor.AM
open Go.RowKit
set_option maxRecDepth 100000
set_option linter.unusedVariables false
set_option linter.unusedSimpArgs false
theorem be_inj:∀ l m:List UInt8,l.length=m.length→be l=be m→l=m
  | [],[],_,_=>rfl
  | x :: l,y :: m,h,e=>by
    simp only [List.length_cons,Nat.add_right_cancel_iff] at h
    rw [be_cons,be_cons,h] at e
    have h1 := be_lt l
    have h2 := be_lt m
    rw [h] at h1
    have hp:0<256 ^ m.length := Nat.pow_pos (by decide)
    have e1:x.toNat=y.toNat := by
      have := congrArg (· / 256 ^ m.length) e
      simp only [Nat.mul_comm _ (256 ^ m.length),Nat.mul_add_div hp,Nat.div_eq_of_lt h1,Nat.div_eq_of_lt h2,Nat.add_zero] at this
      exact this
    have e2:be l=be m := by rw [e1] at e; omega
    rw [be_inj l m h e2,UInt8.toNat_inj.1 e1]
  | [],_ :: _,h,_=>by simp at h
  | _ :: _,[],h,_=>by simp at h
theorem beN_be (l:List UInt8):beN l.length (be l)=l :=
  be_inj _ _ (beN_len _ _) (by rw [be_beN,Nat.mod_eq_of_lt (be_lt l)])
def One {α:Type} (p:Prs α) (B:α→List UInt8):Prop := ∀ l x r,p l=.ok (x,r)→l=B x++r
theorem pNum_one (k:Nat):One (pNum k) (beN k) := fun l x r h=>by
  unfold pNum at h
  split at h
  · cases h
  · rename_i hk
    cases h
    have hl:(l.take k).length=k := by rw [List.length_take]; omega
    have := beN_be (l.take k)
    rw [hl] at this
    rw [this,List.take_append_drop]
theorem pFlag_one:One pFlag fun b=>beN 1 (if b then 1 else 0) := fun l x r h=>by
  obtain ⟨n,m,h1,h2⟩ := pB_inv h
  by_cases hn:1<n
  · rw [if_pos hn] at h2; cases h2
  · rw [if_neg hn] at h2
    cases h2
    rw [pNum_one 1 _ _ _ h1]
    have:n=0∨n=1 := by omega
    rcases this with rfl | rfl <;> rfl
theorem pBytes_one:One pBytes byB := fun l x r h=>by
  unfold pBytes at h
  split at h
  · cases h
  · rename_i n r0 h1
    split at h
    · cases h
    · rename_i hn
      cases h
      have hl:(r0.take n).length=n := by rw [List.length_take]; omega
      rw [pNum_one 4 _ _ _ h1,byB,hl,List.append_assoc,List.take_append_drop]
theorem pTx_one:One pTx txB := fun l x r h=>by
  obtain ⟨b,m,h1,h2⟩ := pB_inv h
  cases h2
  unfold pText at h1
  split at h1
  · cases h1
  · rename_i b0 r0 h3
    split at h1
    · cases h1
      rw [pBytes_one _ _ _ h3]
      simp [txB,byB,ByteArray.size]
    · cases h1
theorem pMany_one {α:Type} {p:Prs α} {B:α→List UInt8} (hp:One p B):∀ n,One (pMany p n) fun xs=>(xs.map B).flatten
  | 0,l,x,r,h=>by cases h; simp
  | n+1,l,x,r,h=>by
    obtain ⟨y,m,h1,h2⟩ := pB_inv h
    obtain ⟨ys,m2,h3,h4⟩ := pB_inv h2
    cases h4
    rw [hp _ _ _ h1,pMany_one hp n _ _ _ h3]
    simp
theorem pMany_cnt {α:Type} {p:Prs α}:∀ n l x r,pMany p n l=.ok (x,r)→x.length=n
  | 0,l,x,r,h=>by cases h; rfl
  | n+1,l,x,r,h=>by
    obtain ⟨y,m,h1,h2⟩ := pB_inv h
    obtain ⟨ys,m2,h3,h4⟩ := pB_inv h2
    cases h4
    rw [List.length_cons,pMany_cnt n _ _ _ h3]
theorem pMany_all {α:Type} {p:Prs α} {P:α→Prop} (hp:∀ l x r,p l=.ok (x,r)→P x):∀ n l x r,pMany p n l=.ok (x,r)→∀ y∈x,P y
  | 0,l,x,r,h=>by cases h; simp
  | n+1,l,x,r,h=>by
    obtain ⟨y,m,h1,h2⟩ := pB_inv h
    obtain ⟨ys,m2,h3,h4⟩ := pB_inv h2
    cases h4
    intro z hz
    rcases List.mem_cons.1 hz with rfl | hz
    · exact hp _ _ _ h1
    · exact pMany_all hp n _ _ _ h3 z hz
theorem pNum8_in {l r:List UInt8} {n:Nat} (h:pNum 8 l=.ok (n,r)):In64 (n:Int) := by
  have := (pNum_len h).2
  exact ⟨by omega,by omega⟩
theorem pRg_one:One pRg rgB := fun l x r h=>by
  obtain ⟨a,m,h1,h⟩ := pB_inv h
  obtain ⟨b,m2,h2,h⟩ := pB_inv h
  cases h
  rw [pNum_one 8 _ _ _ h1,pNum_one 8 _ _ _ h2]
  simp [rgB]
theorem pRg_in (l:List UInt8) (x:S25) (r:List UInt8) (h:pRg l=.ok (x,r)):In64 x.f0∧In64 x.f1 := by
  obtain ⟨a,m,h1,h⟩ := pB_inv h
  obtain ⟨b,m2,h2,h⟩ := pB_inv h
  cases h
  exact ⟨pNum8_in h1,pNum8_in h2⟩
theorem pHd_one:One pHd hdB := fun l x r h=>by
  obtain ⟨a,m,h1,h⟩ := pB_inv h
  obtain ⟨n,m2,h2,h⟩ := pB_inv h
  obtain ⟨rs,m3,h3,h⟩ := pB_inv h
  cases h
  have hc := pMany_cnt _ _ _ _ h3
  have hn := (pNum_len h2).2
  rw [pNum_one 8 _ _ _ h1,pNum_one 2 _ _ _ h2,pMany_one pRg_one _ _ _ _ h3]
  simp only [hdB,rgsB,hc]
  rw [Nat.mod_eq_of_lt (by omega)]
  simp
theorem pHd_in (l:List UInt8) (x:Hd) (r:List UInt8) (h:pHd l=.ok (x,r)):In64 x.f0∧∀ z∈x.f1,In64 z.f0∧In64 z.f1 := by
  obtain ⟨a,m,h1,h⟩ := pB_inv h
  obtain ⟨n,m2,h2,h⟩ := pB_inv h
  obtain ⟨rs,m3,h3,h⟩ := pB_inv h
  cases h
  exact ⟨pNum8_in h1,pMany_all pRg_in _ _ _ _ h3⟩
theorem pCu_one:One pCu fun c=>cuB c.ml c.me c.h := fun l x r h=>by
  obtain ⟨c,m0,h0,h⟩ := pB_inv h
  split at h
  · cases h
    obtain ⟨a,m,h1,h⟩ := pB_inv h0
    obtain ⟨b,m1,h2,h⟩ := pB_inv h
    obtain ⟨n,m2,h3,h⟩ := pB_inv h
    obtain ⟨hs,m3,h4,h⟩ := pB_inv h
    cases h
    have hc := pMany_cnt _ _ _ _ h4
    have hn := (pNum_len h3).2
    rw [pNum_one 8 _ _ _ h1,pNum_one 8 _ _ _ h2,pNum_one 2 _ _ _ h3,pMany_one pHd_one _ _ _ _ h4]
    simp only [cuB,hdsB,hc]
    rw [Nat.mod_eq_of_lt (by omega)]
    simp
  · cases h
theorem pCu_in (l:List UInt8) (x:Cu) (r:List UInt8) (h:pCu l=.ok (x,r)):(In64 x.ml∧In64 x.me)∧∀ y∈x.h,In64 y.f0∧∀ z∈y.f1,In64 z.f0∧In64 z.f1 := by
  obtain ⟨c,m0,h0,h⟩ := pB_inv h
  split at h
  · cases h
    obtain ⟨a,m,h1,h⟩ := pB_inv h0
    obtain ⟨b,m1,h2,h⟩ := pB_inv h
    obtain ⟨n,m2,h3,h⟩ := pB_inv h
    obtain ⟨hs,m3,h4,h⟩ := pB_inv h
    cases h
    exact ⟨⟨pNum8_in h1,pNum8_in h2⟩,pMany_all pHd_in _ _ _ _ h4⟩
  · cases h
theorem pSb_one:One pSb sbB := fun l x r h=>by
  obtain ⟨nm,m,h1,h⟩ := pB_inv h
  obtain ⟨k,m2,h2,h⟩ := pB_inv h
  obtain ⟨c,m3,h3,h⟩ := pB_inv h
  cases h
  rw [pTx_one _ _ _ h1,pNum_one 1 _ _ _ h2,pCu_one _ _ _ h3]
  simp [sbB]
theorem pSb_in (l:List UInt8) (x:SbV) (r:List UInt8) (h:pSb l=.ok (x,r)):(In64 x.ml∧In64 x.me)∧x.kind<256∧∀ y∈x.h,In64 y.f0∧∀ z∈y.f1,In64 z.f0∧In64 z.f1 := by
  obtain ⟨nm,m,h1,h⟩ := pB_inv h
  obtain ⟨k,m2,h2,h⟩ := pB_inv h
  obtain ⟨c,m3,h3,h⟩ := pB_inv h
  cases h
  have := (pNum_len h2).2
  exact ⟨(pCu_in _ _ _ h3).1,by simpa using this,(pCu_in _ _ _ h3).2⟩
theorem pLd_one:One pLd ldB := fun l x r h=>by
  obtain ⟨a,m,h1,h⟩ := pB_inv h
  obtain ⟨b,m2,h2,h⟩ := pB_inv h
  obtain ⟨c,m3,h3,h⟩ := pB_inv h
  cases h
  rw [pNum_one 8 _ _ _ h1,pFlag_one _ _ _ h2,pNum_one 8 _ _ _ h3]
  simp [ldB]
theorem pLd_in (l:List UInt8) (x:Ld) (r:List UInt8) (h:pLd l=.ok (x,r)):In64 x.f0∧In64 x.f2 := by
  obtain ⟨a,m,h1,h⟩ := pB_inv h
  obtain ⟨b,m2,h2,h⟩ := pB_inv h
  obtain ⟨c,m3,h3,h⟩ := pB_inv h
  cases h
  exact ⟨pNum8_in h1,pNum8_in h3⟩
def LnR (x:ByteArray×Ln):Prop := (1≤x.1.size∧x.1.size≤64)∧x.2.1=x.2.2.1∧x.2.2.1≠0∧LnOk x
theorem pLine_one (l:List UInt8) (x:ByteArray×Ln) (r:List UInt8) (h:pLine l=.ok (x,r)):l=lnB x++r∧x.2.1=x.2.2.1∧x.2.1<18446744073709551616∧x.2.2.2.1<18446744073709551616∧x.2.2.2.2<18446744073709551616 := by
  unfold pLine at h
  split at h
  · cases h
  · rename_i n l1 h1
    split at h
    · cases h
    · rename_i d l2 h2
      split at h
      · cases h
      · rename_i g l3 h3
        split at h
        · cases h
        · rename_i e l4 h4
          cases h
          have hn:pTx l=.ok (⟨n.toArray⟩,l1) := by rw [pTx,pB_ok h1]; rfl
          rw [pTx_one _ _ _ hn,pNum_one 8 _ _ _ h2,pNum_one 8 _ _ _ h3,pNum_one 8 _ _ _ h4]
          exact ⟨by simp [lnB,txB],rfl,(pNum_len h2).2,(pNum_len h3).2,(pNum_len h4).2⟩
theorem pLines_one:∀ (n:Nat) (T:Tbl) (last:ByteArray) (l:List UInt8) (S:Tbl) (r:List UInt8),pLines n T last l=.ok (S,r)→(∀ p∈T,p.1=last∨lessB p.1 last=true)→T.length≤16 →
    ∃ xs:Tbl,S=T++xs∧xs.length=n∧l=lnsB xs++r∧(∀ x∈xs,LnR x)∧(xs.Pairwise fun a b=>lessB a.1 b.1=true)∧(∀ x∈xs,lessB last x.1=true)∧S.length≤16
  | 0,T,last,l,S,r,h,hT,h16=>by
    simp only [pLines] at h
    cases h
    exact ⟨[],by simp,rfl,by simp [lnsB],by simp,List.Pairwise.nil,by simp,h16⟩
  | n+1,T,last,l,S,r,h,hT,h16=>by
    simp only [pLines] at h
    split at h
    · cases h
    · rename_i x l2 h1
      by_cases hb:lnBad T last x=true
      · rw [if_pos hb] at h; cases h
      · rw [if_neg hb] at h
        have hb':(lessB last x.1=true∧x.1.size≤64)∧x.2.2.1≠0∧T.length<16 := by
          simp [lnBad] at hb
          exact ⟨⟨hb.1.1.1,by omega⟩,hb.1.2,by omega⟩
        obtain ⟨⟨c1,c2⟩,c3,c4⟩ := hb'
        have lt:∀ p∈T,lessB p.1 x.1=true := fun p hp=>by
          rcases hT p hp with e | e
          · rw [e]; exact c1
          · exact lessB_trans e c1
        have hnew:lkB T x.1=none := by
          rw [lkB_none]
          intro hm
          obtain ⟨p,hp,he⟩ := List.mem_map.1 hm
          have := lt p hp
          rw [he,lessB_irrefl] at this; cases this
        rw [setB_new hnew] at h
        obtain ⟨xs,d1,d2,d3,d4,d5,d6,d7⟩ := pLines_one n _ _ _ _ _ h (fun p hp=>by
          rcases List.mem_append.1 hp with hp | hp
          · exact .inr (lt p hp)
          · rw [List.mem_singleton.1 hp]; exact .inl rfl) (by simp; omega)
        obtain ⟨e1,e2,e3,e4,e5⟩ := pLine_one _ _ _ h1
        have hsz:1≤x.1.size := by
          rcases Nat.eq_zero_or_pos x.1.size with hz | hz
          · have hx0:x.1=⟨#[]⟩ := (size0 _).2 hz
            rw [hx0] at c1
            simp [lessB] at c1
          · exact hz
        refine ⟨x :: xs,by rw [d1]; simp,by simp [d2],by rw [e1,d3]; simp [lnsB],fun y hy=>?_,List.pairwise_cons.2 ⟨fun y hy=>d6 y hy,d5⟩,fun y hy=>?_,d7⟩
        · rcases List.mem_cons.1 hy with rfl | hy
          · exact ⟨⟨hsz,c2⟩,e2,c3,⟨by omega,e3,by rw [← e2]; exact e3,e4,e5⟩⟩
          · exact d4 y hy
        · rcases List.mem_cons.1 hy with rfl | hy
          · exact c1
          · exact lessB_trans c1 (d6 y hy)
theorem lnOk_of {T:Tbl} (h:∀ x∈T,LnR x) (hp:T.Pairwise fun a b=>lessB a.1 b.1=true) (hl:T.length≤16):lnOkT T := fun i hi x hx=>by
  obtain ⟨h1,h2,h3,h4⟩ := h x (List.mem_of_getElem? hx)
  refine ⟨h1,h2,h3,fun y h0 hy=>?_,by omega⟩
  obtain ⟨hi1,e1⟩ := List.getElem?_eq_some_iff.1 hx
  obtain ⟨hi2,e2⟩ := List.getElem?_eq_some_iff.1 hy
  have := List.pairwise_iff_getElem.1 hp (i - 1) i hi2 hi1 (by omega)
  rw [e1,e2] at this
  exact this
theorem pTab_one {l r:List UInt8} {T:Tbl} (h:pTab l=.ok (T,r)):l=encT T++r∧lnOkT T∧(∀ x∈T,LnOk x)∧T.length≤16 := by
  unfold pTab at h
  split at h
  · cases h
  · rename_i n l1 h1
    obtain ⟨xs,d1,d2,d3,d4,d5,d6,d7⟩ := pLines_one _ _ _ _ _ _ h (by simp) (by simp)
    simp only [List.nil_append] at d1
    subst d1
    have hok := lnOk_of d4 d5 d7
    refine ⟨?_,hok,fun x hx=>(d4 x hx).2.2.2,d7⟩
    rw [encT,dn_ok hok,d2,pNum_one 1 _ _ _ h1,d3,List.append_assoc]
theorem pTp_one {l r:List UInt8} {x:Tp} (h:pTp l=.ok (x,r)):l=tpB x.ep x.last x.t x.s x.T++r∧lnOkT x.T∧tpOk (x.last:Int) x.t x.s∧(x.ep<18446744073709551616∧x.last<18446744073709551616)∧(∀ y∈x.t,In64 y.f0∧In64 y.f2)∧(∀ y∈x.s,(In64 y.ml∧In64 y.me)∧y.kind<256∧∀ w∈y.h,In64 w.f0∧∀ z∈w.f1,In64 z.f0∧In64 z.f1)∧(∀ y∈x.T,LnOk y)∧x.T.length≤16 := by
  obtain ⟨ep,m1,h1,h⟩ := pB_inv h
  obtain ⟨last,m2,h2,h⟩ := pB_inv h
  obtain ⟨n,m3,h3,h⟩ := pB_inv h
  obtain ⟨t,m4,h4,h⟩ := pB_inv h
  obtain ⟨k,m5,h5,h⟩ := pB_inv h
  obtain ⟨s,m6,h6,h⟩ := pB_inv h
  obtain ⟨T,m7,h7,h⟩ := pB_inv h
  by_cases hok:tpOk (last:Int) t s
  · rw [if_pos hok] at h
    cases h
    obtain ⟨a1,a2,a3,a4⟩ := pTab_one h7
    have c4 := pMany_cnt _ _ _ _ h4
    have c6 := pMany_cnt _ _ _ _ h6
    have b3 := (pNum_len h3).2
    have b5 := (pNum_len h5).2
    refine ⟨?_,a2,hok,⟨(pNum_len h1).2,(pNum_len h2).2⟩,pMany_all pLd_in _ _ _ _ h4,pMany_all pSb_in _ _ _ _ h6,a3,a4⟩
    rw [pNum_one 8 _ _ _ h1,pNum_one 8 _ _ _ h2,pNum_one 1 _ _ _ h3,pMany_one pLd_one _ _ _ _ h4,pNum_one 1 _ _ _ h5,pMany_one pSb_one _ _ _ _ h6,a1]
    simp only [tpB,ldsB,sbsB,c4,c6]
    rw [Nat.mod_eq_of_lt (by omega),Nat.mod_eq_of_lt (by omega)]
    simp
  · rw [if_neg hok] at h; cases h
end Go.Proofs.YticefdfhcahlfaaGreatDoor.AM


/- The document's reader takes a cursor. -/
namespace Go.Proofs.YticefdfhcahlfaaGreatDoor.AM
open Go.RowKit
set_option maxRecDepth 100000
set_option linter.unusedVariables false
set_option linter.unusedSimpArgs false

def pChk (a b:Int) (h:List Hd):Prs Cu := fun l=>if cuOkB a b h then .ok (⟨a,b,h⟩,l) else .error 23
theorem pCu_flat:pCu=pB (pNum 8) fun a=>pB (pNum 8) fun b=>pB (pNum 2) fun n=>pB (pMany pHd n) fun h=>pChk (a:Int) (b:Int) h := by
  unfold pCu pCu0
  simp only [pB_assoc,pB_pR]
  rfl
theorem pCu_flat2 {β:Type} (F:Cu→Prs β):pB pCu F=pB (pNum 8) fun a=>pB (pNum 8) fun b=>pB (pNum 2) fun n=>pB (pMany pHd n) fun h=>pB (pChk (a:Int) (b:Int) h) F := by
  rw [pCu_flat]
  simp only [pB_assoc]
theorem Tr.any {β:Type} {res:Except Nat (β×List UInt8)} {e:Nat} {G G':Prs β} (h:Tr res (.error e) G):Tr res (.error e) G' := by
  rcases h with ⟨m,h,_⟩ | ⟨e',h,h'⟩
  · cases h
  · exact .inr ⟨e',h,h'⟩
theorem Tr.eq {β:Type} {res:Except Nat (β×List UInt8)} {st:RSt} {G G':Prs β} (h:Tr res st G) (e:G=G'):Tr res st G' := e ▸ h
theorem pHd_step {β:Type} (j:Nat) (F:List Hd→Prs β):pB (pMany pHd (j+1)) F=pB (pNum 8) fun L=>pB (pNum 2) fun n=>pB (pMany pRg n) fun rs=>pB (pMany pHd j) fun hs=>F ((⟨(L:Int),rs⟩:Hd) :: hs) := by
  rw [pMany_step]
  show pB (pB (pNum 8) _) _=_
  rw [pB_assoc]; congr 1; funext L
  rw [pB_assoc]; congr 1; funext n
  rw [pB_assoc]; congr 1
theorem pRg_step {β:Type} (j:Nat) (F:List S25→Prs β):pB (pMany pRg (j+1)) F=pB (pNum 8) fun a=>pB (pNum 8) fun b=>pB (pMany pRg j) fun rs=>F ((⟨(a:Int),(b:Int)⟩:S25) :: rs) := by
  rw [pMany_step]
  show pB (pB (pNum 8) _) _=_
  rw [pB_assoc]; congr 1; funext a
  rw [pB_assoc]; congr 1
def DtJ {β:Type} (F:Cu→Prs β) (res:Except Nat (β×List UInt8)) (r A B:Nat) (c:Option Nat) (ml me:Int) (N:Nat) (σ0:St) (mm:Nat) (rg:Regs) (σ':St):Prop := ∃ (i:Nat) (st:RSt) (acc:List Hd) (ov:AVal),mm=N - i∧i≤N∧acc.length=i∧SR σ' r st c∧Tr res st (pB (pMany pHd (N - i)) fun hs=>pB (pChk ml me (acc++hs)) F)∧(∀ x∈acc,x.f1.length<65536) ∧
  (B+1≤σ'.next∧∀ a,a<A→a≠r→σ'.mem.get a=σ0.mem.get a)∧σ'.mem.get A=some (.cells 3 [u64 0,u64 0,.nilsl])∧σ'.mem.get B=some (.cells 3 [u64 ml,u64 me,ov])∧HOut (B+1) σ' ov acc∧rg=[(0,.ptr r 0),(2,.ptr A 0),(3,.ptr B 0),(4,i64 N),(5,i64 i)]
def DlJ {β:Type} (res:Except Nat (β×List UInt8)) (F:List S25→Prs β) (r A B H:Nat) (c:Option Nat) (L:Int) (N i M:Nat) (S:St) (mm:Nat) (rg:Regs) (σ':St):Prop := ∃ (j:Nat) (st:RSt) (rs:List S25) (rv:AVal),mm=M - j∧j≤M∧rs.length=j∧SR σ' r st c∧Tr res st (pB (pMany pRg (M - j)) fun hs=>F (rs++hs)) ∧
  (S.next≤σ'.next∧∀ a,a<S.next→a≠r→a≠H→σ'.mem.get a=S.mem.get a)∧σ'.mem.get H=some (.cells 2 [u64 L,rv])∧Out S.next σ' rv rs∧rg=[(0,.ptr r 0),(2,.ptr A 0),(3,.ptr B 0),(4,i64 N),(5,i64 i),(6,.ptr H 0),(7,i64 M),(8,i64 j)]
set_option maxHeartbeats 4000000 in
theorem dtake_r {β:Type} {σ:St} {r:Nat} {st0:RSt} {c:Option Nat} {res:Except Nat (β×List UInt8)} {F:Cu→Prs β} (h:SR σ r st0 c) (ht:Tr res st0 (pB pCu F)) (Q:AVal→St→Prop)
    (hQ:∀ v st' σ' x,SR σ' r st' c→σ.next≤σ'.next→(∀ a,a<σ.next→a≠r→σ'.mem.get a=σ.mem.get a)→HOut σ.next σ' v x.h→HFew x.h→Tr res st' (F x)→Q (cv x.ml x.me v) σ'):ACall Tryz.prog 37 [.ptr r 0] σ Q := by
  refine ACall.of_compF hmx (fun a w=>Tryz.call37 a w) Tryz.func37 cf37 (n := 1) (by decide) rfl ?_
  have hrl:r<σ.next := h.1
  have hrc:c≠some r := h.2.1
  have hcl:∀ x,c=some x→x<σ.next := h.2.2.1
  simp [ac37,rs37,lk_cons,fillL,storeL]
  obtain ⟨S,hS⟩:∃ S:St,S=⟨((σ.mem.set σ.next (.cells 3 [.int .u64 0,.int .u64 0,.nilsl])).set (σ.next+1) (.cells 3 [.int .u64 0,.int .u64 0,.nilsl])).set (σ.next+1) (.cells 3 [.int .u64 0,.int .u64 0,.nilsl]),σ.next+1+1⟩ := ⟨_,rfl⟩
  have nS:S.next=σ.next+2 := by rw [hS]
  have kS:∀ a,a<σ.next→S.mem.get a=σ.mem.get a := fun a ha=>by rw [hS]; simp [show ¬ a=σ.next by omega,show ¬ a=σ.next+1 by omega]
  have mA:S.mem.get σ.next=some (.cells 3 [u64 0,u64 0,.nilsl]) := by rw [hS]; simp
  have mB:S.mem.get (σ.next+1)=some (.cells 3 [u64 0,u64 0,.nilsl]) := by rw [hS]; simp
  obtain ⟨B,hB⟩:∃ B,σ.next+1=B := ⟨_,rfl⟩
  have hSR:SR S r st0 c := h.keep (by omega) fun a ha _=>kS a ha
  have R0:RN S r B 3 c res S st0 (pB pCu F) [u64 0,u64 0,.nilsl] := ⟨hSR,ht,hB ▸ mB,rfl,fun _ _ _=>rfl,by omega,fun e=>by have := hcl _ e; omega⟩
  rw [pCu_flat2] at R0
  rw [← hS]
  simp only [hB]
  refine rn_num R0 (k := 8) (by decide) _ fun ml s1 σ1 l1 m1 R1=>?_
  simp [lk_cons,m1,storeL]
  refine rn_num (R1 _) (k := 8) (by decide) _ fun me s2 σ2 l2 m2 R2=>?_
  simp [lk_cons,m2,storeL]
  refine rn_num0 (R2 _) (k := 2) (by decide) _ fun N s3 σ3 l3 R3=>?_
  have w3:IntKind.i64.wrap (N:Int)=N := by rw [IntWalk.i64_in] <;> omega
  simp [lk_cons,w3]
  have n3:σ3.next=σ.next+2 := R3.next.trans nS
  refine wp_loop (DtJ F res r σ.next B c (ml:Int) (me:Int) N σ) N ?_ ?_
  · exact ⟨0,s3,[],.nilsl,rfl,Nat.zero_le _,rfl,R3.sr,R3.tr,by simp,⟨by omega,fun a ha hr=>(R3.keep a hr (by omega)).trans (kS a ha)⟩,(R3.keep σ.next (by omega) (by omega)).trans mA,R3.cell,.inl ⟨rfl,rfl⟩,by simp [lk_cons]⟩
  clear R0 R1 R2 R3
  rintro mm rg σ4 ⟨i,st,acc,ov,rfl,hi,hacc,h4,t4,hxs,⟨n4,k4⟩,mA4,mB4,ho4,rfl⟩
  obtain ⟨rv,e,hm,he⟩ := h4.code
  by_cases hgo:i<N∧e=0
  · obtain ⟨hlt,rfl⟩ := hgo
    have hlt':(i:Int)<N := by omega
    have w1:IntKind.i64.wrap ((i:Int)+1)=((i+1:Nat):Int) := by rw [IntWalk.i64_in] <;> omega
    obtain ⟨j0,hj0⟩:∃ j,N - i=j+1 := ⟨N - i - 1,by omega⟩
    rw [hj0,pHd_step] at t4
    simp [lk_cons,hlt,hlt',hm]
    refine snum_c h4 (k := 8) (by decide) _ fun σ5 h5 n5 k5=>?_
    have t5 := t4.num
    have hL := sNum_lt 8 st
    revert h5 t5 hL
    generalize (sNum 8 st).1=L
    generalize (sNum 8 st).2=st5
    intro h5 t5 hL
    simp [lk_cons,fillL,storeL]
    obtain ⟨S5,hS5⟩:∃ S5:St,S5=⟨(σ5.mem.set σ5.next (.cells 2 [.int .u64 0,.nilsl])).set σ5.next (.cells 2 [.int .u64 (L:Int),.nilsl]),σ5.next+1⟩ := ⟨_,rfl⟩
    have nS5:S5.next=σ5.next+1 := by rw [hS5]
    have kS5:∀ a,a<σ5.next→S5.mem.get a=σ5.mem.get a := fun a ha=>by rw [hS5]; simp [show ¬ a=σ5.next by omega]
    have mS5:S5.mem.get σ5.next=some (.cells 2 [u64 (L:Int),.nilsl]) := by rw [hS5]; simp
    obtain ⟨H,hH⟩:∃ H,σ5.next=H := ⟨_,rfl⟩
    rw [← hS5]
    simp only [hH]
    refine snum_c (h5.keep (by omega) fun a ha _=>kS5 a ha) (k := 2) (by decide) _ fun σ6 h6 n6 k6=>?_
    have t6 := t5.num
    have hM := sNum_lt 2 st5
    revert h6 t6 hM
    generalize (sNum 2 st5).1=M
    generalize (sNum 2 st5).2=st6
    intro h6 t6 hM
    have w6:IntKind.i64.wrap (M:Int)=M := by rw [IntWalk.i64_in] <;> omega
    have k46:∀ a,a<σ4.next→a≠r→σ6.mem.get a=σ4.mem.get a := fun a ha hr=>(k6 a hr).trans ((kS5 a (by omega)).trans (k5 a hr))
    have m6:σ6.mem.get H=some (.cells 2 [u64 (L:Int),.nilsl]) := (k6 H (by omega)).trans (hH ▸ mS5)
    simp [lk_cons,w6]
    refine wp_loop (DlJ res (fun rs=>pB (pMany pHd j0) fun hs=>pB (pChk (ml:Int) (me:Int) (acc++(⟨(L:Int),rs⟩:Hd) :: hs)) F) r σ.next B H c (L:Int) N i M σ6) M ?_ ?_
    · exact ⟨0,st6,[],.nilsl,rfl,Nat.zero_le _,rfl,h6,t6,⟨Nat.le_refl _,fun _ _ _ _=>rfl⟩,m6,.inl ⟨rfl,rfl⟩,by simp [lk_cons]⟩
    rintro mm rg σ7 ⟨j,st7,rs,rv7,rfl,hj,hrs,h7,t7,⟨n7,k7⟩,mH7,ho7,rfl⟩
    obtain ⟨rvv,e7,hm7,he7⟩ := h7.code
    by_cases hgo7:j<M∧e7=0
    · obtain ⟨hjl,rfl⟩ := hgo7
      have hjl':(j:Int)<M := by omega
      have w2:IntKind.i64.wrap ((j:Int)+1)=((j+1:Nat):Int) := by rw [IntWalk.i64_in] <;> omega
      obtain ⟨j1,hj1⟩:∃ k,M - j=k+1 := ⟨M - j - 1,by omega⟩
      rw [hj1,pRg_step] at t7
      simp [lk_cons,hjl,hjl',hm7,fillL,storeL]
      obtain ⟨X,hX⟩:∃ X,σ7.next=X := ⟨_,rfl⟩
      obtain ⟨S7,hS7⟩:∃ S7:St,S7=⟨(σ7.mem.set σ7.next (.cells 2 [.int .u64 0,.int .u64 0])).set σ7.next (.cells 2 [.int .u64 0,.int .u64 0]),σ7.next+1⟩ := ⟨_,rfl⟩
      have nS7:S7.next=σ7.next+1 := by rw [hS7]
      have kS7:∀ a,a<σ7.next→S7.mem.get a=σ7.mem.get a := fun a ha=>by rw [hS7]; simp [show ¬ a=σ7.next by omega]
      have mS7:S7.mem.get σ7.next=some (.cells 2 [u64 0,u64 0]) := by rw [hS7]; simp
      rw [← hS7]
      simp only [hX]
      have R7:RN S7 r X 2 c res S7 st7 _ [u64 0,u64 0] := ⟨h7.keep (by omega) fun a ha _=>kS7 a ha,t7,hX ▸ mS7,rfl,fun _ _ _=>rfl,by omega,fun e=>by have := hcl _ e; omega⟩
      refine rn_num R7 (k := 8) (by decide) _ fun za s8 σ8 l8 m8 R8=>?_
      simp [lk_cons,m8,storeL]
      refine rn_num (R8 _) (k := 8) (by decide) _ fun zb s9 σ9 l9 m9 R9=>?_
      obtain ⟨S9,hS9⟩:∃ S9:St,S9=⟨σ9.mem.set X (.cells 2 [u64 (za:Int),u64 (zb:Int)]),σ9.next⟩ := ⟨_,rfl⟩
      have R9 := R9 [u64 (za:Int),u64 (zb:Int)]
      rw [← hS9] at R9
      have n9:S9.next=σ7.next+1 := R9.next.trans nS7
      have n9':σ9.next=σ7.next+1 := by rw [hS9] at n9; exact n9
      have k9:∀ a,a<σ7.next→a≠r→S9.mem.get a=σ7.mem.get a := fun a ha hr=>(R9.keep a hr (by omega)).trans (kS7 a ha)
      have mH9:S9.mem.get H=some (.cells 2 [u64 (L:Int),rv7]) := (k9 H (by omega) (by omega)).trans mH7
      have ho9:Out σ6.next S9 rv7 rs := ho7.frame (by omega) fun a h1 h2=>k9 a h2 (by omega)
      have mX9 := R9.cell
      obtain ⟨SA,hSA⟩:∃ SA:St,SA=⟨S9.mem.set S9.next (.cells 2 [u64 (za:Int),u64 (zb:Int)]),S9.next+1⟩ := ⟨_,rfl⟩
      have nSA:SA.next=S9.next+1 := by rw [hSA]
      have kSA:∀ a,a<S9.next→SA.mem.get a=S9.mem.get a := fun a ha=>by rw [hSA]; simp [show ¬ a=S9.next by omega]
      obtain ⟨w,σb,e1,e2,e3,e4⟩ := out_app (ho9.frame (σ' := SA) (by omega) fun a _ ha=>kSA a ha) (by omega) (b := S9.next) (x := (za:Int)) (y := (zb:Int)) (by rw [hSA]; simp) (by omega)
      rw [hSA,hS9] at e1
      simp only at e1
      have mb:σb.mem.get H=some (.cells 2 [u64 (L:Int),rv7]) := (e4 H (by omega)).trans ((kSA H (by omega)).trans mH9)
      have ow := e2.one
      have eHX:¬ H=X := by omega
      have mH9':σ9.mem.get H=some (.cells 2 [u64 (L:Int),rv7]) := by rw [hS9] at mH9; simpa [eHX] using mH9
      simp [lk_cons,m9,eHX,mH9',fillL,repL,storeL,↓e1,mb,ow,w2]
      have kB:∀ a,a<σ6.next→a≠H→a≠r→(σb.mem.set H (.cells 2 [u64 (L:Int),w])).get a=σ7.mem.get a := fun a ha hne hr=>by
        simp [hne]
        exact (e4 a ha).trans ((kSA a (by omega)).trans (k9 a (by omega) hr))
      refine ⟨M - (j+1),by omega,j+1,s9,rs++[⟨(za:Int),(zb:Int)⟩],w,rfl,by omega,by simp [hrs],?_,?_,⟨by show σ6.next≤σb.next; omega,fun a ha h1 h2=>?_⟩,by simp,?_,rfl⟩
      · refine R9.sr.keep (by show S9.next≤σb.next; omega) fun a ha hac=>?_
        have hlt6:a<σ6.next := by
          rcases hac with rfl | hac
          · omega
          · have := hcl a hac; omega
        have hne:a≠H := by
          rcases hac with rfl | hac
          · omega
          · have := hcl a hac; omega
        simp [hne]
        exact (e4 a hlt6).trans (kSA a (by omega))
      · refine R9.tr.eq ?_
        rw [show M - (j+1)=j1 by omega]
        simp
      · rw [kB a ha h2 h1]
        exact k7 a ha h1 h2
      · refine e2.frame (Nat.le_refl _) fun a ha hb=>?_
        simp [show ¬ a=H by omega]
    · have key:Tr res st7 (pB (pMany pHd j0) fun hs=>pB (pChk (ml:Int) (me:Int) (acc++(⟨(L:Int),rs⟩:Hd) :: hs)) F) := by
        rcases he7 with ⟨e0,_⟩ | ⟨e0,rfl⟩
        · have:M - j=0 := by omega
          rw [this] at t7
          refine t7.eq ?_
          simp [pMany,pB_pR]
        · exact t7.any
      have mB7:σ7.mem.get B=some (.cells 3 [u64 (ml:Int),u64 (me:Int),ov]) := (k7 B (by omega) (by omega) (by omega)).trans ((k46 B (by omega) (by omega)).trans mB4)
      have k47:∀ a,a<σ4.next→a≠r→σ7.mem.get a=σ4.mem.get a := fun a ha hr=>(k7 a (by omega) hr (by omega)).trans (k46 a ha hr)
      have orv := ho7.one
      obtain ⟨SA,hSA⟩:∃ SA:St,SA=⟨σ7.mem.set σ7.next (.cells 2 [u64 (L:Int),rv7]),σ7.next+1⟩ := ⟨_,rfl⟩
      have nSA:SA.next=σ7.next+1 := by rw [hSA]
      have kSA:∀ a,a<σ7.next→SA.mem.get a=σ7.mem.get a := fun a ha=>by rw [hSA]; simp [show ¬ a=σ7.next by omega]
      obtain ⟨w,σb,e1,e2,e3,e4⟩ := hout_app ho4 (ρ := SA) (by omega) (fun a ha hb=>(kSA a (by omega)).trans (k47 a hb (by omega))) (by omega) (b := σ7.next) (L := (L:Int)) (rv := rv7) (r := rs) (by rw [hSA]; simp) (ho7.rgn (by omega) (by omega) fun a _ ha=>kSA a ha) (by omega)
      rw [hSA] at e1
      have mb:σb.mem.get B=some (.cells 3 [u64 (ml:Int),u64 (me:Int),ov]) := (e4 B (by omega) (.inl (by omega))).trans ((kSA B (by omega)).trans mB7)
      have ow := e2.one
      have eH:¬ H=σ7.next := by omega
      have eB:¬ B=σ7.next := by omega
      have kB:∀ a,a<B→(σb.mem.set B (.cells 3 [u64 (ml:Int),u64 (me:Int),w])).get a=σ7.mem.get a := fun a ha=>by
        simp [show ¬ a=B by omega]
        exact (e4 a (by omega) (.inl (by omega))).trans (kSA a (by omega))
      have fin:∃ mm,mm<N - i∧DtJ F res r σ.next B c (ml:Int) (me:Int) N σ mm [(0,.ptr r 0),(2,.ptr σ.next 0),(3,.ptr B 0),(4,i64 N),(5,i64 ((i+1:Nat):Int))] ⟨σb.mem.set B (.cells 3 [u64 (ml:Int),u64 (me:Int),w]),σb.next⟩ := by
        refine ⟨N - (i+1),by omega,i+1,st7,acc++[⟨(L:Int),rs⟩],w,rfl,by omega,by simp [hacc],?_,?_,?_,⟨by show B+1≤σb.next; omega,fun a ha hr=>?_⟩,?_,by simp,?_,rfl⟩
        · refine h7.keep (by show σ7.next≤σb.next; omega) fun a ha hac=>kB a ?_
          rcases hac with rfl | hac
          · omega
          · have := hcl a hac; omega
        · refine key.eq ?_
          rw [show N - (i+1)=j0 by omega]
          simp
        · intro x hx
          rcases List.mem_append.1 hx with hx | hx
          · exact hxs x hx
          · simp at hx; subst hx; simp only; omega
        · rw [kB a (by omega),k47 a (by omega) hr]
          exact k4 a ha hr
        · rw [kB σ.next (by omega),k47 σ.next (by omega) (by omega)]
          exact mA4
        · refine e2.frame (Nat.le_refl _) fun a ha hb=>?_
          simp [show ¬ a=B by omega]
      by_cases hjl:j<M
      · have hjl':(j:Int)<M := by omega
        have hne:¬ e7=0 := fun e=>hgo7 ⟨hjl,e⟩
        have hne':¬ (e7:Int)=0 := by omega
        simp [lk_cons,hjl,hjl',hm7,hne,hne',mB7,mH7,fillL,repL,storeL,↓e1,mb,ow,orv,w1]
        exact fin
      · have hjl':¬ (j:Int)<M := by omega
        simp [lk_cons,hjl,hjl',mB7,mH7,fillL,repL,storeL,↓e1,mb,ow,orv,w1]
        exact fin
  · have key:Tr res st (pB (pChk (ml:Int) (me:Int) acc) F) := by
      rcases he with ⟨e0,_⟩ | ⟨e0,rfl⟩
      · have:N - i=0 := by omega
        rw [this] at t4
        refine t4.eq ?_
        simp [pMany,pB_pR]
      · exact t4.any
    have hfew:HFew acc := ⟨by omega,fun x hx=>by have := hxs x hx; omega⟩
    have ow := ho4.one
    have fin:∀ (st':RSt) (σ5:St),SR σ5 r st' c→σ5.next=σ4.next→(∀ a,a≠r→σ5.mem.get a=σ4.mem.get a)→Tr res st' (F ⟨(ml:Int),(me:Int),acc⟩)→Q (cv (ml:Int) (me:Int) ov) ⟨σ5.mem.set σ.next (.cells 3 [u64 (ml:Int),u64 (me:Int),ov]),σ5.next⟩ := fun st' σ5 g1 g2 g3 g4=>by
      refine hQ ov st' _ ⟨(ml:Int),(me:Int),acc⟩ (g1.keep (Nat.le_refl _) fun a ha hac=>?_) (by show σ.next≤σ5.next; omega) (fun a ha hr=>?_) (HOut.mono (lo := B+1) (lo' := σ.next) (ho4.frame (by show σ4.next≤σ5.next; omega) fun a ha hb=>?_) (by omega)) hfew g4
      · have:a≠σ.next := by
          rcases hac with rfl | hac
          · omega
          · have := hcl a hac; omega
        simp [this]
      · simp [show ¬ a=σ.next by omega]
        exact (g3 a hr).trans (k4 a ha hr)
      · simp [show ¬ a=σ.next by omega]
        exact g3 a (by omega)
    by_cases he0:e=0
    · subst he0
      have hlt:¬ i<N := fun h=>hgo ⟨h,rfl⟩
      have hlt':¬ (i:Int)<N := by omega
      obtain ⟨l4,hl4⟩:∃ l,st=.ok l := by
        rcases he with ⟨_,h⟩ | ⟨h,_⟩
        · exact h
        · exact absurd rfl h
      subst hl4
      have hres4:res=pB (pChk (ml:Int) (me:Int) acc) F l4 := by
        rcases key with ⟨m,h1,h2⟩ | ⟨e,h1,_⟩
        · cases h1; exact h2
        · cases h1
      simp [lk_cons,hlt,hlt',hm,mB4]
      refine ACall.into (cright_g (.inr ⟨B+1,ho4⟩) hfew _ _ _ fun b hb=>?_)
      cases b with
      | false =>
        have hc:cuOkB ml me acc=false := by
          cases hq:cuOkB ml me acc with
          | false=>rfl
          | true=>exact absurd (hb.2 ((cuOkB_iff _ _ _).1 hq)) (by simp)
        simp [lk_cons]
        refine sfail_c h4 (e := 23) (by decide) _ fun σ5 g1 g2 g3=>?_
        have mA5 := (g3 σ.next (by omega)).trans mA4
        have mB5 := (g3 B (by omega)).trans mB4
        simp [lk_cons,mB5,mA5,storeL,ow]
        exact fin _ σ5 g1 g2 g3 (.inr ⟨23,rfl,by simp [hres4,pB,pChk,hc]⟩)
      | true =>
        have hc:cuOkB ml me acc=true := (cuOkB_iff _ _ _).2 (hb.1 rfl)
        simp [lk_cons,mB4,mA4,storeL,ow]
        exact fin _ σ4 h4 rfl (fun _ _=>rfl) (.inl ⟨l4,rfl,by simp [hres4,pB,pChk,hc]⟩)
    · have he0':¬ (e:Int)=0 := by omega
      obtain rfl:st=.error e := by
        rcases he with ⟨h,_⟩ | ⟨_,h⟩
        · exact absurd h he0
        · exact h
      by_cases hlt:i<N
      · have hlt':(i:Int)<N := by omega
        simp [lk_cons,hlt,hlt',hm,he0,he0',mB4,mA4,storeL,ow]
        exact fin _ σ4 h4 rfl (fun _ _=>rfl) key.any
      · have hlt':¬ (i:Int)<N := by omega
        simp [lk_cons,hlt,hlt',hm,he0,he0',mB4,mA4,storeL,ow]
        exact fin _ σ4 h4 rfl (fun _ _=>rfl) key.any
end Go.Proofs.YticefdfhcahlfaaGreatDoor.AM

/- The document's reader takes a table. -/
namespace Go.Proofs.YticefdfhcahlfaaGreatDoor.AM
open Go.RowKit
set_option maxRecDepth 100000
set_option linter.unusedVariables false
set_option linter.unusedSimpArgs false

theorem line_st (l:List UInt8):∃ (b:List UInt8) (d g e:Nat) (s1 s2 s3 s4:RSt),sText (.ok l)=(b,s1)∧sNum 8 s1=(d,s2)∧sNum 8 s2=(g,s3)∧sNum 8 s3=(e,s4) ∧
    ((∃ l',pLine l=.ok ((⟨b.toArray⟩,(d,d,g,e)),l')∧s4=.ok l')∨∃ c,pLine l=.error c∧s4=.error c) := by
  rcases sText_st l with ⟨b,r,h1,h2⟩ | ⟨c,b,h1,h2⟩
  · rcases sNum_st 8 r with ⟨d,r1,k1,k2⟩ | ⟨c,k1,k2⟩
    · rcases sNum_st 8 r1 with ⟨g,r2,m1,m2⟩ | ⟨c,m1,m2⟩
      · rcases sNum_st 8 r2 with ⟨e,r3,n1,n2⟩ | ⟨c,n1,n2⟩
        · exact ⟨b,d,g,e,_,_,_,_,h2,k2,m2,n2,.inl ⟨r3,by rw [pLine,h1]; simp only [k1,m1,n1],rfl⟩⟩
        · exact ⟨b,d,g,0,_,_,_,_,h2,k2,m2,n2,.inr ⟨c,by rw [pLine,h1]; simp only [k1,m1,n1],rfl⟩⟩
      · exact ⟨b,d,0,0,_,_,_,_,h2,k2,m2,rfl,.inr ⟨c,by rw [pLine,h1]; simp only [k1,m1],rfl⟩⟩
    · exact ⟨b,0,0,0,_,_,_,_,h2,k2,rfl,rfl,.inr ⟨c,by rw [pLine,h1]; simp only [k1],rfl⟩⟩
  · exact ⟨b,0,0,0,_,_,_,_,h2,rfl,rfl,rfl,.inr ⟨c,by rw [pLine,h1],rfl⟩⟩
def lastN (T:Tbl):ByteArray := match T.getLast? with
  | some p=>p.1
  | none=>⟨#[]⟩
theorem lastN_snoc (T:Tbl) (x:ByteArray×Ln):lastN (T++[x])=x.1 := by simp [lastN]
/-- The lines so far rise to the last one. -/
def RisT (T:Tbl):Prop := (T.Pairwise fun a b=>lessB a.1 b.1=true)∧∀ p∈T,p.1=lastN T∨lessB p.1 (lastN T)=true
theorem RisT.snoc {T:Tbl} {x:ByteArray×Ln} (h:RisT T) (hx:lessB (lastN T) x.1=true):RisT (T++[x])∧lkB T x.1=none := by
  have hall:∀ p∈T,lessB p.1 x.1=true := fun p hp=>by
    rcases h.2 p hp with e | e
    · rw [e]; exact hx
    · exact lessB_trans e hx
  refine ⟨⟨List.pairwise_append.2 ⟨h.1,by simp,fun a ha b hb=>by simp at hb; subst hb; exact hall a ha⟩,fun p hp=>?_⟩,?_⟩
  · rw [lastN_snoc]
    rcases List.mem_append.1 hp with hp | hp
    · exact .inr (hall p hp)
    · simp at hp; subst hp; exact .inl rfl
  · rw [lkB_none]
    intro hm
    obtain ⟨p,hp,he⟩ := List.mem_map.1 hm
    have := hall p hp
    rw [he,lessB_irrefl] at this; cases this
/-- Is a line bad, as the document says? -/
def rBad (i:Nat) (T:Tbl) (nm:ByteArray) (d:Nat):Bool := decide (nm=⟨#[]⟩) || decide (64<nm.size) || decide (d=0) || decide (i=16) || (decide (0<i) && !lessB (lastN T) nm)
theorem less_empty (a:ByteArray):lessB a ⟨#[]⟩=false := by
  unfold lessB
  simp
theorem rBad_ln {i:Nat} {T:Tbl} (hi:T.length=i) (h16:i≤16) (nm:ByteArray) (d g e:Nat):lnBad T (lastN T) (nm,(d,d,g,e))=rBad i T nm d := by
  have h16':decide (16≤T.length)=decide (i=16) := by
    rw [hi]
    by_cases h:i=16
    · simp [h]
    · have:¬ 16≤i := by omega
      simp [h,this]
  unfold lnBad rBad
  simp only [h16']
  by_cases hi0:i=0
  · have hT:T=[] := List.eq_nil_of_length_eq_zero (by omega)
    have hl:lastN T=⟨#[]⟩ := by rw [hT]; rfl
    rw [hl]
    have he:(!lessB ⟨#[]⟩ nm)=decide (nm=⟨#[]⟩) := by
      by_cases h:nm=⟨#[]⟩
      · subst h; simp [lessB_irrefl]
      · have h1:1≤nm.size := Nat.pos_of_ne_zero fun h0=>h ((ba_empty nm).2 h0)
        simp [empty_less h1,h]
    rw [he]
    simp [hi0]
  · have hp:decide (0<i)=true := decide_eq_true (by omega)
    rw [hp,Bool.true_and]
    by_cases h:nm=⟨#[]⟩
    · subst h; simp [less_empty]
    · cases lessB (lastN T) nm <;> simp [h]
/-- What the lines so far and the reader's state have to do with the whole. -/
def TkOk (n i:Nat) (T:Tbl) (st:RSt) (res:Except Nat (Tbl×List UInt8)):Prop := T.length=i∧match st with
  | .ok l=>i≤16∧RisT T∧pLines (n - i) T (lastN T) l=res
  | .error e=>res=.error e
def TsJ (r n:Nat) (res:Except Nat (Tbl×List UInt8)) (c:Option Nat) (σ0:St) (mm:Nat) (rg:Regs) (σ':St):Prop := ∃ (i:Nat) (T:Tbl) (v:AVal) (b:Option Nat) (st:RSt),mm=n - i∧i≤n∧n<256∧TkOk n i T st res∧GS rwL σ' v T b∧(∀ x,b=some x→σ0.next≤x)∧SR σ' r st c∧RStp r σ0 σ'∧rg=[(0,.ptr r 0),(3,v),(4,i64 n),(5,i64 i)]
set_option maxHeartbeats 4000000 in
theorem take13_c {σ:St} {r:Nat} {l:List UInt8} {c:Option Nat} (h:SR σ r (.ok l) c) (Q:AVal→St→Prop)
    (hQ:∀ v T b st σ',GS rwL σ' v T b→(∀ x,b=some x→σ.next≤x)→SR σ' r st c→RStp r σ σ'→((∃ l',st=.ok l'∧pTab l=.ok (T,l')∧RisT T∧T.length≤16)∨∃ e,st=.error e∧pTab l=.error e)→Q v σ'):ACall Tryz.prog 38 [.ptr r 0] σ Q := by
  refine ACall.of_compF hmx (fun a w=>Tryz.call38 a w) Tryz.func38 cf38 (n := 1) (by decide) rfl ?_
  simp [ac38,rs38,lk_cons]
  refine snum_c h (k := 1) (by decide) _ fun σ1 h1 hn1 hm1=>?_
  obtain ⟨n,st1,hs⟩:∃ n st1,sNum 1 (.ok l)=(n,st1) := ⟨_,_,rfl⟩
  rw [hs] at h1
  simp only [hs]
  have hrlt := h.1
  have hcl := h.2.2.1
  have hn256:n<256∧TkOk n 0 [] st1 (pTab l) := by
    rcases sNum_st 1 l with ⟨x,r',k1,k2⟩ | ⟨e,k1,k2⟩
    · rw [hs] at k2; cases k2
      exact ⟨by have := (pNum_len k1).2; omega,rfl,by omega,⟨List.Pairwise.nil,fun p hp=>by cases hp⟩,by rw [pTab,k1]; rfl⟩
    · rw [hs] at k2; cases k2
      exact ⟨by omega,rfl,by show pTab l=_; rw [pTab,k1]⟩
  have wn:IntKind.i64.wrap (n:Int)=n := by rw [IntWalk.i64_in] <;> omega
  have st01:RStp r σ σ1 := ⟨by omega,fun a _ ha=>hm1 a ha⟩
  simp [lk_cons,wn]
  refine wp_loop (TsJ r n (pTab l) c σ) n ?_ ?_
  · exact ⟨0,[],.nilsl,none,st1,rfl,Nat.zero_le _,hn256.1,hn256.2,GS.nil _,by simp,h1,st01,by simp [lk_cons]⟩
  · rintro mm rg σ2 ⟨i,T,v,b,st,rfl,hi,_,htk,hg,hb,hsr,hst,rfl⟩
    obtain ⟨hTi,htk⟩ := htk
    obtain ⟨g1,g2,g3,g4⟩ := id hsr
    by_cases hc:i<n
    · have hc':(i:Int)<n := by omega
      cases st with
      | error e =>
        obtain ⟨k0,v',k1,k2⟩ := g4
        have e0:¬ (e:Int)=0 := by omega
        simp [lk_cons,hc,hc',k2,k0,e0]
        exact hQ v T b _ σ2 hg hb hsr hst (.inr ⟨e,rfl,htk⟩)
      | ok l3 =>
        obtain ⟨v',k1,k2,k3⟩ := g4
        obtain ⟨h16,hris,hpl⟩ := htk
        have hlenT := hg.len
        have w1:IntKind.i64.wrap ((i:Int)+1)=((i+1:Nat):Int) := by rw [IntWalk.i64_in] <;> omega
        obtain ⟨nb,d,g,e,s1,s2,s3,s4,t1,t2,t3,t4,hline⟩ := line_st l3
        simp [lk_cons,hc,hc',k1]
        refine stext_c hsr _ fun σ3 p1 p2 p3=>?_
        rw [t1] at p1
        simp only [t1]
        obtain ⟨nm,hnm⟩:∃ nm:ByteArray,(⟨nb.toArray⟩:ByteArray)=nm := ⟨_,rfl⟩
        rw [hnm] at hline ⊢
        have q0:r<σ3.next := p1.1
        have sk:∀ (A B:Blk),SR ⟨(σ3.mem.set σ3.next A).set σ3.next B,σ3.next+1⟩ r s1 c := fun A B=>p1.keep (by simp) fun a ha _=>by simp [show ¬ a=σ3.next by omega]
        have e6:σ3.next≠r := by omega
        simp [lk_cons,fillL,storeL]
        refine snum_c (sk _ _) (k := 8) (by decide) _ fun σ4 q1 q2 q3=>?_
        rw [t2] at q1
        simp only [t2]
        have m4 := q3 σ3.next e6
        simp at m4 q2
        have e4:σ3.next≠σ4.next := by omega
        simp [lk_cons,m4,storeL]
        refine snum_c (st := s2) (c := c) (q1.keep (by simp) fun a ha hac=>?_) (k := 8) (by decide) _ fun σ5 u1 u2 u3=>?_
        · have:a≠σ3.next := by
            rcases hac with rfl | hac
            · exact Ne.symm e6
            · have := p1.2.2.1 a hac; omega
          simp [this]
        rw [t3] at u1
        simp only [t3]
        have m5 := u3 σ3.next e6
        simp at m5 u2
        simp [lk_cons,m5,storeL]
        refine snum_c (st := s3) (c := c) (u1.keep (by simp) fun a ha hac=>?_) (k := 8) (by decide) _ fun σ6 x1 x2 x3=>?_
        · have:a≠σ3.next := by
            rcases hac with rfl | hac
            · exact Ne.symm e6
            · have := p1.2.2.1 a hac; omega
          simp [this]
        rw [t4] at x1
        simp only [t4]
        have m6 := x3 σ3.next e6
        simp at m6 x2
        simp [lk_cons,m6,storeL,-wp_seq]
        rw [wp_seq]
        simp [lk_cons,storeL,-wp_seq]
        obtain ⟨S,hS⟩:∃ S:St,S=⟨(σ6.mem.set σ3.next (.cells 5 [.str nm,.int .u64 0,.int .u64 (d:Int),.int .u64 (g:Int),.int .u64 (e:Int)])).set σ3.next (.cells 5 [.str nm,.int .u64 (d:Int),.int .u64 (d:Int),.int .u64 (g:Int),.int .u64 (e:Int)]),σ6.next⟩ := ⟨_,rfl⟩
        have mS:S.mem.get σ3.next=some (.cells 5 [.str nm,.int .u64 (d:Int),.int .u64 (d:Int),.int .u64 (g:Int),.int .u64 (e:Int)]) := by rw [hS]; simp
        have kS:∀ a,a<σ2.next→a≠r→S.mem.get a=σ2.mem.get a := fun a ha har=>by
          have z:¬ a=σ3.next := by omega
          rw [hS]
          simp only [Mem.get_set,if_neg z]
          rw [x3 a har]
          simp only [Mem.get_set,if_neg z]
          rw [u3 a har]
          simp only [Mem.get_set,if_neg z]
          rw [q3 a har]
          simp only [Mem.get_set,if_neg z]
          exact p3 a har
        have nS:S.next=σ2.next+1 := by rw [hS]; show σ6.next=_; omega
        have srS:SR S r s4 c := x1.keep (by rw [hS]; exact Nat.le_refl _) fun a ha hac=>by
          have:a≠σ3.next := by
            rcases hac with rfl | hac
            · exact Ne.symm e6
            · have := p1.2.2.1 a hac; omega
          rw [hS]; simp [this]
        have hbr:b≠some r := fun eb=>by have := hb r eb; omega
        have gS:GS rwL S v T b := hg.keep (by omega) fun a ha hab=>kS a ha (fun ea=>hbr (by rw [hab,ea]))
        have stS:RStp r σ S := hst.trans ⟨by omega,kS⟩
        rw [← hS]
        refine wp_cutE (fun rr σ'=>rr.lookup 0=some (.ptr r 0)∧rr.lookup 3=some v∧rr.lookup 4=some (i64 n)∧rr.lookup 5=some (i64 i)∧rr.lookup 6=some (.ptr σ3.next 0)∧SR σ' r (if rBad i T nm d then sFail 23 s4 else s4) c∧σ'.next=S.next∧∀ a,a≠r→σ'.mem.get a=S.mem.get a) ?_ ?_
        · have bad:rBad i T nm d=true→∀ Q:AVal→St→Prop,(∀ σ',SR σ' r (if rBad i T nm d then sFail 23 s4 else s4) c→σ'.next=S.next→(∀ a,a≠r→σ'.mem.get a=S.mem.get a)→Q (.tup []) σ')→ACall Tryz.prog 39 [.ptr r 0,.int .i64 23] S Q := fun hb Q hq=>by
            refine sfail_c srS (e := 23) (by decide) Q fun σ' y1 y2 y3=>hq σ' (by rw [hb]; exact y1) y2 y3
          have strE:∀ a b:ByteArray,abinS .eql a b=some (.bool (decide (a=b))) := strEq
          by_cases c1:nm=⟨#[]⟩
          · have hb1:rBad i T nm d=true := by simp [rBad,c1]
            simp [lk_cons,mS,strE,c1]
            refine bad hb1 _ fun σ' y1 y2 y3=>?_
            simp [lk_cons]
            simp only [c1] at y1
            exact ⟨y1,y2,y3⟩
          by_cases c2:64<nm.size
          · have hb1:rBad i T nm d=true := by simp [rBad,c2]
            have c2':(64:Int)<nm.size := by omega
            simp [lk_cons,mS,strE,c1,c2,c2']
            refine bad hb1 _ fun σ' y1 y2 y3=>?_
            simp [lk_cons]
            exact ⟨y1,y2,y3⟩
          have c2':¬ (64:Int)<nm.size := by omega
          by_cases c3:d=0
          · have hb1:rBad i T nm d=true := by simp [rBad,c3]
            have c3':(d:Int)=0 := by omega
            simp [lk_cons,mS,strE,c1,c2,c2',c3,c3']
            refine bad hb1 _ fun σ' y1 y2 y3=>?_
            simp [lk_cons]
            simp only [c3] at y1
            exact ⟨y1,y2,y3⟩
          have c3':¬ (d:Int)=0 := by omega
          by_cases c4:i=16
          · have hb1:rBad i T nm d=true := by simp [rBad,c4]
            have c4':(i:Int)=16 := by omega
            simp [lk_cons,mS,strE,c1,c2,c2',c3,c3',c4,c4']
            refine bad hb1 _ fun σ' y1 y2 y3=>?_
            simp [lk_cons]
            exact ⟨by rw [← c4]; exact y1,y2,y3⟩
          have c4':¬ (i:Int)=16 := by omega
          by_cases c5:0<i
          · have c5':(0:Int)<i := by omega
            have hTl:0<T.length := by omega
            have hTl':(0:Int)<T.length := by omega
            obtain ⟨p,hp⟩:∃ p,T[T.length - 1]?=some p := ⟨_,List.getElem?_eq_getElem (by omega)⟩
            have hlast:lastN T=p.1 := by rw [lastN,List.getLast?_eq_getElem?,hp]
            have wl:IntKind.i64.wrap ((T.length:Int) - 1)=((T.length - 1:Nat):Int) := by rw [IntWalk.i64_in] <;> omega
            obtain ⟨o,ho1,ho2,mo,io⟩ := gS.idx (i := T.length - 1) (by omega)
            obtain ⟨r0,_⟩ := rwL_row hp
            have geq:abinS .geq p.1 nm=some (.bool (!lessB p.1 nm)) := by simp only [abinS,bLess]
            revert wl io r0
            generalize T.length - 1=k
            intro wl io r0
            cases hls:lessB p.1 nm with
            | false =>
              have hb1:rBad i T nm d=true := by simp [rBad,hlast,hls,c5]
              rw [hls] at geq
              simp [lk_cons,mS,strE,c1,c2,c2',c3,c3',c4,c4',c5,c5',↓hlenT,hTl,hTl',wl,↓io,mo,r0,geq]
              refine bad hb1 _ fun σ' y1 y2 y3=>?_
              simp [lk_cons]
              exact ⟨y1,y2,y3⟩
            | true =>
              have hb1:rBad i T nm d=false := by
                have:¬ 64<nm.size := c2
                simp [rBad,hlast,hls,c1,c3,c4]; omega
              rw [hls] at geq
              simp [lk_cons,mS,strE,c1,c2,c2',c3,c3',c4,c4',c5,c5',↓hlenT,hTl,hTl',wl,↓io,mo,r0,geq]
              rw [hb1]; exact srS
          · have c5':¬ (0:Int)<i := by omega
            have hb1:rBad i T nm d=false := by
              simp [rBad,c1,c3,c4,c5]; omega
            simp [lk_cons,mS,strE,c1,c2,c2',c3,c3',c4,c4',c5,c5']
            rw [hb1]; exact srS
        · rintro rr σ7 ⟨l0,l3',l4,l5,l6,y1,y2,y3⟩
          have m7 := (y3 σ3.next e6).trans mS
          have g7:GS rwL ⟨σ7.mem.set σ7.next (.cells 5 [.str nm,.int .u64 (d:Int),.int .u64 (d:Int),.int .u64 (g:Int),.int .u64 (e:Int)]),σ7.next+1⟩ v T b := gS.keep (by simp; omega) fun a ha hab=>by
            simp [show ¬ a=σ7.next by omega]
            exact y3 a fun ea=>hbr (by rw [hab,ea])
          obtain ⟨σ8,f1,f2,f3,f4⟩ := gs_app1 g7 (nb := σ7.next) (by_ := 48) (t := true) (x := (nm,(d,d,g,e))) (by decide) (by simp [rwL]) (fun ea=>by have := hg.lt ea; omega) (by omega) (by omega)
          simp [lk_cons,l0,l3',l4,l5,l6,m7,fillL,repL,storeL,↓f1,w1]
          have w2:((i:Int)+1)=((i+1:Nat):Int) := by omega
          have nx:∀ x,some (σ7.next+1)=some x→σ.next≤x := fun x hx=>by cases hx; have := stS.1; omega
          have srF:SR σ8 r (if rBad i T nm d then sFail 23 s4 else s4) c := y1.keep (by rw [f3]; show _≤_+1+1; omega) fun a ha hac=>by
            have hba:b≠some a := by
              intro eb
              rcases hac with rfl | hac
              · exact hbr eb
              · have h1 := hb a eb; have h2 := hcl a hac; omega
            rw [f4 a (by show a<σ7.next+1; omega) hba]
            have:¬ a=σ7.next := by omega
            simp [this]
          have stF:RStp r σ σ8 := ⟨by rw [f3]; show _≤σ7.next+1+1; have := stS.1; omega,fun a ha har=>by
            have hba:b≠some a := fun eb=>by have := hb a eb; omega
            have hn := stS.1
            rw [f4 a (by show a<σ7.next+1; omega) hba]
            have:¬ a=σ7.next := by omega
            simp [this]
            exact (y3 a har).trans (stS.2 a ha har)⟩
          refine ⟨n - (i+1),by omega,i+1,T++[(nm,(d,d,g,e))],_,some (σ7.next+1),(if rBad i T nm d then sFail 23 s4 else s4),rfl,by omega,hn256.1,⟨by simp [hTi],?_⟩,f2,nx,srF,stF,by rw [w2]⟩
          have hk:n - i=(n - (i+1))+1 := by omega
          rw [hk,pLines] at hpl
          rcases hline with ⟨l',hp1,rfl⟩ | ⟨c1,hp1,rfl⟩
          · rw [hp1] at hpl
            simp only [rBad_ln hTi h16] at hpl
            cases hbad:rBad i T nm d with
            | true=>rw [hbad] at hpl; exact hpl.symm
            | false =>
              rw [hbad] at hpl
              have hln := rBad_ln hTi h16 nm d g e
              rw [hbad] at hln
              simp only [lnBad,Bool.or_eq_false_iff,Bool.not_eq_false',decide_eq_false_iff_not] at hln
              obtain ⟨r1,r2⟩ := hris.snoc (x := (nm,(d,d,g,e))) hln.1.1.1
              refine ⟨by omega,r1,?_⟩
              rw [setB_new r2] at hpl
              rw [lastN_snoc]
              exact hpl
          · rw [hp1] at hpl
            cases hbad:rBad i T nm d with
            | true=>exact hpl.symm
            | false=>exact hpl.symm
    · have:i=n := by omega
      subst this
      simp [lk_cons]
      cases st with
      | error e=>exact hQ v T b _ σ2 hg hb hsr hst (.inr ⟨e,rfl,htk⟩)
      | ok l3 =>
        obtain ⟨h16,hris,hpl⟩ := htk
        rw [Nat.sub_self,pLines] at hpl
        exact hQ v T b _ σ2 hg hb hsr hst (.inl ⟨l3,rfl,hpl.symm,hris,by omega⟩)
theorem take13_e {σ:St} {r e:Nat} {c:Option Nat} (h:SR σ r (.error e) c) (Q:AVal→St→Prop)
    (hQ:∀ σ',SR σ' r (.error e) c→RStp r σ σ'→Q .nilsl σ'):ACall Tryz.prog 38 [.ptr r 0] σ Q := by
  refine ACall.of_compF hmx (fun a w=>Tryz.call38 a w) Tryz.func38 cf38 (n := 1) (by decide) rfl ?_
  simp [ac38,rs38,lk_cons]
  refine snum_c h (k := 1) (by decide) _ fun σ1 h1 hn1 hm1=>?_
  simp only [sNum] at h1
  have w0:IntKind.i64.wrap 0=0 := by decide
  simp [lk_cons,sNum,w0]
  refine wp_loop (fun mm rg σ'=>σ'=σ1∧rg=[(0,.ptr r 0),(3,.nilsl),(4,.int .i64 0),(5,.int .i64 0)]) 0 ?_ ?_
  · exact ⟨rfl,by simp [lk_cons]⟩
  rintro mm rg σ' ⟨rfl,rfl⟩
  simp [lk_cons]
  exact hQ σ' h1 ⟨by omega,fun a _ ha=>hm1 a ha⟩
/-- A table, whatever the reader's state. -/
theorem take13_r {β:Type} {σ:St} {r:Nat} {st:RSt} {c:Option Nat} {res:Except Nat (β×List UInt8)} {F:Tbl→Prs β} (h:SR σ r st c) (ht:Tr res st (pB pTab F)) (Q:AVal→St→Prop)
    (hQ:∀ v T b st' σ',GS rwL σ' v T b→(∀ x,b=some x→σ.next≤x)→SR σ' r st' c→RStp r σ σ'→Tr res st' (F T)→Q v σ'):ACall Tryz.prog 38 [.ptr r 0] σ Q := by
  rcases ht with ⟨m,rfl,hr⟩ | ⟨e,rfl,hr⟩
  · refine take13_c h _ fun v T b st' σ' h1 h2 h3 h4 h5=>hQ v T b st' σ' h1 h2 h3 h4 ?_
    rcases h5 with ⟨l',rfl,e1,_⟩ | ⟨e,rfl,e1⟩
    · exact .inl ⟨l',rfl,by rw [hr,pB_ok e1]⟩
    · exact .inr ⟨e,rfl,by rw [hr,pB_err e1]⟩
  · exact take13_e h _ fun σ' h1 h2=>hQ .nilsl [] none (.error e) σ' (GS.nil _) (by simp) h1 h2 (.inr ⟨e,rfl,hr⟩)
end Go.Proofs.YticefdfhcahlfaaGreatDoor.AM

/- The document's Read, walked. -/
namespace Go.Proofs.YticefdfhcahlfaaGreatDoor.AM
open Go.RowKit
set_option maxRecDepth 100000
set_option linter.unusedVariables false
set_option linter.unusedSimpArgs false

theorem pLd_step {β:Type} (j:Nat) (F:List Ld→Prs β):pB (pMany pLd (j+1)) F=pB (pNum 8) fun a=>pB pFlag fun y=>pB (pNum 8) fun z=>pB (pMany pLd j) fun is=>F ((⟨(a:Int),y,(z:Int)⟩:Ld) :: is) := by
  rw [pMany_step]
  show pB (pB (pNum 8) _) _=_
  rw [pB_assoc]; congr 1; funext a
  rw [pB_assoc]; congr 1; funext y
  rw [pB_assoc]; congr 1
theorem pSb_step {β:Type} (j:Nat) (F:List SbV→Prs β):pB (pMany pSb (j+1)) F=pB pTx fun nm=>pB (pNum 1) fun k=>pB pCu fun cu=>pB (pMany pSb j) fun is=>F ((⟨nm,k,cu.ml,cu.me,cu.h⟩:SbV) :: is) := by
  rw [pMany_step]
  show pB (pB pTx _) _=_
  rw [pB_assoc]; congr 1; funext nm
  rw [pB_assoc]; congr 1; funext k
  rw [pB_assoc]; congr 1
def Rd1 (res:Except Nat (Tp×List UInt8)) (A r tc:Nat) (c:Option Nat) (ep last N:Nat) (S:St) (mm:Nat) (rg:Regs) (σ':St):Prop := ∃ (i:Nat) (st:RSt) (v:AVal) (t:List Ld) (b:Option Nat),mm=N - i∧i≤N∧t.length=i∧SR σ' r st c∧Tr res st (pB (pMany pLd (N - i)) fun is=>pT4 ep last (t++is))∧RStpC r tc S σ'∧σ'.mem.get tc=some (.cells 5 [u64 (ep:Int),u64 (last:Int),v,.nilsl,.nilsl])∧GS rwD σ' v t b∧(∀ z,b=some z→S.next≤z)∧(∀ x∈t,0≤x.f2)∧rg=[(2,.ptr A 0),(4,.ptr r 0),(5,.ptr tc 0),(6,i64 N),(7,i64 i)]
def Rd2 (res:Except Nat (Tp×List UInt8)) (A r tc:Nat) (c:Option Nat) (ep last:Nat) (t:List Ld) (lv:AVal) (bt:Option Nat) (N:Nat) (S:St) (mm:Nat) (rg:Regs) (σ':St):Prop := ∃ (i:Nat) (st:RSt) (v:AVal) (s:List SbP) (b:Option Nat),mm=N - i∧i≤N∧s.length=i∧SR σ' r st c∧Tr res st (pB (pMany pSb (N - i)) fun is=>pT5 ep last t (s.map (·.1)++is))∧RStpC r tc S σ'∧σ'.mem.get tc=some (.cells 5 [u64 (ep:Int),u64 (last:Int),lv,v,.nilsl])∧GS rwD σ' lv t bt∧GS rwS σ' v s b∧SbO S.next σ' s∧(∀ z,b=some z→S.next≤z)∧rg=[(2,.ptr A 0),(4,.ptr r 0),(5,.ptr tc 0),(6,i64 N),(9,i64 i)]
def RdRel (lo:Nat) (σ':St) (l:List UInt8) (gv:AVal) (code:Nat):Prop := (pTp l=.error code∧gv=.agg tpZ)∨(∃ x l',pTp l=.ok (x,l')∧l'≠[]∧gv=.agg tpZ∧code=5)∨∃ x lv sv nv bt bs bn s,pTp l=.ok (x,[])∧gv=.agg [u64 (x.ep:Int),u64 (x.last:Int),lv,sv,nv]∧GS rwD σ' lv x.t bt∧GS rwS σ' sv s bs∧x.s=s.map (·.1)∧SbO lo σ' s∧GS rwL σ' nv x.T bn∧code=0
theorem SR.setB {σ:St} {r:Nat} {st:RSt} {c:Option Nat} (h:SR σ r st c) {b:Nat} (B:Blk) (h1:b≠r) (h2:c≠some b):SR ⟨σ.mem.set b B,σ.next⟩ r st c := h.keep (Nat.le_refl _) fun a ha hac=>by
  have:a≠b := by
    rcases hac with rfl | hac
    · exact Ne.symm h1
    · exact fun e=>h2 (by rw [hac,e])
  simp [this]
set_option maxHeartbeats 8000000 in
theorem rread_c {σ:St} {bv:AVal} {l:List UInt8} {c:Option Nat} (hb:RdB σ bv l c) (hl:l.length≤1000000) (Q:AVal→St→Prop) (hQ:∀ gv code σ',RdRel σ.next σ' l gv code→Grow σ σ'→Q (.tup [gv,i64 (code:Nat)]) σ'):ACall Tryz.prog 10 [bv] σ Q := by
  refine ACall.of_compF hmx (fun a w=>Tryz.call10 a w) Tryz.func10 cf10 (n := 1) (by decide) rfl ?_
  obtain ⟨o1,o2⟩ := hb.one
  have hcl:∀ x,c=some x→x<σ.next := fun x hx=>hb.lt hx
  simp [ac10,rs10,lk_cons,fillL,storeL,o1,o2]
  obtain ⟨S,hS⟩:∃ S:St,S=⟨(((σ.mem.set σ.next (.cells 5 tpZ)).set (σ.next+1) (.cells 2 [bv,i64 0])).set (σ.next+1+1) (.cells 5 tpZ)).set (σ.next+1+1) (.cells 5 tpZ),σ.next+1+1+1⟩ := ⟨_,rfl⟩
  have nS:S.next=σ.next+3 := by rw [hS]
  have kS:∀ a,a<σ.next→S.mem.get a=σ.mem.get a := fun a ha=>by rw [hS]; simp [show ¬ a=σ.next by omega,show ¬ a=σ.next+1 by omega,show ¬ a=σ.next+1+1 by omega]
  have mA:S.mem.get σ.next=some (.cells 5 tpZ) := by rw [hS]; simp
  have mT:S.mem.get (σ.next+1+1)=some (.cells 5 tpZ) := by rw [hS]; simp
  have sr:SR S (σ.next+1) (.ok l) c := ⟨by omega,fun e=>by have := hcl _ e; omega,fun x hx=>by have := hcl x hx; omega,bv,by rw [hS]; simp,hb.keep (by omega) fun a ha _=>kS a ha,hl⟩
  obtain ⟨res,hres⟩:∃ res,pTp l=res := ⟨_,rfl⟩
  obtain ⟨A,hA⟩:∃ A,σ.next=A := ⟨_,rfl⟩
  have R0:RN S (A+1) (A+1+1) 5 c res S (.ok l) pTp tpZ := ⟨hA ▸ sr,.inl ⟨l,rfl,hres.symm⟩,hA ▸ mT,rfl,fun _ _ _=>rfl,by omega,fun e=>by have := hcl _ e; omega⟩
  unfold tpZ at hS R0
  rw [pTp] at R0
  rw [← hS]
  simp only [hA]
  have hlt8:∀ n:Nat,n<256 ^ 1→IntKind.u8.wrap (n:Int)=n := fun n hn=>by rw [IntWalk.u8_in]; omega
  have hlt64:∀ n:Nat,n<256 ^ 1→IntKind.i64.wrap (n:Int)=n := fun n hn=>by rw [IntWalk.i64_in] <;> omega
  refine rn_num R0 (k := 8) (by decide) _ fun ep s1 σ1 l1 m1 R1=>?_
  simp [lk_cons,m1,storeL]
  refine rn_num (R1 _) (k := 8) (by decide) _ fun last s2 σ2 l2 m2 R2=>?_
  simp [lk_cons,m2,storeL]
  refine rn_num0 (R2 _) (k := 1) (by decide) _ fun N s3 σ3 l3 R3=>?_
  simp [lk_cons,hlt64 N l3]
  have n3:σ3.next=A+3 := by have := R3.next; omega
  refine wp_loop (Rd1 res A (A+1) (A+1+1) c ep last N σ3) N ?_ ?_
  · exact ⟨0,s3,.nilsl,[],none,rfl,Nat.zero_le _,rfl,R3.sr,R3.tr,⟨Nat.le_refl _,fun _ _ _ _=>rfl⟩,R3.cell,GS.nil _,by simp,by simp,by simp [lk_cons]⟩
  have k3:∀ a,a≠A+1→a≠A+1+1→σ3.mem.get a=S.mem.get a := R3.keep
  clear R0 R1 R2 R3
  rintro mm rg σ5 ⟨i,st,v5,t,b,rfl,hi,hti,h5,t5,s5,m5,g5,hb5,hp5,rfl⟩
  have n5 := s5.next
  obtain ⟨rv,e,hm,he⟩ := h5.code
  by_cases hgo:i<N∧e=0
  · obtain ⟨hlt,rfl⟩ := hgo
    have hlt':(i:Int)<N := by omega
    have w1:IntKind.i64.wrap ((i:Int)+1)=((i+1:Nat):Int) := by rw [IntWalk.i64_in] <;> omega
    obtain ⟨j,hj⟩:∃ j,N - i=j+1 := ⟨N - i - 1,by omega⟩
    rw [hj,pLd_step] at t5
    simp [lk_cons,hlt,hlt',hm,fillL,storeL]
    obtain ⟨X,hX⟩:∃ X,σ5.next=X := ⟨_,rfl⟩
    obtain ⟨S5,hS5⟩:∃ S5:St,S5=⟨(σ5.mem.set σ5.next (.cells 3 [.int .u64 0,.bool false,.int .u64 0])).set σ5.next (.cells 3 [.int .u64 0,.bool false,.int .u64 0]),σ5.next+1⟩ := ⟨_,rfl⟩
    have nS5:S5.next=X+1 := by rw [hS5,← hX]
    have kS5:∀ a,a<X→S5.mem.get a=σ5.mem.get a := fun a ha=>by rw [hS5,hX]; simp [show ¬ a=X by omega]
    have mS5:S5.mem.get X=some (.cells 3 [u64 0,.bool false,u64 0]) := by rw [hS5,hX]; simp
    rw [← hS5]
    simp only [hX]
    have R5:RN S5 (A+1) X 3 c res S5 st _ [u64 0,.bool false,u64 0] := ⟨h5.keep (by omega) fun a ha _=>kS5 a (by omega),t5,mS5,rfl,fun _ _ _=>rfl,by omega,fun e=>by have := hcl _ e; omega⟩
    refine rn_num R5 (k := 8) (by decide) _ fun a s6 σ6 l6 m6 R6=>?_
    simp [lk_cons,m6,storeL]
    refine rn_flag (R6 _) _ fun y s7 σ7 m7 R7=>?_
    simp [lk_cons,m7,storeL]
    refine rn_num (R7 _) (k := 8) (by decide) _ fun z s8 σ8 l8 m8 R8=>?_
    have R8 := R8 [u64 (a:Int),.bool y,u64 (z:Int)]
    obtain ⟨S8,hS8⟩:∃ S8:St,S8=⟨σ8.mem.set X (.cells 3 [u64 (a:Int),.bool y,u64 (z:Int)]),σ8.next⟩ := ⟨_,rfl⟩
    rw [← hS8] at R8
    have n8:S8.next=X+1 := R8.next.trans nS5
    have n8':σ8.next=X+1 := by rw [hS8] at n8; exact n8
    have k8:∀ a,a<X→a≠A+1→S8.mem.get a=σ5.mem.get a := fun a ha h1=>(R8.keep a h1 (by omega)).trans (kS5 a ha)
    have mT8 := (k8 (A+1+1) (by omega) (by omega)).trans m5
    have eTX:¬ A+1+1=X := by omega
    have mT8':σ8.mem.get (A+1+1)=some (.cells 5 [u64 (ep:Int),u64 (last:Int),v5,.nilsl,.nilsl]) := by rw [hS8] at mT8; simpa [eTX] using mT8
    have g8:GS rwD S8 v5 t b := g5.keep (by omega) fun a ha hab=>k8 a (by omega) (by have := hb5 a hab; omega)
    obtain ⟨x,hx⟩:∃ x:Ld,x=⟨(a:Int),y,(z:Int)⟩ := ⟨_,rfl⟩
    have hxA:rwD.a x=[u64 (a:Int),.bool y,u64 (z:Int)] := by rw [hx]; rfl
    have g9:GS rwD ⟨S8.mem.set S8.next (.cells 3 (rwD.a x)),S8.next+1⟩ v5 t b := g8.keep (by simp) fun a ha _=>by simp [show ¬ a=S8.next by omega]
    obtain ⟨σ9,f1,f2,f3,f4⟩ := gs_app1 g9 (nb := S8.next) (by_ := 24) (t := true) (x := x) (by decide) (by simp) (fun e=>by have := g8.lt e; omega) (by omega) (by omega)
    rw [hxA,hS8] at f1
    simp only at f1
    have k9:∀ a,a<S8.next→b≠some a→σ9.mem.get a=S8.mem.get a := fun a ha hb=>by
      rw [f4 a (by show a<S8.next+1; omega) hb]
      simp [show ¬ a=S8.next by omega]
    have mT9 := (k9 (A+1+1) (by omega) fun e=>by have := hb5 _ e; omega).trans mT8
    simp [lk_cons,m8,eTX,mT8',fillL,repL,storeL,↓f1,mT9,w1]
    have n9:σ9.next=X+3 := by rw [f3]; show S8.next+1+1=_; omega
    have kk:∀ a,a<σ3.next→a≠A+1→σ9.mem.get a=σ5.mem.get a := fun a ha h1=>(k9 a (by omega) fun e=>by have := hb5 a e; omega).trans (k8 a (by omega) h1)
    have sr9:SR σ9 (A+1) s8 c := R8.sr.keep (by omega) fun a ha hac=>k9 a ha fun e=>by
      have := hb5 a e
      rcases hac with rfl | hac
      · omega
      · have := hcl a hac; omega
    refine ⟨N - (i+1),by omega,i+1,s8,_,t++[x],some (S8.next+1),rfl,by omega,by simp [hti],sr9.setB _ (by omega) (fun e=>by have := hcl _ e; omega),?_,⟨by show σ3.next≤σ9.next; omega,fun a ha h1 h2=>?_⟩,by simp [n8,n8'],f2.keep (Nat.le_refl _) fun a ha hab=>?_,fun z hz=>?_,fun y2 hy=>?_,by simp⟩
    · refine R8.tr.eq ?_
      rw [show N - (i+1)=j by omega,hx]
      simp
    · simp [h2]; exact (kk a ha h1).trans (s5.keep a ha h1 h2)
    · have hab:S8.next+1=a := Option.some.inj hab
      simp [show ¬ a=A+1+1 by omega]
    · have hz:S8.next+1=z := Option.some.inj hz
      omega
    · rcases List.mem_append.1 hy with hy | hy
      · exact hp5 y2 hy
      · rw [List.mem_singleton.1 hy,hx]; show (0:Int)≤z; omega
  · have key:Tr res st (pT4 ep last t) := by
      rcases he with ⟨e0,_⟩ | ⟨e0,rfl⟩
      · have:N - i=0 := by omega
        rw [this] at t5
        refine t5.eq ?_
        simp [pMany,pB_pR]
      · exact t5.any
    rw [pT4] at key
    have hb6:∀ z,b=some z→z<σ5.next∧σ3.next≤z := fun z hz=>⟨g5.lt hz,hb5 z hz⟩
    by_cases hlt:i<N
    case' pos =>
      have hlt':(i:Int)<N := by omega
      have hne:¬ e=0 := fun e=>hgo ⟨hlt,e⟩
      have hne':¬ (e:Int)=0 := by omega
      simp [lk_cons,hlt,hlt',hm,hne,hne']
    case' neg =>
      have hlt':¬ (i:Int)<N := by omega
      simp [lk_cons,hlt,hlt']
    all_goals
      clear hlt hm he hgo t5
      refine snum_c h5 (k := 1) (by decide) _ fun σ6 h6 n6 k6=>?_
      have t6 := key.num
      have hM := sNum_lt 1 st
      revert h6 t6 hM
      generalize (sNum 1 st).1=M
      generalize (sNum 1 st).2=st6
      intro h6 t6 hM
      have mT6 := (k6 (A+1+1) (by omega)).trans m5
      have g6:GS rwD σ6 v5 t b := g5.keep (by omega) fun a ha hab=>k6 a (by have := hb6 a hab; omega)
      have s36:RStpC (A+1) (A+1+1) σ3 σ6 := s5.trans ⟨by omega,fun a _ h1 _=>k6 a h1⟩
      simp [lk_cons,hlt64 M hM]
      refine wp_loop (Rd2 res A (A+1) (A+1+1) c ep last t v5 b M σ6) M ?_ ?_
      · exact ⟨0,st6,.nilsl,[],none,rfl,Nat.zero_le _,rfl,h6,t6,⟨Nat.le_refl _,fun _ _ _ _=>rfl⟩,mT6,g6,GS.nil _,fun _ h=>absurd h List.not_mem_nil,by simp,by simp [lk_cons]⟩
      rintro mm rg σ7 ⟨i2,st7,v7,s,b7,rfl,hi2,hsi,h7,t7,s7,m7,gt7,g7,o7,hb7,rfl⟩
      have n7 := s7.next
      obtain ⟨rv2,e2,hm2,he2⟩ := h7.code
      by_cases hgo:i2<M∧e2=0
      · obtain ⟨hlt,rfl⟩ := hgo
        have hlt':(i2:Int)<M := by omega
        have w1:IntKind.i64.wrap ((i2:Int)+1)=((i2+1:Nat):Int) := by rw [IntWalk.i64_in] <;> omega
        obtain ⟨j,hj⟩:∃ j,M - i2=j+1 := ⟨M - i2 - 1,by omega⟩
        rw [hj,pSb_step] at t7
        simp [lk_cons,hlt,hlt',hm2]
        refine stext_c h7 _ fun σ8 h8 n8 k8=>?_
        have t8 := t7.text
        revert h8 t8
        generalize (sText st7).1=nm
        generalize (sText st7).2=st8
        intro h8 t8
        simp [lk_cons,fillL,storeL]
        obtain ⟨X,hX⟩:∃ X,σ8.next=X := ⟨_,rfl⟩
        obtain ⟨S8,hS8⟩:∃ S8:St,S8=⟨(σ8.mem.set σ8.next (.cells 5 [.str ⟨#[]⟩,.int .u8 0,.int .u64 0,.int .u64 0,.nilsl])).set σ8.next (.cells 5 [.str ⟨nm.toArray⟩,.int .u8 0,.int .u64 0,.int .u64 0,.nilsl]),σ8.next+1⟩ := ⟨_,rfl⟩
        have nS8:S8.next=X+1 := by rw [hS8,← hX]
        have kS8:∀ a,a<X→S8.mem.get a=σ8.mem.get a := fun a ha=>by rw [hS8,hX]; simp [show ¬ a=X by omega]
        have mS8:S8.mem.get X=some (.cells 5 [.str ⟨nm.toArray⟩,.int .u8 0,u64 0,u64 0,.nilsl]) := by rw [hS8,hX]; simp
        rw [← hS8]
        simp only [hX]
        have R8:RN S8 (A+1) X 5 c res S8 st8 _ [.str ⟨nm.toArray⟩,.int .u8 0,u64 0,u64 0,.nilsl] := ⟨h8.keep (by omega) fun a ha _=>kS8 a (by omega),t8,mS8,rfl,fun _ _ _=>rfl,by omega,fun e=>by have := hcl _ e; omega⟩
        refine rn_num R8 (k := 1) (by decide) _ fun k s9 σ9 l9 m9 R9=>?_
        simp [lk_cons,m9,storeL,hlt8 k l9]
        have R9 := R9 [.str ⟨nm.toArray⟩,.int .u8 (k:Int),u64 0,u64 0,.nilsl]
        obtain ⟨S9,hS9⟩:∃ S9:St,S9=⟨σ9.mem.set X (.cells 5 [.str ⟨nm.toArray⟩,.int .u8 (k:Int),.int .u64 0,.int .u64 0,.nilsl]),σ9.next⟩ := ⟨_,rfl⟩
        rw [← hS9] at R9
        rw [← hS9]
        have n9:S9.next=X+1 := R9.next.trans nS8
        have k9:∀ a,a<X→a≠A+1→S9.mem.get a=σ7.mem.get a := fun a ha h1=>(R9.keep a h1 (by omega)).trans ((kS8 a ha).trans (k8 a h1))
        refine dtake_r R9.sr R9.tr _ fun hv s10 σ10 cu h10 n10 k10 ho10 hf10 t10=>?_
        have hv1 := ho10.one
        have mX10 := (k10 X (by omega) (by omega)).trans R9.cell
        have k10':∀ a,a<X→a≠A+1→σ10.mem.get a=σ7.mem.get a := fun a ha h1=>(k10 a (by omega) h1).trans (k9 a ha h1)
        have mT10 := (k10' (A+1+1) (by omega) (by omega)).trans m7
        have eTX:¬ A+1+1=X := by omega
        obtain ⟨x,hx⟩:∃ x:SbP,x=(⟨⟨nm.toArray⟩,k,cu.ml,cu.me,cu.h⟩,⟨hv,hv1.1⟩) := ⟨_,rfl⟩
        have hxA:rwS.a x=[.str ⟨nm.toArray⟩,.int .u8 (k:Int),u64 cu.ml,u64 cu.me,hv] := by rw [hx]; rfl
        obtain ⟨SB,hSB⟩:∃ SB:St,SB=⟨σ10.mem.set X (.cells 5 [.str ⟨nm.toArray⟩,.int .u8 (k:Int),u64 cu.ml,u64 cu.me,hv]),σ10.next⟩ := ⟨_,rfl⟩
        have nSB:SB.next=σ10.next := by rw [hSB]
        have kSB:∀ a,a≠X→SB.mem.get a=σ10.mem.get a := fun a ha=>by rw [hSB]; simp [ha]
        have hb7r:∀ a,b7=some a→a≠A+1∧a≠A+1+1∧a<X := fun a ha=>by have := hb7 a ha; have := g7.lt ha; omega
        have gB:GS rwS SB v7 s b7 := g7.keep (by omega) fun a ha hab=>(kSB a (by omega)).trans (k10' a (by omega) (hb7r a hab).1)
        have oB:SbO σ6.next SB s := o7.frame (by omega) fun a ha hb _=>(kSB a (by omega)).trans (k10' a (by omega) (by omega))
        have hoB:HOut S9.next SB hv cu.h := ho10.frame (by omega) fun a ha hb=>kSB a (by omega)
        have g11:GS rwS ⟨SB.mem.set SB.next (.cells 5 (rwS.a x)),SB.next+1⟩ v7 s b7 := gB.keep (by simp) fun a ha _=>by simp [show ¬ a=SB.next by omega]
        obtain ⟨σ11,f1,f2,f3,f4⟩ := gs_app1 g11 (nb := SB.next) (by_ := 64) (t := true) (x := x) (by decide) (by simp) (fun e=>by have := gB.lt e; omega) (by omega) (by omega)
        rw [hxA,hSB] at f1
        simp only at f1
        have k11:∀ a,a<SB.next→b7≠some a→σ11.mem.get a=SB.mem.get a := fun a ha hb=>by
          rw [f4 a (by show a<SB.next+1; omega) hb]
          simp [show ¬ a=SB.next by omega]
        have mT11 := (k11 (A+1+1) (by omega) fun e=>(hb7r _ e).2.1 rfl).trans ((kSB (A+1+1) (by omega)).trans mT10)
        have hf10' := hv1
        simp [lk_cons,mX10,storeL,hv1,eTX,mT10,fillL,repL,↓f1,mT11,w1]
        have n11:σ11.next=σ10.next+2 := by rw [f3]; show SB.next+1+1=_; omega
        have srB:SR SB (A+1) s10 c := by rw [hSB]; exact h10.setB _ (by omega) fun e=>by have := hcl _ e; omega
        have sr11:SR σ11 (A+1) s10 c := srB.keep (by omega) fun a ha hac=>k11 a ha fun e=>by
          have := hb7 a e
          rcases hac with rfl | hac
          · omega
          · have := hcl a hac; omega
        have kk:∀ a,a<σ6.next→a≠A+1→σ11.mem.get a=σ7.mem.get a := fun a ha h1=>(k11 a (by omega) fun e=>by have := hb7 a e; omega).trans ((kSB a (by omega)).trans (k10' a (by omega) h1))
        have fr:∀ {v:AVal} {h:List Hd},HOut σ6.next SB v h→HOut σ6.next ⟨σ11.mem.set (A+1+1) (.cells 5 [u64 (ep:Int),u64 (last:Int),v5,.sl (σ10.next+1) 0 (s.length+1) (s.length+1) false,.nilsl]),σ11.next⟩ v h := fun hh=>hh.frame2 (by show SB.next≤σ11.next; omega) fun a ha hb hc=>by
          simp [show ¬ a=A+1+1 by omega]
          refine k11 a hb fun e=>?_
          have := (e ▸ gB).blk
          obtain ⟨cs,hc⟩ := hc
          rw [this] at hc; cases hc
        refine ⟨M - (i2+1),by omega,i2+1,s10,_,s++[x],some (SB.next+1),rfl,by omega,by simp [hsi],sr11.setB _ (by omega) (fun e=>by have := hcl _ e; omega),?_,⟨by show σ6.next≤σ11.next; omega,fun a ha h1 h2=>?_⟩,by simp [nSB],gt7.keep (by show σ7.next≤σ11.next; omega) fun a ha hab=>?_,(f2.keep (Nat.le_refl _) fun a ha hab=>?_),fun p hp=>?_,fun z hz=>?_,by simp⟩
        · refine t10.eq ?_
          rw [show M - (i2+1)=j by omega,hx]
          simp
        · simp [h2]; exact (kk a ha h1).trans (s7.keep a ha h1 h2)
        · have hb := hb6 a hab
          simp [show ¬ a=A+1+1 by omega]
          exact kk a (by omega) (by omega)
        · have hab:SB.next+1=a := Option.some.inj hab
          simp [show ¬ a=A+1+1 by omega]
        · rcases List.mem_append.1 hp with hp | hp
          · exact ⟨fr (oB p hp).1,(oB p hp).2⟩
          · rw [List.mem_singleton.1 hp,hx]
            exact ⟨fr (hoB.mono (by omega)),hf10⟩
        · have hz:SB.next+1=z := Option.some.inj hz
          omega
      · have key2:Tr res st7 (pT5 ep last t (s.map (·.1))) := by
          rcases he2 with ⟨e0,_⟩ | ⟨e0,rfl⟩
          · have:M - i2=0 := by omega
            rw [this] at t7
            refine t7.eq ?_
            simp [pMany,pB_pR]
          · exact t7.any
        rw [pT5] at key2
        have hb7':∀ z,b7=some z→z<σ7.next∧σ6.next≤z := fun z hz=>⟨g7.lt hz,hb7 z hz⟩
        have mA7:σ7.mem.get A=some (.cells 5 tpZ) := (s7.keep A (by omega) (by omega) (by omega)).trans ((k6 A (by omega)).trans ((s5.keep A (by omega) (by omega) (by omega)).trans ((k3 A (by omega) (by omega)).trans (hA ▸ mA))))
        have kσ7:∀ a,a<A→σ7.mem.get a=σ.mem.get a := fun a ha=>(s7.keep a (by omega) (by omega) (by omega)).trans ((k6 a (by omega)).trans ((s5.keep a (by omega) (by omega) (by omega)).trans ((k3 a (by omega) (by omega)).trans (kS a (by omega)))))
        by_cases hlt:i2<M
        case' pos =>
          have hlt':(i2:Int)<M := by omega
          have hne:¬ e2=0 := fun e=>hgo ⟨hlt,e⟩
          have hne':¬ (e2:Int)=0 := by omega
          simp [lk_cons,hlt,hlt',hm2,hne,hne']
        case' neg =>
          have hlt':¬ (i2:Int)<M := by omega
          simp [lk_cons,hlt,hlt']
        all_goals
          clear hlt hm2 he2 hgo t7
          refine take13_r h7 key2 _ fun nv Tb bn s8 σ8 gn8 hbn h8 r8 t8=>?_
          have n8 := r8.next
          have k8:∀ a,a<σ7.next→a≠A+1→σ8.mem.get a=σ7.mem.get a := r8.keep
          have mT8 := (k8 (A+1+1) (by omega) (by omega)).trans m7
          have onv := gn8.one
          simp [lk_cons,mT8,storeL,onv]
          obtain ⟨F,hF⟩:∃ F:St,F=⟨σ8.mem.set (A+1+1) (.cells 5 [u64 (ep:Int),u64 (last:Int),v5,v7,nv]),σ8.next⟩ := ⟨_,rfl⟩
          have nF:F.next=σ8.next := by rw [hF]
          have kF:∀ a,a≠A+1+1→F.mem.get a=σ8.mem.get a := fun a ha=>by rw [hF]; simp [ha]
          have mF:F.mem.get (A+1+1)=some (.cells 5 [u64 (ep:Int),u64 (last:Int),v5,v7,nv]) := by rw [hF]; simp
          have mAF:F.mem.get A=some (.cells 5 tpZ) := (kF A (by omega)).trans ((k8 A (by omega) (by omega)).trans mA7)
          have hrF:SR F (A+1) s8 c := by rw [hF]; exact h8.setB _ (by omega) fun e=>by have := hcl _ e; omega
          rw [← hF]
          have gtF:GS rwD F v5 t b := gt7.keep (by omega) fun a ha hab=>by
            have := hb6 a hab
            exact (kF a (by omega)).trans (k8 a (by omega) (by omega))
          have gsF:GS rwS F v7 s b7 := g7.keep (by omega) fun a ha hab=>by
            have := hb7' a hab
            exact (kF a (by omega)).trans (k8 a (by omega) (by omega))
          have goF:SbO σ6.next F s := o7.frame (by omega) fun a ha hb _=>(kF a (by omega)).trans (k8 a hb (by omega))
          have gnF:GS rwL F nv Tb bn := gn8.keep (by omega) fun a ha hab=>by
            have := hbn a hab
            exact kF a (by omega)
          obtain ⟨rv8,e8,hm8,he8⟩ := hrF.code
          have hm8' := (kF (A+1) (by omega)).symm.trans hm8
          have bad:∀ (e:Nat) (σ9:St),σ9.next=F.next→(∀ a,a≠A+1→σ9.mem.get a=F.mem.get a)→res=.error e→Q (.tup [.agg tpZ,i64 (e:Nat)]) ⟨σ9.mem.set A (.cells 5 tpZ),σ9.next⟩ := fun e σ9 g1 g2 g3=>by
            refine hQ _ e _ (.inl ⟨hres.trans g3,rfl⟩) ⟨by show σ.next≤σ9.next; omega,fun a ha=>?_⟩
            simp [show ¬ a=A by omega]
            exact (g2 a (by omega)).trans ((kF a (by omega)).trans ((k8 a (by omega) (by omega)).trans (kσ7 a (by omega))))
          have badE:∀ (e:Nat) (σ9:St),SR σ9 (A+1) (.error e) c→σ9.next=F.next→(∀ a,a≠A+1→σ9.mem.get a=F.mem.get a)→res=.error e→¬ e=0 := fun e σ9 _ _ _ g3=>pTp_ne0 _ _ (hres.trans g3)
          by_cases he0:e8=0
          · subst he0
            obtain ⟨l8,rfl⟩:∃ l,s8=.ok l := by
              rcases he8 with ⟨_,h⟩ | ⟨h,_⟩
              · exact h
              · exact absurd rfl h
            simp [lk_cons,hm8',mF]
            refine tpright_g (t := t) (s := s.map (·.1)) (cs := rws rwS s) ⟨by have := gtF.rd; rwa [rwsD] at this,by simpa using gsF.rd,goF.c⟩ ⟨by omega,hp5,by simp; omega,fun x hx=>?_⟩ (ep:Int) (last:Int) onv.1 _ fun bb hbb=>?_
            · obtain ⟨p,hp,rfl⟩ := List.mem_map.1 hx
              exact (goF p hp).2
            cases bb with
            | false =>
              have htp:¬ tpOk (last:Int) t (s.map (·.1)) := fun e=>by have := hbb.2 e; cases this
              have hres8:res=.error 23 := by
                rcases t8 with ⟨m,h1,h2⟩ | ⟨e,h1,_⟩
                · cases h1; rw [h2]; exact if_neg htp
                · cases h1
              simp [lk_cons]
              refine sfail_c hrF (e := 23) (by decide) _ fun σ9 g1 g2 g3=>?_
              have mA9 := (g3 A (by omega)).trans mAF
              simp [lk_cons]
              refine send_c g1 _ fun σ10 u2 u3=>?_
              have mA10 := (u3 A (by omega)).trans mA9
              unfold tpZ at mA10
              simp [lk_cons,sFail,sEnd,mA10,storeL,fillL]
              exact bad 23 σ10 (u2.trans g2) (fun a ha=>(u3 a ha).trans (g3 a ha)) hres8
            | true =>
              have htp := hbb.1 rfl
              have hres8:res=.ok (⟨ep,last,t,s.map (·.1),Tb⟩,l8) := by
                rcases t8 with ⟨m,h1,h2⟩ | ⟨e,h1,_⟩
                · cases h1; rw [h2]; exact if_pos htp
                · cases h1
              simp [lk_cons]
              refine send_c hrF _ fun σ10 u2 u3=>?_
              have mA10 := (u3 A (by omega)).trans mAF
              have mT10 := (u3 (A+1+1) (by omega)).trans mF
              unfold tpZ at mA10
              have gr:∀ B,Grow σ ⟨σ10.mem.set A B,σ10.next⟩ := fun B=>⟨by show σ.next≤σ10.next; omega,fun a ha=>by
                simp [show ¬ a=A by omega]
                exact (u3 a (by omega)).trans ((kF a (by omega)).trans ((k8 a (by omega) (by omega)).trans (kσ7 a (by omega))))⟩
              cases l8 with
              | nil =>
                have w1 := gtF.one.1
                have w2 := gsF.one.1
                simp [lk_cons,sEnd,mA10,mT10,storeL,onv,w1,w2]
                refine hQ _ 0 _ (.inr (.inr ⟨⟨ep,last,t,s.map (·.1),Tb⟩,v5,v7,nv,b,b7,bn,s,hres.trans hres8,rfl,gtF.keep (by show F.next≤σ10.next; omega) fun a ha hab=>?_,gsF.keep (by show F.next≤σ10.next; omega) fun a ha hab=>?_,rfl,fun p hp=>⟨HOut.mono (lo := σ6.next) ((goF p hp).1.frame (by show F.next≤σ10.next; omega) fun a ha hb=>?_) (by omega),(goF p hp).2⟩,gnF.keep (by show F.next≤σ10.next; omega) fun a ha hab=>?_,rfl⟩)) (gr _)
                · have := hb6 a hab; simp [show ¬ a=A by omega]; exact u3 a (by omega)
                · have := hb7' a hab; simp [show ¬ a=A by omega]; exact u3 a (by omega)
                · simp [show ¬ a=A by omega]; exact u3 a (by omega)
                · have := hbn a hab; simp [show ¬ a=A by omega]; exact u3 a (by omega)
              | cons y8 l8 =>
                simp [lk_cons,sEnd,mA10,storeL,fillL]
                exact hQ _ 5 _ (.inr (.inl ⟨_,_,hres.trans hres8,by simp,rfl,rfl⟩)) (gr _)
          · have he0':¬ (e8:Int)=0 := by omega
            obtain rfl:s8=.error e8 := by
              rcases he8 with ⟨h,_⟩ | ⟨_,h⟩
              · exact absurd h he0
              · exact h
            have hres8:res=.error e8 := by
              rcases t8 with ⟨m,h1,_⟩ | ⟨e,h1,h2⟩
              · cases h1
              · cases h1; exact h2
            simp [lk_cons,hm8',he0,he0']
            refine send_c hrF _ fun σ10 u2 u3=>?_
            have mA10 := (u3 A (by omega)).trans mAF
            unfold tpZ at mA10
            simp [lk_cons,sEnd,he0,he0',mA10,storeL,fillL]
            exact bad e8 σ10 u2 u3 hres8
end Go.Proofs.YticefdfhcahlfaaGreatDoor.AM

namespace Go.Proofs.YticefdfhcahlfaaGreatDoor.AM
open Go.RowKit
set_option maxRecDepth 100000
set_option linter.unusedVariables false
set_option linter.unusedSimpArgs false
structure MT (lo:Nat) (σ:St) (last:Nat) (t:List Ld) (s:List SbP) (T:Tbl) (lv sv nv:AVal) (bs bn:Option Nat):Prop where
  ml:LOut lo σ lv t
  ms:GS rwS σ sv s bs
  mn:GS rwL σ nv T bn
  nb:∀ x,bs=some x→bn≠some x
  lost:∀ x,bs=some x∨bn=some x→lo≤x
  ok:Mk t
  sm:∀ p∈s,Sm p.1∧HI p.2.1 p.1.h
  s2:s.length≤2
  tl:T.length≤16
  ln:∀ x∈T,LnOk x
  lb:last<18446744073709551616
def MsJ (p q:Nat) (sv:AVal) (s:List SbV) (S:St) (mm:Nat) (rg:Regs) (σ':St):Prop := ∃ (i:Nat) (v:AVal) (l:List SbP) (b:Option Nat),mm=s.length - i∧i≤s.length∧GS rwS σ' v l b∧l.length≤i∧l.length≤2∧(∀ x∈l,Sm x.1∧HI x.2.1 x.1.h)∧BStp none b S σ'∧rg=[(3,.ptr p 0),(6,.ptr q 0),(8,v),(36,sv),(37,i64 s.length),(38,i64 i)]
def MlJ (p q:Nat) (sv nv:AVal) (T:Tbl) (S:St) (mm:Nat) (rg:Regs) (σ':St):Prop := ∃ (i:Nat) (v:AVal) (l:Tbl) (b:Option Nat),mm=T.length - i∧i≤T.length∧GS rwL σ' v l b∧l.length≤i∧l.length≤16∧(∀ x∈l,LnOk x)∧BStp none b S σ'∧rg=[(3,.ptr p 0),(6,.ptr q 0),(8,sv),(11,v),(63,nv),(64,i64 T.length),(65,i64 i)]
set_option maxHeartbeats 4000000 in
theorem made_c {σ:St} {lv sv nv d:AVal} {l:List UInt8} {t:List Ld} {s:List SbV} {cs:List AVal} {T:Tbl} {ep last:Nat} (hlv:lv.one=true∧cellsOf lv=[lv]) (hs:Rd 5 σ sv s.length cs) (hI:SbI cs s) (hn:Rd 5 σ nv T.length (rws rwL T)) (hsl:s.length≤1000) (hTl:T.length≤1000) (hsb:∀ x∈s,(In64 x.ml∧In64 x.me)∧x.kind<256∧HArg x.h) (hT:∀ x∈T,LnOk x) (hlast:last<18446744073709551616) (hd:BytesOf d l) (hl:l.length≤9223372036854775806) (op:Bool) (Q:AVal→St→Prop)
    (hQ:∀ last' t' s' T' lv' sv' nv' bs bn σ',MT σ.next σ' last' t' s' T' lv' sv' nv' bs bn→Grow σ σ'→Q (.agg [u64 (ep:Int),u64 (last':Int),lv',sv',nv']) σ'):ACall Tryz.prog 7 [.agg [u64 (ep:Int),u64 (last:Int),lv,sv,nv],d,.bool op] σ Q := by
  refine ACall.of_compF hmx (fun a w=>Tryz.call7 a w) Tryz.func7 cf7 (n := 3) (by decide) rfl ?_
  obtain ⟨o1,o2⟩ := hlv
  obtain ⟨o3,o4⟩ := hs.one
  obtain ⟨o5,o6⟩ := hn.one
  simp only [ac7,rs7]
  simp [lk_cons,o1,o2,o3,o4,o5,o6]
  obtain ⟨S,hS⟩:∃ S:St,S=⟨(σ.mem.set σ.next (.cells 5 [u64 (ep:Int),u64 (last:Int),lv,sv,nv])).set (σ.next+1) (.cells 5 [.int .u64 0,.int .u64 0,.nilsl,.nilsl,.nilsl]),σ.next+1+1⟩ := ⟨_,rfl⟩
  have gS:Grow σ S := ⟨by rw [hS]; show σ.next≤σ.next+1+1; omega,fun a ha=>by rw [hS]; simp [show ¬ a=σ.next by omega,show ¬ a=σ.next+1 by omega]⟩
  have nS:S.next=σ.next+2 := by rw [hS]
  have mS:S.mem.get σ.next=some (.cells 5 [u64 (ep:Int),u64 (last:Int),lv,sv,nv]) := by rw [hS]; simp
  have mS2:S.mem.get (σ.next+1)=some (.cells 5 [.int .u64 0,.int .u64 0,.nilsl,.nilsl,.nilsl]) := by rw [hS]; simp
  try rw [← hS]
  refine made13_w hd hl op S _ fun lv' t' σ1 h1 hmk g1=>?_
  have m1 := (g1.2 σ.next (by omega)).trans mS
  have m1q := (g1.2 (σ.next+1) (by omega)).trans mS2
  have n1 := g1.1
  have ho1:lv'.one=true∧cellsOf lv'=[lv'] := by
    rcases h1 with ⟨rfl,_⟩ | ⟨o,rfl,_⟩ <;> simp
  obtain ⟨q1,q2⟩ := ho1
  have hlen := h1.len
  simp [lk_cons,m1,storeL,q1,q2,↓hlen]
  obtain ⟨S1,hS1⟩:∃ S1:St,S1=⟨σ1.mem.set σ.next (.cells 5 [u64 (ep:Int),u64 (last:Int),lv',sv,nv]),σ1.next⟩ := ⟨_,rfl⟩
  have nS1:S1.next=σ1.next := by rw [hS1]
  have mS1:S1.mem.get σ.next=some (.cells 5 [u64 (ep:Int),u64 (last:Int),lv',sv,nv]) := by rw [hS1]; simp
  have kS1:∀ a,a≠σ.next→S1.mem.get a=σ1.mem.get a := fun a ha=>by rw [hS1]; simp [ha]
  rw [← hS1]
  have hO1:LOut (σ.next+2) S1 lv' t' := by
    rcases h1 with h | ⟨o,h0,h1,h2,h3,h4⟩
    · exact .inl h
    · exact .inr ⟨o,h0,h1,by omega,by omega,(kS1 o (by omega)).trans h4⟩
  refine condK_mid (fun rg s=>∃ last2:Nat,last2<18446744073709551616∧s.next=S1.next∧s.mem.get σ.next=some (.cells 5 [u64 (ep:Int),u64 (last2:Int),lv',sv,nv])∧(∀ a,a≠σ.next→s.mem.get a=S1.mem.get a)∧rg.lookup 3=some (.ptr σ.next 0)∧rg.lookup 6=some (.ptr (σ.next+1) 0)) ?_ ?_
  · by_cases h0:0<t'.length
    · have w1:IntKind.i64.wrap ((t'.length:Int) - 1)=((t'.length - 1:Nat):Int) := by have := hmk.1; rw [IntWalk.i64_in] <;> omega
      obtain ⟨x,hx⟩:∃ x,t'[t'.length - 1]?=some x := ⟨_,List.getElem?_eq_getElem (by omega)⟩
      have hxm := (hmk.2.2 x (List.mem_of_getElem? hx)).1
      obtain ⟨P,p1,p2,pf⟩ := hO1.rd.at (show t'.length - 1<t'.length by omega) (ρ := S1) (fun _ _=>rfl)
      obtain ⟨P0,f1,_,f2⟩ := pf 0 1 (by decide)
      have f2 := f2 _ (by decide) (ldc_take hx).2.1
      simp [lk_cons,h0,mS1,w1,↓p1,↓f1,↓f2,storeL]
      by_cases hc:(last:Int)<x.f0
      · rw [if_pos hc]
        exact ⟨x.f0.toNat,by omega,by congr 1; omega,fun a h1 h2=>absurd h2 h1⟩
      · rw [if_neg hc]
        exact ⟨last,hlast,rfl,fun a h1 h2=>absurd h2 h1⟩
    · simp [lk_cons,h0]
      exact ⟨last,hlast,mS1⟩
  rintro rg W ⟨last2,hl2,sn,sm,sk,r3,r6⟩
  have hO2:LOut (σ.next+2) W lv' t' := by
    rcases hO1 with h | ⟨o,h0,h1,h2,h3,h4⟩
    · exact .inl h
    · exact .inr ⟨o,h0,h1,h2,by omega,(sk o (by omega)).trans h4⟩
  have gs:∀ a,a<σ.next→W.mem.get a=σ.mem.get a := fun a ha=>(sk a (by omega)).trans ((kS1 a (by omega)).trans ((g1.2 a (by omega)).trans (gS.2 a ha)))
  have smq:W.mem.get (σ.next+1)=some (.cells 5 [.int .u64 0,.int .u64 0,.nilsl,.nilsl,.nilsl]) := (sk _ (by omega)).trans ((kS1 _ (by omega)).trans m1q)
  have nW:σ.next+2≤W.next := by omega
  have hss := hs.frame (σ' := W) (by omega) gs
  have hnn := hn.frame (σ' := W) (by omega) gs
  have l1 := hs.len
  have l2 := hn.len
  simp [lk_cons,r3,r6,sm,↓l1]
  refine wp_loop (MsJ σ.next (σ.next+1) sv s W) s.length ?_ ?_
  · exact ⟨0,.nilsl,[],none,rfl,Nat.zero_le _,GS.nil _,by simp,by simp,by simp,BStp.refl none W,rfl⟩
  rintro mm rg σ2 ⟨i,v2,l2s,b2,rfl,hi,h2,hl2i,hl22,hm2,t2,rfl⟩
  have g2 := t2.grow0
  have n2 := g2.1
  by_cases hlt:i<s.length
  · obtain ⟨x,hx⟩:∃ x,s[i]?=some x := ⟨_,List.getElem?_eq_getElem hlt⟩
    have hxb := hsb x (List.mem_of_getElem? hx)
    have w1:IntKind.i64.wrap ((i:Int)+1)=((i+1:Nat):Int) := by rw [IntWalk.i64_in] <;> omega
    obtain ⟨p,p1,p2,_⟩ := hss.at hlt (ρ := σ2) g2.2
    obtain ⟨hv,c1,c2⟩ := hI.get hx
    rw [c2] at p2
    simp only [sbA] at p2
    have hv1 := c1.one
    obtain ⟨S2,hS2⟩:∃ S:St,S=⟨(σ2.mem.set σ2.next (.cells 5 [.str ⟨#[]⟩,.int .u8 0,.int .u64 0,.int .u64 0,.nilsl])).set σ2.next (.cells 5 [.str x.name,.int .u8 (x.kind:Int),u64 x.ml,u64 x.me,hv]),σ2.next+1⟩ := ⟨_,rfl⟩
    have gS2:Grow σ2 S2 := ⟨by rw [hS2]; exact Nat.le_succ _,fun a ha=>by rw [hS2]; simp [show ¬ a=σ2.next by omega]⟩
    have nS2:S2.next=σ2.next+1 := by rw [hS2]
    have mS2:S2.mem.get σ2.next=some (.cells 5 [.str x.name,.int .u8 (x.kind:Int),u64 x.ml,u64 x.me,hv]) := by rw [hS2]; simp
    by_cases h2i:i<2
    · have h2i':(i:Int)<2 := by omega
      have wa:IntKind.i64.wrap (97+(i:Int))=97+(i:Int) := by rw [IntWalk.i64_in] <;> omega
      have wb:IntKind.u8.wrap (97+(i:Int))=97+(i:Int) := by rw [IntWalk.u8_in]; omega
      obtain ⟨S3,hS3⟩:∃ S:St,S=⟨((σ2.mem.set σ2.next (.cells 5 [.str ⟨#[]⟩,.int .u8 0,.int .u64 0,.int .u64 0,.nilsl])).set σ2.next (.cells 5 [.str x.name,.int .u8 (x.kind:Int),u64 x.ml,u64 x.me,hv])).set (σ2.next+1) (.cells 1 [.int .u8 (97+(i:Int))]),σ2.next+1+1⟩ := ⟨_,rfl⟩
      have gS3:Grow S2 S3 := ⟨by rw [hS2,hS3]; exact Nat.le_succ _,fun a ha=>by rw [hS3,hS2]; simp [show ¬ a=σ2.next+1 by rw [hS2] at ha; exact Nat.ne_of_lt ha]⟩
      have nS3:S3.next=σ2.next+2 := by rw [hS3]
      have mS3 := (gS3.2 _ (by omega)).trans mS2
      obtain ⟨nb,hnb⟩:∃ nb:UInt8,nb=UInt8.ofNat (97+i) := ⟨_,rfl⟩
      have hnb2:(nb.toNat:Int)=97+(i:Int) := by rw [hnb]; simp; omega
      have e3 := (RdB.ofGS (σ := S3) (v := .sl (σ2.next+1) 0 1 1 true) (l := [nb]) (b := some (σ2.next+1)) (.inr ⟨σ2.next+1,true,rfl,rfl,by omega,by rw [hS3]; simp [rwsB,bytesV,hnb2]⟩)).str
      have e3s := e3
      rw [hS3] at e3
      have e4:Int.tmod (x.kind:Int) 4=(x.kind:Int) % 4 := Int.tmod_eq_emod_of_nonneg (by omega)
      have wk:IntKind.u8.wrap (1+(x.kind:Int) % 4)=((1+x.kind % 4:Nat):Int) := by rw [IntWalk.u8_in] <;> omega
      simp [lk_cons,hlt,↓p1,↓p2,storeL,hv1,h2i,h2i',fillL,repL,wa,wb,↓e3,e4,wk]
      rw [← hS3]
      refine right14_c c1 hxb.2.2 x.ml x.me false ⟨⟨hxb.1.1.1,by have := hxb.1.1.2; omega⟩,hxb.1.2.1,by have := hxb.1.2.2; omega⟩ S3 _ fun ml' me' hv' H' hml hme hH hC h7 h14=>?_
      have k1 := hH.one.1
      have k2 := hH.one.2
      obtain ⟨hsm,hfew⟩ := HSm.ofC hC h7 h14
      obtain ⟨pp,hpp⟩:∃ pp:SbP,pp=(⟨⟨[nb].toArray⟩,1+x.kind % 4,ml',me',H'⟩,⟨hv',k1⟩) := ⟨_,rfl⟩
      have hppA:rwS.a pp=[.str ⟨[nb].toArray⟩,.int .u8 ((1+x.kind % 4:Nat):Int),u64 ml',u64 me',hv'] := by rw [hpp]; rfl
      have hg3 := gS2.trans gS3
      have g4:GS rwS ⟨S3.mem.set S3.next (.cells 5 (rwS.a pp)),S3.next+1⟩ v2 l2s b2 := (h2.grow hg3).keep (by simp) fun a ha _=>by simp [show ¬ a=S3.next by omega]
      obtain ⟨σ4,f1,f2,f3,f4⟩ := gs_app1 g4 (nb := S3.next) (by_ := 64) (t := true) (x := pp) (by decide) (by simp) (fun e=>by have := h2.lt e; omega) (by omega) (by omega)
      rw [hppA] at f1
      push_cast at f1
      simp [lk_cons,mS3,↓e3s,e4,wk,k1,k2,storeL,fillL,repL,↓f1,w1]
      refine ⟨s.length - (i+1),by omega,i+1,_,l2s++[pp],some (S3.next+1),rfl,by omega,f2,by simp; omega,by simp; omega,fun y hy=>?_,(t2.trans (BStp.ofG b2 hg3)).trans ⟨by rw [f3]; show _≤S3.next+1+1; omega,fun z hz=>?_,fun a ha hb=>?_⟩,by simp⟩
      · rcases List.mem_append.1 hy with hy | hy
        · exact hm2 y hy
        · rw [List.mem_singleton.1 hy,hpp]
          exact ⟨⟨by show 1≤200; omega,by show 1+x.kind % 4<256; omega,⟨⟨hml.1,by show ml'<_; omega⟩,hme.1,by show me'<_; omega⟩,hsm,hfew⟩,hH⟩
      · cases hz; exact .inr (by omega)
      · rw [f4 a (by show a<S3.next+1; omega) hb]
        simp [show ¬ a=S3.next by omega]
    · have h2i':¬ (i:Int)<2 := by omega
      simp [lk_cons,hlt,↓p1,↓p2,storeL,hv1,h2i,h2i',w1]
      rw [← hS2]
      exact ⟨s.length - (i+1),by omega,i+1,v2,l2s,b2,rfl,by omega,h2.grow gS2,by omega,hl22,hm2,t2.trans (BStp.ofG b2 gS2),rfl⟩
  have:i=s.length := by omega
  subst this
  have m2 := (g2.2 σ.next (by omega)).trans sm
  have m2q := (g2.2 (σ.next+1) (by omega)).trans smq
  simp [lk_cons,m2,↓l2]
  have nb2:∀ x,b2=some x→W.next≤x∧x<σ2.next := fun x hx=>⟨(t2.own x hx).resolve_left (by simp),h2.lt hx⟩
  have hn2 := hnn.frame (σ' := σ2) n2 g2.2
  refine wp_loop (MlJ σ.next (σ.next+1) v2 nv T σ2) T.length ?_ ?_
  · exact ⟨0,.nilsl,[],none,rfl,Nat.zero_le _,GS.nil _,by simp,by simp,by simp,BStp.refl none σ2,rfl⟩
  rintro mm rg σ3 ⟨i,v3,l3,b3,rfl,hi,h3,hl3i,hl316,hm3,t3,rfl⟩
  have g3 := t3.grow0
  have n3 := g3.1
  by_cases hlt:i<T.length
  · obtain ⟨⟨xn,x1,x2,xa,xb⟩,hx⟩:∃ x,T[i]?=some x := ⟨_,List.getElem?_eq_getElem hlt⟩
    have hxm := hT _ (List.mem_of_getElem? hx)
    have w1:IntKind.i64.wrap ((i:Int)+1)=((i+1:Nat):Int) := by rw [IntWalk.i64_in] <;> omega
    obtain ⟨p,p1,p2,_⟩ := hn2.at hlt (ρ := σ3) g3.2
    have row:((rws rwL T).drop (i*5)).take 5=[.str xn,u64 (x1:Int),u64 (x2:Int),u64 (xa:Int),u64 (xb:Int)] := rws_at rwL hx
    rw [row] at p2
    obtain ⟨S2,hS2⟩:∃ S:St,S=⟨(σ3.mem.set σ3.next (.cells 5 [.str ⟨#[]⟩,.int .u64 0,.int .u64 0,.int .u64 0,.int .u64 0])).set σ3.next (.cells 5 [.str xn,u64 (x1:Int),u64 (x2:Int),u64 (xa:Int),u64 (xb:Int)]),σ3.next+1⟩ := ⟨_,rfl⟩
    have gS2:Grow σ3 S2 := ⟨by rw [hS2]; exact Nat.le_succ _,fun a ha=>by rw [hS2]; simp [show ¬ a=σ3.next by omega]⟩
    have nS2:S2.next=σ3.next+1 := by rw [hS2]
    have mS2:S2.mem.get σ3.next=some (.cells 5 [.str xn,u64 (x1:Int),u64 (x2:Int),u64 (xa:Int),u64 (xb:Int)]) := by rw [hS2]; simp
    by_cases h2i:i<16
    · have h2i':(i:Int)<16 := by omega
      have wa:IntKind.i64.wrap (97+(i:Int))=97+(i:Int) := by rw [IntWalk.i64_in] <;> omega
      have wb:IntKind.u8.wrap (97+(i:Int))=97+(i:Int) := by rw [IntWalk.u8_in]; omega
      obtain ⟨S3,hS3⟩:∃ S:St,S=⟨((σ3.mem.set σ3.next (.cells 5 [.str ⟨#[]⟩,.int .u64 0,.int .u64 0,.int .u64 0,.int .u64 0])).set σ3.next (.cells 5 [.str xn,u64 (x1:Int),u64 (x2:Int),u64 (xa:Int),u64 (xb:Int)])).set (σ3.next+1) (.cells 1 [.int .u8 (97+(i:Int))]),σ3.next+1+1⟩ := ⟨_,rfl⟩
      have gS3:Grow S2 S3 := ⟨by rw [hS2,hS3]; exact Nat.le_succ _,fun a ha=>by rw [hS3,hS2]; simp [show ¬ a=σ3.next+1 by rw [hS2] at ha; exact Nat.ne_of_lt ha]⟩
      have nS3:S3.next=σ3.next+2 := by rw [hS3]
      have mS3 := (gS3.2 _ (by omega)).trans mS2
      obtain ⟨nb,hnb⟩:∃ nb:UInt8,nb=UInt8.ofNat (97+i) := ⟨_,rfl⟩
      have hnb2:(nb.toNat:Int)=97+(i:Int) := by rw [hnb]; simp; omega
      have e3 := (RdB.ofGS (σ := S3) (v := .sl (σ3.next+1) 0 1 1 true) (l := [nb]) (b := some (σ3.next+1)) (.inr ⟨σ3.next+1,true,rfl,rfl,by omega,by rw [hS3]; simp [rwsB,bytesV,hnb2]⟩)).str
      rw [hS3] at e3
      have e4:Int.tmod (x2:Int) 100=(x2:Int) % 100 := Int.tmod_eq_emod_of_nonneg (by omega)
      have wk:IntKind.u64.wrap (1+(x2:Int) % 100)=((1+x2 % 100:Nat):Int) := by rw [IntWalk.u64_in] <;> omega
      have ad:abinS .add ⟨#[112]⟩ ⟨#[nb]⟩=some (.str ⟨#[112,nb]⟩) := by
        simp only [abinS]
        rw [if_neg (by show ¬ ((2:Nat):Int) > _; decide)]
        rfl
      obtain ⟨pp,hpp⟩:∃ pp:ByteArray×Ln,pp=(⟨#[112,nb]⟩,(1+x2 % 100,1+x2 % 100,xa,xb)) := ⟨_,rfl⟩
      have hppA:rwL.a pp=[.str ⟨#[112,nb]⟩,u64 ((1+x2 % 100:Nat):Int),u64 ((1+x2 % 100:Nat):Int),u64 (xa:Int),u64 (xb:Int)] := by rw [hpp]; rfl
      have hg3 := gS2.trans gS3
      have g4:GS rwL ⟨S3.mem.set S3.next (.cells 5 (rwL.a pp)),S3.next+1⟩ v3 l3 b3 := (h3.grow hg3).keep (by simp) fun a ha _=>by simp [show ¬ a=S3.next by omega]
      obtain ⟨σ4,f1,f2,f3,f4⟩ := gs_app1 g4 (nb := S3.next) (by_ := 48) (t := true) (x := pp) (by decide) (by simp) (fun e=>by have := h3.lt e; omega) (by omega) (by omega)
      rw [hppA] at f1
      push_cast at f1
      rw [hS3] at f1
      simp [lk_cons,hlt,↓p1,↓p2,storeL,h2i,h2i',fillL,repL,wa,wb,↓e3,e4,wk,w1,ad,↓f1]
      refine ⟨T.length - (i+1),by omega,i+1,_,l3++[pp],some (S3.next+1),rfl,by omega,by rw [hS3] at f2 ⊢; exact f2,by simp; omega,by simp; omega,fun y hy=>?_,(t3.trans (BStp.ofG b3 hg3)).trans ⟨by rw [f3]; show _≤S3.next+1+1; omega,fun z hz=>?_,fun a ha hb=>?_⟩,by simp⟩
      · rcases List.mem_append.1 hy with hy | hy
        · exact hm3 y hy
        · rw [List.mem_singleton.1 hy,hpp]
          exact ⟨by show 2≤1000; omega,by show 1+x2 % 100<_; omega,by show 1+x2 % 100<_; omega,hxm.2.2.2.1,hxm.2.2.2.2⟩
      · cases hz; exact .inr (by omega)
      · rw [f4 a (by show a<S3.next+1; omega) hb]
        simp [show ¬ a=S3.next by omega]
    · have h2i':¬ (i:Int)<16 := by omega
      simp [lk_cons,hlt,↓p1,↓p2,storeL,h2i,h2i',w1]
      rw [← hS2]
      exact ⟨T.length - (i+1),by omega,i+1,v3,l3,b3,rfl,by omega,h3.grow gS2,by omega,hl316,hm3,t3.trans (BStp.ofG b3 gS2),rfl⟩
  have:i=T.length := by omega
  subst this
  have m3 := (g3.2 σ.next (by omega)).trans m2
  have m3q := (g3.2 (σ.next+1) (by omega)).trans m2q
  have z0:¬ σ.next=σ.next+1 := by omega
  obtain ⟨k1,k2⟩ := h2.one
  obtain ⟨k3,k4⟩ := h3.one
  simp [lk_cons,m3,m3q,z0,k1,k2,k3,k4,q1,q2,storeL]
  have nb3:∀ x,b3=some x→σ2.next≤x∧x<σ3.next := fun x hx=>⟨(t3.own x hx).resolve_left (by simp),h3.lt hx⟩
  obtain ⟨F,hF⟩:∃ F:St,F=⟨((σ3.mem.set σ.next (.cells 5 [u64 (ep:Int),u64 (last2:Int),lv',v2,nv])).set σ.next (.cells 5 [u64 (ep:Int),u64 (last2:Int),lv',v2,v3])).set (σ.next+1) (.cells 5 [u64 (ep:Int),u64 (last2:Int),lv',v2,v3]),σ3.next⟩ := ⟨_,rfl⟩
  have nF:F.next=σ3.next := by rw [hF]
  have kF:∀ a,a≠σ.next→a≠σ.next+1→F.mem.get a=σ3.mem.get a := fun a h1 h2=>by rw [hF]; simp [h1,h2]
  rw [← hF]
  have g23 := g2.trans g3
  refine hQ last2 t' l2s l3 lv' v2 v3 b2 b3 F ⟨?_,?_,?_,fun x h1 h2=>?_,fun x h=>?_,hmk,hm2,hl22,hl316,hm3,hl2⟩ ⟨by omega,fun a ha=>(kF a (by omega) (by omega)).trans ((g23.2 a (by omega)).trans (gs a ha))⟩
  · rcases hO2 with h | ⟨o,h0,h1,h2,h3,h4⟩
    · exact .inl h
    · exact .inr ⟨o,h0,h1,by omega,by omega,(kF o (by omega) (by omega)).trans ((g23.2 o h3).trans h4)⟩
  · exact (h2.grow g3).keep (by omega) fun a ha hb=>kF a (by have := (nb2 a hb).1; omega) (by have := (nb2 a hb).1; omega)
  · exact h3.keep (by omega) fun a ha hb=>kF a (by have := (nb3 a hb).1; omega) (by have := (nb3 a hb).1; omega)
  · have := (nb2 x h1).2; have := (nb3 x h2).1; omega
  · rcases h with h | h
    · have := (nb2 x h).1; omega
    · have := (nb3 x h).1; omega
end Go.Proofs.YticefdfhcahlfaaGreatDoor.AM


