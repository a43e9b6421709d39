/- What the functions of this chapter give: their contracts over the machine. -/
import Derived.Test.YticefdfhcahlfaaGreatDoorCtx221
import Derived.Test.YticefdfhcahlfaaGreatDoorCt221
import Derived.Test.YticefdfhcahlfaaGreatDoorAm2
namespace Go.Proofs.YticefdfhcahlfaaGreatDoor.AM
open Go.RowKit
set_option maxRecDepth 100000
set_option linter.unusedVariables false
set_option linter.unusedSimpArgs false
def sLong (x:SbV):Prop := x.name.size≤200∧x.h.length≤40∧∀ y∈x.h,y.f1.length≤40
def NotLong (t:List Ld) (s:List SbV) (T:Tbl):Prop := t.length≤100∧s.length≤10∧T.length≤40∧(∀ x∈s,sLong x)∧∀ x∈T,x.1.size≤200
def L1J (p:Nat) (sv:AVal) (s:List SbV) (S:St) (mm:Nat) (rg:Regs) (σ':St):Prop := ∃ i:Nat,mm=s.length - i∧i≤s.length∧Grow S σ'∧(∀ x∈s.take i,sLong x)∧rg=[(1,.ptr p 0),(26,sv),(27,i64 s.length),(28,i64 i)]
def L2J (p i:Nat) (sv hv:AVal) (s:List SbV) (h:List Hd) (S:St) (mm:Nat) (rg:Regs) (σ':St):Prop := ∃ j:Nat,mm=h.length - j∧j≤h.length∧Grow S σ'∧(∀ x∈h.take j,x.f1.length≤40)∧rg=[(1,.ptr p 0),(26,sv),(27,i64 s.length),(28,i64 i),(45,hv),(46,i64 h.length),(47,i64 j)]
def L3J (nv:AVal) (T:Tbl) (S:St) (mm:Nat) (rg:Regs) (σ':St):Prop := ∃ i:Nat,mm=T.length - i∧i≤T.length∧Grow S σ'∧(∀ x∈T.take i,x.1.size≤200)∧rg=[(58,nv),(59,i64 T.length),(60,i64 i)]
theorem take_all {α:Type} {l:List α} {i:Nat} {x:α} {P:α→Prop} (hx:l[i]?=some x) (h:∀ y∈l.take i,P y) (hp:P x):∀ y∈l.take (i+1),P y := fun y hy=>by
  rw [List.take_add_one,hx] at hy
  rcases List.mem_append.1 hy with hy | hy
  · exact h y hy
  · simp at hy; exact hy ▸ hp
set_option maxHeartbeats 4000000 in
theorem long_c {σ:St} {lv sv nv:AVal} {t:List Ld} {s:List SbV} {cs:List AVal} {T:Tbl} {ep last:Nat} (hl:Rd 3 σ lv t.length (ldc t)) (hs:Rd 5 σ sv s.length cs) (hI:SbI cs s) (hn:Rd 5 σ nv T.length (rws rwL T)) (Q:AVal→St→Prop)
    (hy:Q (.bool true) σ) (hno:NotLong t s T→Q (.bool false) σ):ACall Tryz.prog 5 [.agg [u64 (ep:Int),u64 (last:Int),lv,sv,nv]] σ Q := by
  refine ACall.scrub ?_
  refine ACall.of_compF hmx (fun a w=>Tryz.call5 a w) Tryz.func5 cf5 (n := 1) (by decide) rfl ?_
  obtain ⟨o1,o2⟩ := hl.one
  obtain ⟨o3,o4⟩ := hs.one
  obtain ⟨o5,o6⟩ := hn.one
  have l1 := hl.len
  have l2 := hs.len
  have l3 := hn.len
  simp only [ac5,rs5]
  obtain ⟨S,hS⟩:∃ S:St,S=⟨σ.mem.set σ.next (.cells 5 [u64 (ep:Int),u64 (last:Int),lv,sv,nv]),σ.next+1⟩ := ⟨_,rfl⟩
  have gS:Grow σ S := ⟨by rw [hS]; exact Nat.le_succ _,fun a ha=>by rw [hS]; simp [show ¬ a=σ.next by omega]⟩
  have nS:S.next=σ.next+1 := by rw [hS]
  have mS:S.mem.get σ.next=some (.cells 5 [u64 (ep:Int),u64 (last:Int),lv,sv,nv]) := by rw [hS]; simp
  have stop:∀ {σ':St},Grow S σ'→(∀ a,a<σ.next→σ'.mem.get a=σ.mem.get a)∧Q (.bool true) σ := fun g=>⟨(gS.trans g).2,hy⟩
  by_cases c1:100<t.length
  · have c1':(100:Int)<t.length := by omega
    simp [lk_cons,o1,o2,o3,o4,o5,o6,↓l1,↓l2,↓l3,c1,c1']
    rw [← hS]
    exact stop (Grow.refl S)
  have c1':¬ (100:Int)<t.length := by omega
  by_cases c2:10<s.length
  · have c2':(10:Int)<s.length := by omega
    simp [lk_cons,o1,o2,o3,o4,o5,o6,↓l1,↓l2,↓l3,c1,c1',c2,c2']
    rw [← hS]
    exact stop (Grow.refl S)
  have c2':¬ (10:Int)<s.length := by omega
  by_cases c3:40<T.length
  · have c3':(40:Int)<T.length := by omega
    simp [lk_cons,o1,o2,o3,o4,o5,o6,↓l1,↓l2,↓l3,c1,c1',c2,c2',c3,c3']
    rw [← hS]
    exact stop (Grow.refl S)
  have c3':¬ (40:Int)<T.length := by omega
  simp [lk_cons,o1,o2,o3,o4,o5,o6,↓l1,↓l2,↓l3,c1,c1',c2,c2',c3,c3']
  rw [← hS]
  refine wp_loop (L1J σ.next sv s S) s.length ?_ ?_
  · exact ⟨0,rfl,Nat.zero_le _,Grow.refl S,by simp,rfl⟩
  rintro mm rg σ1 ⟨i,rfl,hi,g1,a1,rfl⟩
  have G1 := gS.trans g1
  have n1 := g1.1
  have m1 := (g1.2 σ.next (by omega)).trans mS
  by_cases hlt:i<s.length
  · obtain ⟨x,hx⟩:∃ x,s[i]?=some x := ⟨_,List.getElem?_eq_getElem hlt⟩
    have w1:IntKind.i64.wrap ((i:Int)+1)=((i+1:Nat):Int) := by rw [IntWalk.i64_in] <;> omega
    obtain ⟨p,p1,p2,_⟩ := hs.at hlt (ρ := σ1) G1.2
    obtain ⟨hv,e1,e2⟩ := hI.get hx
    rw [e2] at p2
    simp only [sbA] at p2
    obtain ⟨hv1,hv2⟩ := e1.one
    have hl2 := e1.len
    obtain ⟨S2,hS2⟩:∃ S:St,S=⟨(σ1.mem.set σ1.next (.cells 5 [.str ⟨#[]⟩,.int .u8 0,.int .u64 0,.int .u64 0,.nilsl])).set σ1.next (.cells 5 [.str x.name,.int .u8 (x.kind:Int),u64 x.ml,u64 x.me,hv]),σ1.next+1⟩ := ⟨_,rfl⟩
    have gS2:Grow σ1 S2 := ⟨by rw [hS2]; exact Nat.le_succ _,fun a ha=>by rw [hS2]; simp [show ¬ a=σ1.next by omega]⟩
    have nS2:S2.next=σ1.next+1 := by rw [hS2]
    by_cases d1:200<x.name.size
    · have d1':(200:Int)<x.name.size := by omega
      simp [lk_cons,hlt,↓p1,↓p2,storeL,hv1,d1,d1']
      rw [← hS2]
      exact stop (g1.trans gS2)
    have d1':¬ (200:Int)<x.name.size := by omega
    by_cases d2:40<x.h.length
    · have d2':(40:Int)<x.h.length := by omega
      simp [lk_cons,hlt,↓p1,↓p2,storeL,hv1,d1,d1',↓hl2,d2,d2']
      rw [← hS2]
      exact stop (g1.trans gS2)
    have d2':¬ (40:Int)<x.h.length := by omega
    simp [lk_cons,hlt,↓p1,↓p2,storeL,hv1,d1,d1',↓hl2,d2,d2']
    rw [← hS2]
    refine wp_loop (L2J σ.next i sv hv s x.h S2) x.h.length ?_ ?_
    · exact ⟨0,rfl,Nat.zero_le _,Grow.refl S2,by simp,rfl⟩
    rintro mm rg σ3 ⟨j,rfl,hj,g3,a3,rfl⟩
    have G3 := (g1.trans gS2).trans g3
    by_cases hlt2:j<x.h.length
    · obtain ⟨z,hz⟩:∃ z,x.h[j]?=some z := ⟨_,List.getElem?_eq_getElem hlt2⟩
      have w2:IntKind.i64.wrap ((j:Int)+1)=((j+1:Nat):Int) := by rw [IntWalk.i64_in] <;> omega
      obtain ⟨p',r',hr',q1,q2,_,_⟩ := e1.at hz σ3
      have l4 := (hr'.m σ3).len
      have r1 := hr'.one.1
      obtain ⟨S4,hS4⟩:∃ S:St,S=⟨(σ3.mem.set σ3.next (.cells 2 [.int .u64 0,.nilsl])).set σ3.next (.cells 2 [u64 z.f0,r']),σ3.next+1⟩ := ⟨_,rfl⟩
      have gS4:Grow σ3 S4 := ⟨by rw [hS4]; exact Nat.le_succ _,fun a ha=>by rw [hS4]; simp [show ¬ a=σ3.next by omega]⟩
      by_cases d3:40<z.f1.length
      · have d3':(40:Int)<z.f1.length := by omega
        simp [lk_cons,hlt2,↓q1,↓q2,storeL,r1,↓l4,d3,d3']
        rw [← hS4]
        exact stop (G3.trans gS4)
      have d3':¬ (40:Int)<z.f1.length := by omega
      simp [lk_cons,hlt2,↓q1,↓q2,storeL,r1,↓l4,d3,d3',w2]
      rw [← hS4]
      exact ⟨x.h.length - (j+1),by omega,j+1,rfl,by omega,g3.trans gS4,take_all hz a3 (by omega),rfl⟩
    have:j=x.h.length := by omega
    rw [this,List.take_length] at a3
    subst this
    simp [lk_cons,w1]
    exact ⟨s.length - (i+1),by omega,i+1,rfl,by omega,G3,take_all hx a1 ⟨by omega,by omega,a3⟩,rfl⟩
  have:i=s.length := by omega
  subst this
  rw [List.take_length] at a1
  simp [lk_cons,m1,↓l3]
  refine wp_loop (L3J nv T σ1) T.length ?_ ?_
  · exact ⟨0,rfl,Nat.zero_le _,Grow.refl σ1,by simp,rfl⟩
  rintro mm rg σ3 ⟨i,rfl,hi,g3,a3,rfl⟩
  have G3 := g1.trans g3
  by_cases hlt:i<T.length
  · obtain ⟨⟨xn,x1,x2,xa,xb⟩,hx⟩:∃ x,T[i]?=some x := ⟨_,List.getElem?_eq_getElem hlt⟩
    have w1:IntKind.i64.wrap ((i:Int)+1)=((i+1:Nat):Int) := by rw [IntWalk.i64_in] <;> omega
    obtain ⟨p,p1,p2,_⟩ := hn.at hlt (ρ := σ3) (gS.trans G3).2
    have row:((rws rwL T).drop (i*5)).take 5=[.str xn,u64 (x1:Int),u64 (x2:Int),u64 (xa:Int),u64 (xb:Int)] := rws_at rwL hx
    rw [row] at p2
    obtain ⟨S4,hS4⟩:∃ S:St,S=⟨(σ3.mem.set σ3.next (.cells 5 [.str ⟨#[]⟩,.int .u64 0,.int .u64 0,.int .u64 0,.int .u64 0])).set σ3.next (.cells 5 [.str xn,u64 (x1:Int),u64 (x2:Int),u64 (xa:Int),u64 (xb:Int)]),σ3.next+1⟩ := ⟨_,rfl⟩
    have gS4:Grow σ3 S4 := ⟨by rw [hS4]; exact Nat.le_succ _,fun a ha=>by rw [hS4]; simp [show ¬ a=σ3.next by omega]⟩
    by_cases d3:200<xn.size
    · have d3':(200:Int)<xn.size := by omega
      simp [lk_cons,hlt,↓p1,↓p2,storeL,d3,d3']
      rw [← hS4]
      exact stop (G3.trans gS4)
    have d3':¬ (200:Int)<xn.size := by omega
    simp [lk_cons,hlt,↓p1,↓p2,storeL,d3,d3',w1]
    rw [← hS4]
    exact ⟨T.length - (i+1),by omega,i+1,rfl,by omega,g3.trans gS4,take_all hx a3 (by show xn.size≤200; omega),rfl⟩
  have:i=T.length := by omega
  rw [this,List.take_length] at a3
  subst this
  simp [lk_cons]
  exact ⟨(gS.trans G3).2,hno ⟨by omega,by omega,by omega,a1,a3⟩⟩
end Go.Proofs.YticefdfhcahlfaaGreatDoor.AM

namespace Go.Proofs.YticefdfhcahlfaaGreatDoor.AM
open Go.RowKit
set_option maxRecDepth 100000
set_option linter.unusedVariables false
set_option linter.unusedSimpArgs false
structure TS (σ:St) (ep last:Nat) (t:List Ld) (s:List SbV) (T:Tbl) (lv sv nv:AVal) (cs:List AVal):Prop where
  rl:Rd 3 σ lv t.length (ldc t)
  rs:Rd 5 σ sv s.length cs
  si:SbI cs s
  rn:Rd 5 σ nv T.length (rws rwL T)
  tl:t.length≤100
  tb:∀ x∈t,In64 x.f0∧In64 x.f2
  sl:s.length≤10
  sm:∀ x∈s,Sm x
  nl:T.length≤200
  nb:∀ x∈T,LnOk x
  be:ep<18446744073709551616∧last<18446744073709551616
theorem MT.ts {lo:Nat} {σ:St} {ep last:Nat} {t:List Ld} {s:List SbP} {T:Tbl} {lv sv nv:AVal} {bs bn:Option Nat} (h:MT lo σ last t s T lv sv nv bs bn) (he:ep<18446744073709551616):TS σ ep last t (s.map (·.1)) T lv sv nv (rws rwS s) := by
  have h1 := h.ok.1
  have h2 := h.s2
  have h3 := h.tl
  refine ⟨h.ml.rd,by simpa using h.ms.rd,sbI_rws fun p hp=>(h.sm p hp).2,h.mn.rd,by omega,fun x hx=>?_,by simp; omega,fun x hx=>?_,by omega,h.ln,he,h.lb⟩
  · have := h.ok.2.2 x hx
    exact ⟨⟨by omega,by omega⟩,by omega,by omega⟩
  · obtain ⟨p,hp,rfl⟩ := List.mem_map.1 hx
    exact (h.sm p hp).1
end Go.Proofs.YticefdfhcahlfaaGreatDoor.AM

namespace Go.Proofs.YticefdfhcahlfaaGreatDoor.AM
open Go.RowKit
set_option maxRecDepth 100000
set_option linter.unusedVariables false
set_option linter.unusedSimpArgs false
theorem hdsB_ge:∀ h:List Hd,10*h.length≤(hdsB h).length∧∀ x∈h,16*x.f1.length≤(hdsB h).length
  | []=>by simp
  | x :: h=>by
    obtain ⟨h1,h2⟩ := hdsB_ge h
    have h3 := rgsB_len x.f1
    have e:(hdsB (x :: h)).length=10+(rgsB x.f1).length+(hdsB h).length := by
      simp only [hdsB,List.map_cons,List.flatten_cons,List.length_append,hdB,beN_len]
    refine ⟨by rw [e,List.length_cons]; omega,fun y hy=>?_⟩
    rcases List.mem_cons.1 hy with rfl | hy
    · omega
    · have := h2 y hy; omega
theorem sbsB_ge:∀ {s:List SbV} {x:SbV},x∈s→(hdsB x.h).length≤(sbsB s).length
  | y :: s,x,h=>by
    have e:(sbsB (y :: s)).length=(sbB y).length+(sbsB s).length := by simp [sbsB]
    rcases List.mem_cons.1 h with rfl | h
    · have:(hdsB x.h).length≤(sbB x).length := by
        simp only [sbB,cuB,List.length_append]; omega
      omega
    · have := sbsB_ge h; omega
end Go.Proofs.YticefdfhcahlfaaGreatDoor.AM

namespace Go.Proofs.YticefdfhcahlfaaGreatDoor.AM
open Go.RowKit
set_option maxRecDepth 100000
set_option linter.unusedVariables false
set_option linter.unusedSimpArgs false
theorem ts_few {σ:St} {ep last:Nat} {t:List Ld} {s:List SbV} {T:Tbl} {lv sv nv:AVal} {cs:List AVal} (h:TS σ ep last t s T lv sv nv cs):TpR σ lv sv t s cs∧TFew t s∧TBd ep last t s T∧(sbsB s).length≤400000 := by
  have h1 := h.tl
  have h2 := h.sl
  refine ⟨⟨h.rl,h.rs,h.si.c⟩,⟨by omega,fun x hx=>(h.tb x hx).2.1,by omega,fun x hx=>?_⟩,⟨h.tb,fun x hx=>⟨(h.sm x hx).hs,(h.sm x hx).num,(h.sm x hx).kind⟩,h.nb,h.nl,h.be⟩,?_⟩
  · have h3 := (h.sm x hx).few
    exact ⟨by omega,fun y hy=>by have := h3.2 y hy; omega⟩
  · have h3 := sm_sum h.sm
    omega
end Go.Proofs.YticefdfhcahlfaaGreatDoor.AM

namespace Go.Proofs.YticefdfhcahlfaaGreatDoor.AM
open Go.RowKit
set_option maxRecDepth 100000
set_option linter.unusedVariables false
set_option linter.unusedSimpArgs false
def LdArg (x:List AVal):Prop := (fun x=>∃ a b,x=a++b∧U64Arg a∧(fun x=>∃ a b,x=a++b∧(∃ q,a=[.bool q])∧U64Arg b) b) x
def LdsArg (b:List AVal):Prop := b=[.nilsl]∨∃ xs:List (List AVal),b=[.isl xs.flatten xs.length false]∧(∀ x∈xs,x.length=3∧LdArg x)∧xs.length≤9223372036854775807∧xs.length*24≤140737488351232
def RgsArg (b:List AVal):Prop := b=[.nilsl]∨∃ xs:List (List AVal),b=[.isl xs.flatten xs.length false]∧(∀ x∈xs,x.length=2∧PairArg x)∧xs.length≤9223372036854775807∧xs.length*16≤140737488351232
def HdArg (x:List AVal):Prop := (fun x=>∃ a b,x=a++b∧U64Arg a∧RgsArg b) x
def HdsArg (b:List AVal):Prop := b=[.nilsl]∨∃ xs:List (List AVal),b=[.isl xs.flatten xs.length false]∧(∀ x∈xs,x.length=2∧HdArg x)∧xs.length≤9223372036854775807∧xs.length*32≤140737488351232
def CurArg (x:List AVal):Prop := (fun x=>∃ a b,x=a++b∧PairArg a∧HdsArg b) x
def SbArg (x:List AVal):Prop := (fun x=>∃ a b,x=a++b∧StrArg a∧(fun x=>∃ a b,x=a++b∧U8Arg a∧CurArg b) b) x
def SbsArg (b:List AVal):Prop := b=[.nilsl]∨∃ xs:List (List AVal),b=[.isl xs.flatten xs.length false]∧(∀ x∈xs,x.length=5∧SbArg x)∧xs.length≤9223372036854775807∧xs.length*64≤140737488351232
def LnArg (x:List AVal):Prop := (fun x=>∃ a b,x=a++b∧StrArg a∧(fun x=>∃ a b,x=a++b∧U64Arg a∧(fun x=>∃ a b,x=a++b∧U64Arg a∧PairArg b) b) b) x
def LnsArg (b:List AVal):Prop := b=[.nilsl]∨∃ xs:List (List AVal),b=[.isl xs.flatten xs.length false]∧(∀ x∈xs,x.length=5∧LnArg x)∧xs.length≤9223372036854775807∧xs.length*48≤140737488351232
def TopicArg (us:List AVal):Prop := (fun x=>∃ a b,x=a++b∧U64Arg a∧(fun x=>∃ a b,x=a++b∧U64Arg a∧(fun x=>∃ a b,x=a++b∧LdsArg a∧(fun x=>∃ a b,x=a++b∧SbsArg a∧LnsArg b) b) b) b) us
theorem ldCells:∀ xs:List (List AVal),(∀ x∈xs,x.length=3∧LdArg x)→∃ t:List Ld,xs.flatten=ldc t∧t.length=xs.length∧∀ x∈t,In64 x.f0∧In64 x.f2
  | [],_=>⟨[],rfl,rfl,by simp⟩
  | x :: xs,h=>by
    obtain ⟨t,h1,h2,h3⟩ := ldCells xs fun y hy=>h y (by simp [hy])
    obtain ⟨_,_,_,rfl,⟨a,rfl,ha⟩,_,_,rfl,⟨q,rfl⟩,⟨b,rfl,hb⟩⟩ := h x (by simp)
    obtain ⟨a,rfl,ha'⟩ := wf_u64 ha
    obtain ⟨b,rfl,hb'⟩ := wf_u64 hb
    refine ⟨⟨a,q,b⟩ :: t,by simp [h1,ldc],by simp [h2],fun y hy=>?_⟩
    rcases List.mem_cons.1 hy with rfl | hy
    · exact ⟨⟨by show (0:Int)≤a; omega,by show (a:Int)<_; omega⟩,by show (0:Int)≤b; omega,by show (b:Int)<_; omega⟩
    · exact h3 y hy
theorem rgsCells:∀ xs:List (List AVal),(∀ x∈xs,x.length=2∧PairArg x)→∃ t:List S25,xs.flatten=rc t∧t.length=xs.length∧∀ x∈t,In64 x.f0∧In64 x.f1
  | [],_=>⟨[],rfl,rfl,by simp⟩
  | x :: xs,h=>by
    obtain ⟨t,h1,h2,h3⟩ := rgsCells xs fun y hy=>h y (by simp [hy])
    obtain ⟨_,_,_,rfl,⟨a,rfl,ha⟩,⟨b,rfl,hb⟩⟩ := h x (by simp)
    obtain ⟨a,rfl,ha'⟩ := wf_u64 ha
    obtain ⟨b,rfl,hb'⟩ := wf_u64 hb
    refine ⟨⟨a,b⟩ :: t,by simp [h1,rc],by simp [h2],fun y hy=>?_⟩
    rcases List.mem_cons.1 hy with rfl | hy
    · exact ⟨⟨by show (0:Int)≤a; omega,by show (a:Int)<_; omega⟩,by show (0:Int)≤b; omega,by show (b:Int)<_; omega⟩
    · exact h3 y hy
def HdOk (x:Hd):Prop := (0≤x.f0∧x.f0≤18446744073709551615)∧(∀ z∈x.f1,In64 z.f0∧In64 z.f1)∧x.f1.length≤9223372036854775806
theorem hdsCells:∀ xs:List (List AVal),(∀ x∈xs,x.length=2∧HdArg x)→∃ h:List Hd,HC xs.flatten h∧h.length=xs.length∧∀ x∈h,HdOk x
  | [],_=>⟨[],trivial,rfl,by simp⟩
  | x :: xs,h=>by
    obtain ⟨t,h1,h2,h3⟩ := hdsCells xs fun y hy=>h y (by simp [hy])
    obtain ⟨_,a,b,rfl,⟨n,rfl,hn⟩,hb⟩ := h x (by simp)
    obtain ⟨n,rfl,hn'⟩ := wf_u64 hn
    rcases hb with rfl | ⟨ys,rfl,hys,_,hyl⟩
    · exact ⟨⟨n,[]⟩ :: t,⟨rfl,.inl ⟨rfl,rfl⟩,h1⟩,by simp [h2],fun y hy=>by
        rcases List.mem_cons.1 hy with rfl | hy
        · exact ⟨⟨by show (0:Int)≤n; omega,by show (n:Int)≤_; omega⟩,fun z hz=>absurd hz List.not_mem_nil,by simp⟩
        · exact h3 y hy⟩
    · obtain ⟨l,e1,e2,e3⟩ := rgsCells ys hys
      exact ⟨⟨n,l⟩ :: t,⟨rfl,.inr ⟨false,by rw [e1,e2]⟩,h1⟩,by simp [h2],fun y hy=>by
        rcases List.mem_cons.1 hy with rfl | hy
        · exact ⟨⟨by show (0:Int)≤n; omega,by show (n:Int)≤_; omega⟩,e3,by show l.length≤_; omega⟩
        · exact h3 y hy⟩
theorem hdsArg {b:List AVal} (h:HdsArg b):∃ v h,b=[v]∧HI v h∧HArg h∧∀ y∈h,∀ z∈y.f1,In64 z.f0∧In64 z.f1 := by
  rcases h with h | ⟨xs,h,hx,_,hl⟩
  · exact ⟨_,[],h,.inl ⟨rfl,rfl⟩,⟨by simp,by simp⟩,by simp⟩
  · obtain ⟨t,h1,h2,h3⟩ := hdsCells xs hx
    exact ⟨_,t,h,.inr ⟨_,false,by rw [h2],h1⟩,⟨by omega,fun x hx=>⟨(h3 x hx).1,fun z hz=>by have := (h3 x hx).2.1 z hz; exact ⟨this.1.1,this.2.1,by have := this.2.2; omega⟩,(h3 x hx).2.2⟩⟩,fun y hy=>(h3 y hy).2.1⟩
theorem sbsCells:∀ xs:List (List AVal),(∀ x∈xs,x.length=5∧SbArg x)→∃ s:List SbV,SbI xs.flatten s∧s.length=xs.length∧∀ x∈s,(In64 x.ml∧In64 x.me)∧x.kind<256∧HArg x.h∧∀ y∈x.h,∀ z∈y.f1,In64 z.f0∧In64 z.f1
  | [],_=>⟨[],trivial,rfl,by simp⟩
  | x :: xs,h=>by
    obtain ⟨t,h1,h2,h3⟩ := sbsCells xs fun y hy=>h y (by simp [hy])
    obtain ⟨_,_,_,rfl,⟨nm,rfl,_⟩,_,_,rfl,⟨k,rfl,hk⟩,_,_,rfl,⟨_,_,rfl,⟨a,rfl,ha⟩,⟨b,rfl,hb⟩⟩,hh⟩ := h x (by simp)
    obtain ⟨a,rfl,ha'⟩ := wf_u64 ha
    obtain ⟨b,rfl,hb'⟩ := wf_u64 hb
    obtain ⟨k,rfl,hk'⟩ := wf_u8 hk
    obtain ⟨v,hd,rfl,e1,e2,e3⟩ := hdsArg hh
    refine ⟨⟨nm,k,a,b,hd⟩ :: t,⟨⟨rfl,rfl,rfl,rfl,e1⟩,h1⟩,by simp [h2],fun y hy=>?_⟩
    rcases List.mem_cons.1 hy with rfl | hy
    · exact ⟨⟨⟨by show (0:Int)≤a; omega,by show (a:Int)<_; omega⟩,by show (0:Int)≤b; omega,by show (b:Int)<_; omega⟩,hk',e2,e3⟩
    · exact h3 y hy
theorem lnCells:∀ xs:List (List AVal),(∀ x∈xs,x.length=5∧LnArg x)→∃ T:Tbl,xs.flatten=rws rwL T∧T.length=xs.length∧∀ x∈T,x.2.1<18446744073709551616∧x.2.2.1<18446744073709551616∧x.2.2.2.1<18446744073709551616∧x.2.2.2.2<18446744073709551616
  | [],_=>⟨[],rfl,rfl,by simp⟩
  | x :: xs,h=>by
    obtain ⟨t,h1,h2,h3⟩ := lnCells xs fun y hy=>h y (by simp [hy])
    obtain ⟨_,_,_,rfl,⟨nm,rfl,_⟩,_,_,rfl,⟨a,rfl,ha⟩,_,_,rfl,⟨b,rfl,hb⟩,⟨_,_,rfl,⟨c,rfl,hc⟩,⟨d,rfl,hd⟩⟩⟩ := h x (by simp)
    obtain ⟨a,rfl,ha'⟩ := wf_u64 ha
    obtain ⟨b,rfl,hb'⟩ := wf_u64 hb
    obtain ⟨c,rfl,hc'⟩ := wf_u64 hc
    obtain ⟨d,rfl,hd'⟩ := wf_u64 hd
    refine ⟨(nm,(a,b,c,d)) :: t,by rw [rws_cons,← h1]; rfl,by simp [h2],fun y hy=>?_⟩
    rcases List.mem_cons.1 hy with rfl | hy
    · exact ⟨ha',hb',hc',hd'⟩
    · exact h3 y hy
theorem topicArg {us:List AVal} (h:TopicArg us):∃ (ep last:Nat) (lv sv nv:AVal) (t:List Ld) (s:List SbV) (cs:List AVal) (T:Tbl),us=[u64 (ep:Int),u64 (last:Int),lv,sv,nv]∧Rd 3 σ0 lv t.length (ldc t)∧Rd 5 σ0 sv s.length cs∧SbI cs s∧Rd 5 σ0 nv T.length (rws rwL T)∧(∀ x∈t,In64 x.f0∧In64 x.f2)∧(∀ x∈s,(In64 x.ml∧In64 x.me)∧x.kind<256∧HArg x.h∧∀ y∈x.h,∀ z∈y.f1,In64 z.f0∧In64 z.f1)∧(∀ x∈T,x.2.1<18446744073709551616∧x.2.2.1<18446744073709551616∧x.2.2.2.1<18446744073709551616∧x.2.2.2.2<18446744073709551616)∧ep<18446744073709551616∧last<18446744073709551616 := by
  obtain ⟨_,_,rfl,⟨ep,rfl,he⟩,_,_,rfl,⟨last,rfl,hl⟩,_,_,rfl,h1,_,_,rfl,h2,h3⟩ := h
  obtain ⟨ep,rfl,he'⟩ := wf_u64 he
  obtain ⟨last,rfl,hl'⟩ := wf_u64 hl
  have p1:∀ {b:List AVal},LdsArg b→∃ v t,b=[v]∧Rd 3 σ0 v t.length (ldc t)∧∀ x∈t,In64 x.f0∧In64 x.f2 := fun h=>by
    rcases h with h | ⟨xs,h,hx,_,_⟩
    · exact ⟨_,[],h,⟨rfl,.inl ⟨rfl,rfl⟩⟩,by simp⟩
    · obtain ⟨t,e1,e2,e3⟩ := ldCells xs hx
      exact ⟨_,t,h,⟨ldc_len t,.inr (.inl ⟨false,by rw [e1,e2]⟩)⟩,e3⟩
  have p2:∀ {b:List AVal},SbsArg b→∃ v s cs,b=[v]∧Rd 5 σ0 v s.length cs∧SbI cs s∧∀ x∈s,(In64 x.ml∧In64 x.me)∧x.kind<256∧HArg x.h∧∀ y∈x.h,∀ z∈y.f1,In64 z.f0∧In64 z.f1 := fun h=>by
    rcases h with h | ⟨xs,h,hx,_,_⟩
    · exact ⟨_,[],[],h,⟨rfl,.inl ⟨rfl,rfl⟩⟩,trivial,by simp⟩
    · obtain ⟨t,e1,e2,e3⟩ := sbsCells xs hx
      exact ⟨_,t,_,h,⟨(e1.c (σ := σ0)).len,.inr (.inl ⟨false,by rw [e2]⟩)⟩,e1,e3⟩
  have p3:∀ {b:List AVal},LnsArg b→∃ v T,b=[v]∧Rd 5 σ0 v T.length (rws rwL T)∧∀ x∈T,x.2.1<18446744073709551616∧x.2.2.1<18446744073709551616∧x.2.2.2.1<18446744073709551616∧x.2.2.2.2<18446744073709551616 := fun h=>by
    rcases h with h | ⟨xs,h,hx,_,_⟩
    · exact ⟨_,[],h,⟨rfl,.inl ⟨rfl,rfl⟩⟩,by simp⟩
    · obtain ⟨t,e1,e2,e3⟩ := lnCells xs hx
      exact ⟨_,t,h,⟨rws_len _ t,.inr (.inl ⟨false,by rw [e1,e2]⟩)⟩,e3⟩
  obtain ⟨lv,t,rfl,a1,a2⟩ := p1 h1
  obtain ⟨sv,s,cs,rfl,b1,b2,b3⟩ := p2 h2
  obtain ⟨nv,T,rfl,c1,c2⟩ := p3 h3
  exact ⟨ep,last,lv,sv,nv,t,s,cs,T,rfl,a1,b1,b2,c1,a2,b3,c2,he',hl'⟩
end Go.Proofs.YticefdfhcahlfaaGreatDoor.AM

/- The law CodecReads. -/
namespace Go.Proofs.YticefdfhcahlfaaGreatDoor.AM
open Go.RowKit
set_option maxRecDepth 100000
set_option linter.unusedVariables false
set_option linter.unusedSimpArgs false

theorem EnRel.rd {ep last:Nat} {t:List Ld} {s:List SbV} {T:Tbl} {σ:St} {v:AVal} {c:Nat} (h:EnRel ep last t s T σ v c):∃ L b,RdB σ v L b∧L.length≤3840 := by
  rcases h with ⟨_,rfl,_⟩ | ⟨_,⟨_,rfl,_⟩ | ⟨_,⟨b,hb⟩,hle⟩⟩
  · exact ⟨[],none,RdB.ofI (.inl ⟨rfl,rfl⟩) σ,by simp⟩
  · exact ⟨[],none,RdB.ofI (.inl ⟨rfl,rfl⟩) σ,by simp⟩
  · exact ⟨_,b,RdB.ofGS hb,hle⟩
/-- Bytes to be read, few. -/
def RdA (σ:St) (v:AVal):Prop := ∃ L c,RdB σ v L c∧L.length≤10000
theorem RdA.grow {σ σ':St} {v:AVal} (h:RdA σ v) (g:Grow σ σ'):RdA σ' v := by
  obtain ⟨L,c,h1,h2⟩ := h
  exact ⟨L,c,h1.keep g.1 fun a ha _=>g.2 a ha,h2⟩
theorem tp_six {l:List UInt8} {x:Tp} (h:pTp l=.ok (x,[])) (hl:l.length≤10000):lnOkT x.T∧x.t.length≤1000000∧x.s.length≤1000000∧x.T.length≤1000000∧∀ y∈x.s,HSm6 y.h := by
  obtain ⟨e1,e2,e3,e4,e5,e6,e7,e8⟩ := pTp_one h
  rw [List.append_nil] at e1
  have hsl:(sbsB x.s).length≤10000 := by
    have := congrArg List.length e1
    simp only [tpB,List.length_append] at this
    omega
  refine ⟨e2,by have := e3.1.1; omega,by have := e3.2.2.1; omega,by omega,fun y hy=>?_⟩
  have h1 := sbsB_ge hy
  obtain ⟨h2,h3⟩ := hdsB_ge y.h
  exact ⟨by omega,fun z hz=>by have := h3 z hz; omega⟩
theorem same_zero {σ:St} (Q:AVal→St→Prop) (hQ:Q (.bool true) σ):ACall Tryz.prog 11 [.agg tpZ,.agg tpZ] σ Q :=
  same_w (t := []) (s := []) (T := []) (cs := []) (ds := []) (ep := 0) (last := 0) ⟨rfl,.inl ⟨rfl,rfl⟩⟩ ⟨rfl,.inl ⟨rfl,rfl⟩⟩ ⟨rfl,.inl ⟨rfl,rfl⟩⟩ trivial ⟨rfl,.inl ⟨rfl,rfl⟩⟩ ⟨rfl,.inl ⟨rfl,rfl⟩⟩ ⟨rfl,.inl ⟨rfl,rfl⟩⟩ trivial (by simp) (by simp) (by simp) (by simp) Q hQ
/-- What was read, by the program and by the document, is the same. -/
theorem both_c {lo:Nat} {σ:St} {l:List UInt8} {gv wv:AVal} {code code':Nat} (hd:DecRel l gv code) (hr:RdRel lo σ l wv code') (hl:l.length≤10000):code=code'∧∀ (σ':St) (Q:AVal→St→Prop),Grow σ σ'→Q (.bool true) σ'→ACall Tryz.prog 11 [gv,wv] σ' Q := by
  rcases hd with ⟨he,rfl⟩ | ⟨x,l',he,hne,rfl,rfl⟩ | ⟨x,lv,sv,nv,cs,ys,he,rfl,⟨r1,r2,r3,r4,r5,r6⟩,rfl⟩
  · rcases hr with ⟨k1,rfl⟩ | ⟨y,m',k1,_⟩ | ⟨y,_,_,_,_,_,_,_,k1,_⟩
    · rw [he] at k1; cases k1
      exact ⟨rfl,fun σ' Q _ hq=>same_zero Q hq⟩
    · rw [he] at k1; cases k1
    · rw [he] at k1; cases k1
  · rcases hr with ⟨k1,_⟩ | ⟨y,m',k1,_,rfl,rfl⟩ | ⟨y,_,_,_,_,_,_,_,k1,_⟩
    · rw [he] at k1; cases k1
    · exact ⟨rfl,fun σ' Q _ hq=>same_zero Q hq⟩
    · rw [he] at k1; cases k1; exact absurd rfl hne
  · rcases hr with ⟨k1,_⟩ | ⟨y,m',k1,hne,_⟩ | ⟨y,lw,sw,nw,bt,bs,bn,s,k1,rfl,g1,g2,g3,g4,g5,rfl⟩
    · rw [he] at k1; cases k1
    · rw [he] at k1; cases k1; exact absurd rfl hne
    · rw [he] at k1
      cases k1
      obtain ⟨q1,q2,q3,q4,q5⟩ := tp_six he hl
      have hys:ys=x.T := RisL.uniq r6 (ris_of q1).1 ((r5.map _).nodup_iff.2 (ris_of q1).2) r5
      subst hys
      refine ⟨rfl,fun σ' Q g hq=>?_⟩
      have G1:GS rwD σ' lw x.t bt := g1.keep g.1 fun a ha _=>g.2 a ha
      have G2:GS rwS σ' sw s bs := g2.keep g.1 fun a ha _=>g.2 a ha
      have G5:GS rwL σ' nw x.T bn := g5.keep g.1 fun a ha _=>g.2 a ha
      have G4:SbO lo σ' s := g4.frame g.1 fun a _ ha _=>g.2 a ha
      refine same_w (t := x.t) (s := x.s) (T := x.T) (r1 σ') (r2 σ') (r4 σ') r3.c (by have := G1.rd; rwa [rwsD] at this) (ds := rws rwS s) (by rw [g3,List.length_map]; exact G2.rd) G5.rd (by rw [g3]; exact G4.c) q2 q3 q4 q5 Q hq
theorem DecRel.fv {l:List UInt8} {gv:AVal} {code:Nat} (h:DecRel l gv code):∃ (a b:Int) (lv sv nv:AVal),gv=.agg [u64 a,u64 b,lv,sv,nv]∧(lv.one=true∧cellsOf lv=[lv])∧(sv.one=true∧cellsOf sv=[sv])∧(nv.one=true∧cellsOf nv=[nv]) := by
  rcases h with ⟨_,rfl⟩ | ⟨x,l',_,_,rfl,_⟩ | ⟨x,lv,sv,nv,cs,ys,_,rfl,⟨r1,r2,r3,r4,r5,r6⟩,_⟩
  · exact ⟨0,0,.nilsl,.nilsl,.nilsl,rfl,⟨rfl,rfl⟩,⟨rfl,rfl⟩,rfl,rfl⟩
  · exact ⟨0,0,.nilsl,.nilsl,.nilsl,rfl,⟨rfl,rfl⟩,⟨rfl,rfl⟩,rfl,rfl⟩
  · exact ⟨_,_,lv,sv,nv,rfl,(r1 σ0).one,(r2 σ0).one,(r4 σ0).one⟩
theorem RdRel.fv {lo:Nat} {σ:St} {l:List UInt8} {gv:AVal} {code:Nat} (h:RdRel lo σ l gv code):∃ (a b:Int) (lv sv nv:AVal),gv=.agg [u64 a,u64 b,lv,sv,nv]∧(lv.one=true∧cellsOf lv=[lv])∧(sv.one=true∧cellsOf sv=[sv])∧(nv.one=true∧cellsOf nv=[nv]) := by
  rcases h with ⟨_,rfl⟩ | ⟨x,l',_,_,rfl,_⟩ | ⟨x,lv,sv,nv,bt,bs,bn,s,_,rfl,g1,g2,_,_,g5,_⟩
  · exact ⟨0,0,.nilsl,.nilsl,.nilsl,rfl,⟨rfl,rfl⟩,⟨rfl,rfl⟩,rfl,rfl⟩
  · exact ⟨0,0,.nilsl,.nilsl,.nilsl,rfl,⟨rfl,rfl⟩,⟨rfl,rfl⟩,rfl,rfl⟩
  · exact ⟨_,_,lv,sv,nv,rfl,g1.one,g2.one,g5.one⟩
def CrJ2 (P:Nat) (CS:List AVal) (mm:Nat) (rg:Regs) (σ':St):Prop := ∃ i:Nat,mm=4 - i∧i≤4∧P<σ'.next∧σ'.mem.get P=some (.cells 1 CS)∧(∀ v∈CS,RdA σ' v)∧rg=[(49,.sl P 0 4 4 true),(50,.int .i64 4),(51,i64 i)]
set_option maxHeartbeats 4000000 in
theorem reads_c {bv lv sv nv d av gv:AVal} {lb l bl:List UInt8} {xs:List Int} {t:List Ld} {s:List SbV} {cs:List AVal} {T:Tbl} {ep last:Nat} (hl:Rd 3 σ0 lv t.length (ldc t)) (hs:Rd 5 σ0 sv s.length cs) (hI:SbI cs s) (hn:Rd 5 σ0 nv T.length (rws rwL T)) (htb:∀ x∈t,In64 x.f0∧In64 x.f2) (hsb:∀ x∈s,(In64 x.ml∧In64 x.me)∧x.kind<256∧HArg x.h∧∀ y∈x.h,∀ z∈y.f1,In64 z.f0∧In64 z.f1) (hT:∀ x∈T,x.2.1<18446744073709551616∧x.2.2.1<18446744073709551616∧x.2.2.2.1<18446744073709551616∧x.2.2.2.2<18446744073709551616) (hbe:ep<18446744073709551616∧last<18446744073709551616) (hd:BytesOf d l) (hdl:l.length≤9223372036854775806) (op:Bool) (hbv:BytesOf bv lb) (hav:IntsOf av xs) (hgv:BytesOf gv bl) :
    ACall Tryz.prog 3 [bv,.agg [u64 (ep:Int),u64 (last:Int),lv,sv,nv],d,.bool op,av,gv] σ0 fun v _=>v=.bool true := by
  refine ACall.of_compF hmx (fun a w=>Tryz.call3 a w) Tryz.func3 cf3 (n := 6) (by decide) rfl ?_
  obtain ⟨o1,o2⟩ := hl.one
  obtain ⟨o3,o4⟩ := hs.one
  obtain ⟨o5,o6⟩ := hn.one
  simp only [ac3,rs3]
  simp [lk_cons,o1,o2,o3,o4,o5,o6]
  obtain ⟨S,hS⟩:∃ S:St,S=⟨σ0.mem.set σ0.next (.cells 5 [u64 (ep:Int),u64 (last:Int),lv,sv,nv]),σ0.next+1⟩ := ⟨_,rfl⟩
  have gS:Grow σ0 S := ⟨by rw [hS]; exact Nat.le_succ _,fun a ha=>by rw [hS]; simp [show ¬ a=σ0.next by omega]⟩
  have nS:S.next=σ0.next+1 := by rw [hS]
  have mS:S.mem.get σ0.next=some (.cells 5 [u64 (ep:Int),u64 (last:Int),lv,sv,nv]) := by rw [hS]; simp
  try rw [← hS]
  rw [show σ0.next=0 from rfl] at nS mS
  refine awake _ fun σ1 g1=>?_
  have G1 := gS.trans g1
  have m1 := (g1.2 0 (by omega)).trans mS
  have n1 := g1.1
  simp [lk_cons,m1]
  refine long_c (hl.frame G1.1 G1.2) (hs.frame G1.1 G1.2) hI (hn.frame G1.1 G1.2) _ ?_ fun hno=>?_
  · simp [lk_cons]
  obtain ⟨b1,b2,b3,b4,b5⟩ := hno
  have hT2:∀ x∈T,LnOk x := fun x hx=>⟨by have := b5 x hx; omega,hT x hx⟩
  have lbn := hbv.len
  simp [lk_cons,↓lbn]
  by_cases h5:5000<lb.length
  · have h5':(5000:Int)<lb.length := by omega
    simp [lk_cons,h5,h5']
  have h5':¬ (5000:Int)<lb.length := by omega
  simp [lk_cons,h5,h5',m1,o1,o2,o3,o4,o5,o6]
  refine made_c (t := t) ⟨o1,o2⟩ (hs.frame G1.1 G1.2) hI (hn.frame G1.1 G1.2) (by omega) (by omega) (fun x hx=>⟨(hsb x hx).1,(hsb x hx).2.1,(hsb x hx).2.2.1⟩) hT2 hbe.2 hd hdl op _ fun last2 t2 s2 T2 lv2 sv2 nv2 bs bn σ2 mt g2=>?_
  have n2 := g2.1
  have hts := mt.ts hbe.1
  obtain ⟨f1,f2,f3,f4⟩ := ts_few hts
  simp [lk_cons]
  refine rtopic_c f1 hts.si hts.rn f2 f3 f4 _ fun cv code σ3 e3 g3=>?_
  obtain ⟨L,cb,hcv,hL⟩ := e3.rd
  obtain ⟨u1,u2⟩ := hcv.one
  simp [lk_cons]
  refine turned_c hcv hav hgv (by omega) _ fun tv l' c' σ4 htv hl' _ g4=>?_
  obtain ⟨u3,u4⟩ := htv.one
  have hcv4:RdB σ4 cv L cb := hcv.keep g4.1 fun a ha _=>g4.2 a ha
  obtain ⟨S5,hS5⟩:∃ S5:St,S5=⟨σ4.mem.set σ4.next (.cells 1 []),σ4.next+1⟩ := ⟨_,rfl⟩
  have nS5:S5.next=σ4.next+1 := by rw [hS5]
  have gS5:Grow σ4 S5 := ⟨by omega,fun a ha=>by rw [hS5]; simp [show ¬ a=σ4.next by omega]⟩
  have g0:GS rwB S5 (.sl σ4.next 0 0 0 true) [] (some σ4.next) := .inr ⟨σ4.next,true,rfl,rfl,by omega,by rw [hS5]; simp [rwsB,bytesV]⟩
  have hsrc := (hcv4.keep (σ' := S5) gS5.1 fun a ha _=>gS5.2 a ha).src
  obtain ⟨v6,σ6,b6,e1,e2,e3',e4,e5⟩ := gs_appN g0 (by_ := 1) (by decide) hsrc (by simp; omega) (by simp; omega)
  rw [hS5] at e1
  obtain ⟨v7,σ7,b7,q1,q2,q3,q4,q5⟩ := gs_appN e2 (by_ := 1) (by decide) ((RdB.ofI hbv σ6).src) (by simp; omega) (by simp; omega)
  have g6:Grow σ4 σ6 := ⟨by omega,fun a ha=>(e5 a (by omega) (fun e=>by cases e; omega)).trans (gS5.2 a ha)⟩
  have hlo6:∀ y,b6=some y→σ4.next≤y := fun y hy=>by rcases e3' with e | e <;> rw [e] at hy <;> cases hy <;> omega
  have g7:Grow σ4 σ7 := ⟨by have := g6.1; omega,fun a ha=>(q5 a (by have := g6.1; omega) (fun e=>by have := hlo6 a e; omega)).trans (g6.2 a ha)⟩
  have o7 := q2.one
  have obv := (RdB.ofI hbv σ7).one
  simp [lk_cons,repL,fillL,↓e1,↓q1,storeL,u1,u2,u3,u4,o7,obv]
  obtain ⟨S8,hS8⟩:∃ S8:St,S8=⟨σ7.mem.set σ7.next (.cells 1 [bv,cv,tv,v7]),σ7.next+1⟩ := ⟨_,rfl⟩
  have nS8:S8.next=σ7.next+1 := by rw [hS8]
  have gS8:Grow σ7 S8 := ⟨by omega,fun a ha=>by rw [hS8]; simp [show ¬ a=σ7.next by omega]⟩
  have mS8:S8.mem.get σ7.next=some (.cells 1 [bv,cv,tv,v7]) := by rw [hS8]; simp
  rw [← hS8]
  have hall:∀ v∈[bv,cv,tv,v7],RdA S8 v := fun v hv=>by
    simp only [List.mem_cons,List.mem_nil_iff,or_false] at hv
    rcases hv with rfl | rfl | rfl | rfl
    · exact ⟨lb,none,RdB.ofI hbv S8,by omega⟩
    · exact RdA.grow (σ := σ3) ⟨L,cb,hcv,by omega⟩ (g4.trans (g7.trans gS8))
    · exact RdA.grow (σ := σ4) ⟨l',c',htv,by omega⟩ (g7.trans gS8)
    · exact RdA.grow (σ := σ7) ⟨_,b7,RdB.ofGS q2,by simp; omega⟩ gS8
  obtain ⟨CS,hCS⟩:∃ CS,[bv,cv,tv,v7]=CS := ⟨_,rfl⟩
  have hCl:CS.length=4 := by rw [← hCS]; rfl
  rw [hCS] at mS8 hall
  clear hCS hS8
  refine wp_loop (CrJ2 σ7.next CS) 4 ?_ ?_
  · exact ⟨0,rfl,by omega,by omega,mS8,hall,rfl⟩
  obtain ⟨P,hP⟩:∃ P,σ7.next=P := ⟨_,rfl⟩
  rw [hP]
  rintro mm rg σ9 ⟨i,rfl,hi,hn9,mP,hall9,rfl⟩
  by_cases hlt:i<4
  · have hlt':(i:Int)<4 := by omega
    have w1:IntKind.i64.wrap ((i:Int)+1)=((i+1:Nat):Int) := by rw [IntWalk.i64_in] <;> omega
    obtain ⟨v,hv⟩:∃ v,CS[i]?=some v := ⟨_,List.getElem?_eq_getElem (by omega)⟩
    obtain ⟨L9,c9,hr9,hL9⟩ := hall9 v (List.mem_of_getElem? hv)
    have hic:i<CS.length := by omega
    have hv':CS[i]'hic=v := (List.getElem?_eq_some_iff.1 hv).2
    simp [lk_cons,hlt,hlt',mP,hv,hic,hv']
    refine decode_c hr9 (by omega) _ fun gvv code9 hdec=>?_
    obtain ⟨ga,gb,x1,x2,x3,rfl,⟨y1,z1⟩,⟨y2,z2⟩,y3,z3⟩ := hdec.fv
    simp [lk_cons,storeL,y1,y2,y3,z1,z2,z3]
    obtain ⟨S10,hS10⟩:∃ S:St,S=⟨(σ9.mem.set σ9.next (.cells 5 [.int .u64 0,.int .u64 0,.nilsl,.nilsl,.nilsl])).set σ9.next (.cells 5 [u64 ga,u64 gb,x1,x2,x3]),σ9.next+1⟩ := ⟨_,rfl⟩
    have nS10:S10.next=σ9.next+1 := by rw [hS10]
    have gS10:Grow σ9 S10 := ⟨by omega,fun a ha=>by rw [hS10]; simp [show ¬ a=σ9.next by omega]⟩
    have mS10:S10.mem.get σ9.next=some (.cells 5 [u64 ga,u64 gb,x1,x2,x3]) := by rw [hS10]; simp
    rw [← hS10]
    refine rread_c (hr9.keep gS10.1 fun a ha _=>gS10.2 a ha) (by omega) _ fun wv code11 σ11 hrd g11=>?_
    obtain ⟨wa,wb,x4,x5,x6,rfl,⟨y4,z4⟩,⟨y5,z5⟩,y6,z6⟩ := hrd.fv
    obtain ⟨rfl,hsame⟩ := both_c hdec hrd hL9
    have m11 := (g11.2 σ9.next (by omega)).trans mS10
    have e11:¬ σ9.next=σ11.next := by have := g11.1; omega
    simp [lk_cons,storeL,y4,y5,y6,z4,z5,z6,m11,e11]
    refine hsame _ _ ⟨by simp,fun a ha=>by simp [show ¬ a=σ11.next by omega]⟩ ?_
    simp [lk_cons,w1]
    have gg:Grow σ9 ⟨(σ11.mem.set σ11.next (.cells 5 [.int .u64 0,.int .u64 0,.nilsl,.nilsl,.nilsl])).set σ11.next (.cells 5 [u64 wa,u64 wb,x4,x5,x6]),σ11.next+1⟩ := gS10.trans (g11.trans ⟨by simp,fun a ha=>by simp [show ¬ a=σ11.next by omega]⟩)
    exact ⟨4 - (i+1),by omega,i+1,rfl,by omega,by have := gg.1; simp at this ⊢; omega,(gg.2 P hn9).trans mP,fun v hv=>(hall9 v hv).grow gg,by simp⟩
  have:i=4 := by omega
  subst this
  simp [lk_cons]
end Go.Proofs.YticefdfhcahlfaaGreatDoor.AM

namespace Go.Proofs.YticefdfhcahlfaaGreatDoor.AM
open Go.RowKit
set_option linter.unusedVariables false
set_option maxRecDepth 100000
theorem gok_of {W:World} (h0:∀ r,r<256→W.cell? ⟨0,r,none⟩=some (.int .u8 ((Go.Pinned.utf8FirstZ.getD r 0:Nat):Int))) (h1:∀ r,r<32→W.cell? ⟨1,r,none⟩=some (.int .u8 ((utf8Acc.getD r 0:Nat):Int))):GOk (immOf W) := by
  have gen:∀ (g:Nat) (l:List Nat),(∀ r,r<l.length→W.cell? ⟨g,r,none⟩=some (.int .u8 ((l.getD r 0:Nat):Int)))→CRel (fun _=>none) (immOf W) (l.map fun (n:Nat)=>AVal.int .u8 (n:Int)) (fun j=>icell (immOf W) ⟨g,j,none⟩) := fun g l h=>by
    refine CRel.mk fun j v hv=>?_
    rw [List.getElem?_map,Option.map_eq_some_iff] at hv
    obtain ⟨n,hn,rfl⟩ := hv
    have hj := (List.getElem?_eq_some_iff.1 hn).1
    refine ⟨.int .u8 (n:Int),?_,by simp [VRel]⟩
    rw [icell_immOf,h j hj,List.getD_eq_getElem?_getD,hn]; rfl
  have l0:Go.Pinned.utf8FirstZ.length=256 := by decide
  have l1:utf8Acc.length=32 := by decide
  have k0 := gen 0 Go.Pinned.utf8FirstZ fun r hr=>h0 r (by omega)
  have k1 := gen 1 utf8Acc fun r hr=>h1 r (by omega)
  intro g cs hg
  match g,hg with
  | 0,hg =>
    simp only [gloTab,gloRaw,Option.map_some,Option.some.injEq] at hg
    subst hg; exact k0
  | 1,hg =>
    simp only [gloTab,gloRaw,Option.map_some,Option.some.injEq] at hg
    subst hg; exact k1
  | g+2,hg=>simp [gloTab,gloRaw] at hg
end Go.Proofs.YticefdfhcahlfaaGreatDoor.AM
