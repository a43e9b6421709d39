/- What the arguments of CodecReads are, as the abstract machine's values. -/
import Derived.Test.YticefdfhcahlfaaGreatDoorAm2
import Derived.Test.YticefdfhcahlfaaGreatDoorProg
import Derived.KernelRfl
namespace Go.Proofs.YticefdfhcahlfaaGreatDoor.AM.OkCodecReads
open Go.RowKit Go.ChangeShapes Go.WideShapes
set_option maxRecDepth 100000
def ok5 : List AVal → Prop := fun us => ∃ n, us = [.int .u8 n] ∧ (Lit.int .u8 n).wf = true
theorem opens5 : Opens Tryz.prog 5 ok5 := opens_int Tryz.underlying5
def ok22 : List AVal → Prop := fun us => us = [.nilsl] ∨ ∃ xs : List (List AVal), us = [.isl xs.flatten xs.length false] ∧ (∀ x ∈ xs, x.length = 1 ∧ ok5 x) ∧ xs.length ≤ 9223372036854775807 ∧ xs.length * 1 ≤ 140737488351232
theorem opens22 : Opens Tryz.prog 22 ok22 := opens_slice Tryz.underlying22 (by kernel_rfl) (by kernel_rfl) opens5
def ok23 : List AVal → Prop := fun us => ∃ n, us = [.int .u64 n] ∧ (Lit.int .u64 n).wf = true
theorem opens23 : Opens Tryz.prog 23 ok23 := opens_int Tryz.underlying23
def ok4 : List AVal → Prop := fun us => ∃ b, us = [.bool b]
theorem opens4 : Opens Tryz.prog 4 ok4 := opens_bool Tryz.underlying4
def ok67 : List AVal → Prop := fun us => (fun x => ∃ a b, x = a ++ b ∧ ok23 a ∧ (fun x => ∃ a b, x = a ++ b ∧ ok4 a ∧ ok23 b) b) us
theorem opens67 : Opens Tryz.prog 67 ok67 := opens_struct Tryz.underlying67 (by kernel_rfl) (opensF_cons (n := 1) (m := 2) opens23 rfl (by kernel_rfl) (by kernel_rfl) (opensF_cons (n := 1) (m := 1) opens4 rfl (by kernel_rfl) (by kernel_rfl) (opensF_one (n := 1) opens23 rfl (by kernel_rfl))))
def ok24 : List AVal → Prop := fun us => us = [.nilsl] ∨ ∃ xs : List (List AVal), us = [.isl xs.flatten xs.length false] ∧ (∀ x ∈ xs, x.length = 3 ∧ ok67 x) ∧ xs.length ≤ 9223372036854775807 ∧ xs.length * 24 ≤ 140737488351232
theorem opens24 : Opens Tryz.prog 24 ok24 := opens_slice Tryz.underlying24 (by kernel_rfl) (by kernel_rfl) opens67
def ok9 : List AVal → Prop := fun us => ∃ s : ByteArray, us = [.str s] ∧ s.size ≤ 140737488351232
theorem opens9 : Opens Tryz.prog 9 ok9 := opens_string Tryz.underlying9
def ok54 : List AVal → Prop := fun us => ∃ n, us = [.int .u8 n] ∧ (Lit.int .u8 n).wf = true
theorem opens54 : Opens Tryz.prog 54 ok54 := opens_int Tryz.underlying54
def ok48 : List AVal → Prop := fun us => (fun x => ∃ a b, x = a ++ b ∧ ok23 a ∧ ok23 b) us
theorem opens48 : Opens Tryz.prog 48 ok48 := opens_struct Tryz.underlying48 (by kernel_rfl) (opensF_cons (n := 1) (m := 1) opens23 rfl (by kernel_rfl) (by kernel_rfl) (opensF_one (n := 1) opens23 rfl (by kernel_rfl)))
def ok134 : List AVal → Prop := fun us => (fun x => ∃ a b, x = a ++ b ∧ ok23 a ∧ ok23 b) us
theorem opens134 : Opens Tryz.prog 134 ok134 := opens_struct Tryz.underlying134 (by kernel_rfl) (opensF_cons (n := 1) (m := 1) opens23 rfl (by kernel_rfl) (by kernel_rfl) (opensF_one (n := 1) opens23 rfl (by kernel_rfl)))
def ok60 : List AVal → Prop := fun us => us = [.nilsl] ∨ ∃ xs : List (List AVal), us = [.isl xs.flatten xs.length false] ∧ (∀ x ∈ xs, x.length = 2 ∧ ok134 x) ∧ xs.length ≤ 9223372036854775807 ∧ xs.length * 16 ≤ 140737488351232
theorem opens60 : Opens Tryz.prog 60 ok60 := opens_slice Tryz.underlying60 (by kernel_rfl) (by kernel_rfl) opens134
def ok62 : List AVal → Prop := fun us => (fun x => ∃ a b, x = a ++ b ∧ ok23 a ∧ ok60 b) us
theorem opens62 : Opens Tryz.prog 62 ok62 := opens_struct Tryz.underlying62 (by kernel_rfl) (opensF_cons (n := 1) (m := 1) opens23 rfl (by kernel_rfl) (by kernel_rfl) (opensF_one (n := 1) opens60 rfl (by kernel_rfl)))
def ok55 : List AVal → Prop := fun us => us = [.nilsl] ∨ ∃ xs : List (List AVal), us = [.isl xs.flatten xs.length false] ∧ (∀ x ∈ xs, x.length = 2 ∧ ok62 x) ∧ xs.length ≤ 9223372036854775807 ∧ xs.length * 32 ≤ 140737488351232
theorem opens55 : Opens Tryz.prog 55 ok55 := opens_slice Tryz.underlying55 (by kernel_rfl) (by kernel_rfl) opens62
def ok57 : List AVal → Prop := fun us => (fun x => ∃ a b, x = a ++ b ∧ ok48 a ∧ ok55 b) us
theorem opens57 : Opens Tryz.prog 57 ok57 := opens_struct Tryz.underlying57 (by kernel_rfl) (opensF_cons (n := 2) (m := 1) opens48 rfl (by kernel_rfl) (by kernel_rfl) (opensF_one (n := 1) opens55 rfl (by kernel_rfl)))
def ok59 : List AVal → Prop := fun us => (fun x => ∃ a b, x = a ++ b ∧ ok9 a ∧ (fun x => ∃ a b, x = a ++ b ∧ ok54 a ∧ ok57 b) b) us
theorem opens59 : Opens Tryz.prog 59 ok59 := opens_struct Tryz.underlying59 (by kernel_rfl) (opensF_cons (n := 1) (m := 4) opens9 rfl (by kernel_rfl) (by kernel_rfl) (opensF_cons (n := 1) (m := 3) opens54 rfl (by kernel_rfl) (by kernel_rfl) (opensF_one (n := 3) opens57 rfl (by kernel_rfl))))
def ok25 : List AVal → Prop := fun us => us = [.nilsl] ∨ ∃ xs : List (List AVal), us = [.isl xs.flatten xs.length false] ∧ (∀ x ∈ xs, x.length = 5 ∧ ok59 x) ∧ xs.length ≤ 9223372036854775807 ∧ xs.length * 64 ≤ 140737488351232
theorem opens25 : Opens Tryz.prog 25 ok25 := opens_slice Tryz.underlying25 (by kernel_rfl) (by kernel_rfl) opens59
def ok64 : List AVal → Prop := fun us => (fun x => ∃ a b, x = a ++ b ∧ ok9 a ∧ (fun x => ∃ a b, x = a ++ b ∧ ok23 a ∧ (fun x => ∃ a b, x = a ++ b ∧ ok23 a ∧ ok48 b) b) b) us
theorem opens64 : Opens Tryz.prog 64 ok64 := opens_struct Tryz.underlying64 (by kernel_rfl) (opensF_cons (n := 1) (m := 4) opens9 rfl (by kernel_rfl) (by kernel_rfl) (opensF_cons (n := 1) (m := 3) opens23 rfl (by kernel_rfl) (by kernel_rfl) (opensF_cons (n := 1) (m := 2) opens23 rfl (by kernel_rfl) (by kernel_rfl) (opensF_one (n := 2) opens48 rfl (by kernel_rfl)))))
def ok26 : List AVal → Prop := fun us => us = [.nilsl] ∨ ∃ xs : List (List AVal), us = [.isl xs.flatten xs.length false] ∧ (∀ x ∈ xs, x.length = 5 ∧ ok64 x) ∧ xs.length ≤ 9223372036854775807 ∧ xs.length * 48 ≤ 140737488351232
theorem opens26 : Opens Tryz.prog 26 ok26 := opens_slice Tryz.underlying26 (by kernel_rfl) (by kernel_rfl) opens64
def ok28 : List AVal → Prop := fun us => (fun x => ∃ a b, x = a ++ b ∧ ok23 a ∧ (fun x => ∃ a b, x = a ++ b ∧ ok23 a ∧ (fun x => ∃ a b, x = a ++ b ∧ ok24 a ∧ (fun x => ∃ a b, x = a ++ b ∧ ok25 a ∧ ok26 b) b) b) b) us
theorem opens28 : Opens Tryz.prog 28 ok28 := opens_struct Tryz.underlying28 (by kernel_rfl) (opensF_cons (n := 1) (m := 4) opens23 rfl (by kernel_rfl) (by kernel_rfl) (opensF_cons (n := 1) (m := 3) opens23 rfl (by kernel_rfl) (by kernel_rfl) (opensF_cons (n := 1) (m := 2) opens24 rfl (by kernel_rfl) (by kernel_rfl) (opensF_cons (n := 1) (m := 1) opens25 rfl (by kernel_rfl) (by kernel_rfl) (opensF_one (n := 1) opens26 rfl (by kernel_rfl))))))
def ok3 : List AVal → Prop := fun us => ∃ n, us = [.int .i64 n] ∧ (Lit.int .i64 n).wf = true
theorem opens3 : Opens Tryz.prog 3 ok3 := opens_int Tryz.underlying3
def ok29 : List AVal → Prop := fun us => us = [.nilsl] ∨ ∃ xs : List (List AVal), us = [.isl xs.flatten xs.length false] ∧ (∀ x ∈ xs, x.length = 1 ∧ ok3 x) ∧ xs.length ≤ 9223372036854775807 ∧ xs.length * 8 ≤ 140737488351232
theorem opens29 : Opens Tryz.prog 29 ok29 := opens_slice Tryz.underlying29 (by kernel_rfl) (by kernel_rfl) opens3
end Go.Proofs.YticefdfhcahlfaaGreatDoor.AM.OkCodecReads
