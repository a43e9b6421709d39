/- What the arguments of CodecCut are, as the abstract machine's values. -/
import Derived.Test.YticefdfhcahlfaaDoorAm3
import Derived.Test.YticefdfhcahlfaaDoorProg
import Derived.KernelRfl
namespace Go.Proofs.YticefdfhcahlfaaDoor.AM.OkCodecCut
open Go.RowKit Go.ChangeShapes Go.WideShapes
set_option maxRecDepth 100000
def ok22 : List AVal → Prop := fun us => ∃ n, us = [.int .u64 n] ∧ (Lit.int .u64 n).wf = true
theorem opens22 : Opens Tryd.prog 22 ok22 := opens_int Tryd.underlying22
def ok4 : List AVal → Prop := fun us => ∃ b, us = [.bool b]
theorem opens4 : Opens Tryd.prog 4 ok4 := opens_bool Tryd.underlying4
def ok33 : List AVal → Prop := fun us => (fun x => ∃ a b, x = a ++ b ∧ ok22 a ∧ (fun x => ∃ a b, x = a ++ b ∧ ok4 a ∧ ok22 b) b) us
theorem opens33 : Opens Tryd.prog 33 ok33 := opens_struct Tryd.underlying33 (by kernel_rfl) (opensF_cons (n := 1) (m := 2) opens22 rfl (by kernel_rfl) (by kernel_rfl) (opensF_cons (n := 1) (m := 1) opens4 rfl (by kernel_rfl) (by kernel_rfl) (opensF_one (n := 1) opens22 rfl (by kernel_rfl))))
def ok23 : List AVal → Prop := fun us => us = [.nilsl] ∨ ∃ xs : List (List AVal), us = [.isl xs.flatten xs.length false] ∧ (∀ x ∈ xs, x.length = 3 ∧ ok33 x) ∧ xs.length ≤ 9223372036854775807 ∧ xs.length * 24 ≤ 140737488351232
theorem opens23 : Opens Tryd.prog 23 ok23 := opens_slice Tryd.underlying23 (by kernel_rfl) (by kernel_rfl) opens33
def ok9 : List AVal → Prop := fun us => ∃ s : ByteArray, us = [.str s] ∧ s.size ≤ 140737488351232
theorem opens9 : Opens Tryd.prog 9 ok9 := opens_string Tryd.underlying9
def ok34 : List AVal → Prop := fun us => ∃ n, us = [.int .u8 n] ∧ (Lit.int .u8 n).wf = true
theorem opens34 : Opens Tryd.prog 34 ok34 := opens_int Tryd.underlying34
def ok36 : List AVal → Prop := fun us => (fun x => ∃ a b, x = a ++ b ∧ ok22 a ∧ ok22 b) us
theorem opens36 : Opens Tryd.prog 36 ok36 := opens_struct Tryd.underlying36 (by kernel_rfl) (opensF_cons (n := 1) (m := 1) opens22 rfl (by kernel_rfl) (by kernel_rfl) (opensF_one (n := 1) opens22 rfl (by kernel_rfl)))
def ok145 : List AVal → Prop := fun us => (fun x => ∃ a b, x = a ++ b ∧ ok22 a ∧ ok22 b) us
theorem opens145 : Opens Tryd.prog 145 ok145 := opens_struct Tryd.underlying145 (by kernel_rfl) (opensF_cons (n := 1) (m := 1) opens22 rfl (by kernel_rfl) (by kernel_rfl) (opensF_one (n := 1) opens22 rfl (by kernel_rfl)))
def ok88 : List AVal → Prop := fun us => us = [.nilsl] ∨ ∃ xs : List (List AVal), us = [.isl xs.flatten xs.length false] ∧ (∀ x ∈ xs, x.length = 2 ∧ ok145 x) ∧ xs.length ≤ 9223372036854775807 ∧ xs.length * 16 ≤ 140737488351232
theorem opens88 : Opens Tryd.prog 88 ok88 := opens_slice Tryd.underlying88 (by kernel_rfl) (by kernel_rfl) opens145
def ok90 : List AVal → Prop := fun us => (fun x => ∃ a b, x = a ++ b ∧ ok22 a ∧ ok88 b) us
theorem opens90 : Opens Tryd.prog 90 ok90 := opens_struct Tryd.underlying90 (by kernel_rfl) (opensF_cons (n := 1) (m := 1) opens22 rfl (by kernel_rfl) (by kernel_rfl) (opensF_one (n := 1) opens88 rfl (by kernel_rfl)))
def ok37 : List AVal → Prop := fun us => us = [.nilsl] ∨ ∃ xs : List (List AVal), us = [.isl xs.flatten xs.length false] ∧ (∀ x ∈ xs, x.length = 2 ∧ ok90 x) ∧ xs.length ≤ 9223372036854775807 ∧ xs.length * 32 ≤ 140737488351232
theorem opens37 : Opens Tryd.prog 37 ok37 := opens_slice Tryd.underlying37 (by kernel_rfl) (by kernel_rfl) opens90
def ok39 : List AVal → Prop := fun us => (fun x => ∃ a b, x = a ++ b ∧ ok36 a ∧ ok37 b) us
theorem opens39 : Opens Tryd.prog 39 ok39 := opens_struct Tryd.underlying39 (by kernel_rfl) (opensF_cons (n := 2) (m := 1) opens36 rfl (by kernel_rfl) (by kernel_rfl) (opensF_one (n := 1) opens37 rfl (by kernel_rfl)))
def ok41 : List AVal → Prop := fun us => (fun x => ∃ a b, x = a ++ b ∧ ok9 a ∧ (fun x => ∃ a b, x = a ++ b ∧ ok34 a ∧ ok39 b) b) us
theorem opens41 : Opens Tryd.prog 41 ok41 := opens_struct Tryd.underlying41 (by kernel_rfl) (opensF_cons (n := 1) (m := 4) opens9 rfl (by kernel_rfl) (by kernel_rfl) (opensF_cons (n := 1) (m := 3) opens34 rfl (by kernel_rfl) (by kernel_rfl) (opensF_one (n := 3) opens39 rfl (by kernel_rfl))))
def ok24 : List AVal → Prop := fun us => us = [.nilsl] ∨ ∃ xs : List (List AVal), us = [.isl xs.flatten xs.length false] ∧ (∀ x ∈ xs, x.length = 5 ∧ ok41 x) ∧ xs.length ≤ 9223372036854775807 ∧ xs.length * 64 ≤ 140737488351232
theorem opens24 : Opens Tryd.prog 24 ok24 := opens_slice Tryd.underlying24 (by kernel_rfl) (by kernel_rfl) opens41
def ok43 : List AVal → Prop := fun us => (fun x => ∃ a b, x = a ++ b ∧ ok9 a ∧ (fun x => ∃ a b, x = a ++ b ∧ ok22 a ∧ (fun x => ∃ a b, x = a ++ b ∧ ok22 a ∧ ok36 b) b) b) us
theorem opens43 : Opens Tryd.prog 43 ok43 := opens_struct Tryd.underlying43 (by kernel_rfl) (opensF_cons (n := 1) (m := 4) opens9 rfl (by kernel_rfl) (by kernel_rfl) (opensF_cons (n := 1) (m := 3) opens22 rfl (by kernel_rfl) (by kernel_rfl) (opensF_cons (n := 1) (m := 2) opens22 rfl (by kernel_rfl) (by kernel_rfl) (opensF_one (n := 2) opens36 rfl (by kernel_rfl)))))
def ok25 : List AVal → Prop := fun us => us = [.nilsl] ∨ ∃ xs : List (List AVal), us = [.isl xs.flatten xs.length false] ∧ (∀ x ∈ xs, x.length = 5 ∧ ok43 x) ∧ xs.length ≤ 9223372036854775807 ∧ xs.length * 48 ≤ 140737488351232
theorem opens25 : Opens Tryd.prog 25 ok25 := opens_slice Tryd.underlying25 (by kernel_rfl) (by kernel_rfl) opens43
def ok27 : List AVal → Prop := fun us => (fun x => ∃ a b, x = a ++ b ∧ ok22 a ∧ (fun x => ∃ a b, x = a ++ b ∧ ok22 a ∧ (fun x => ∃ a b, x = a ++ b ∧ ok23 a ∧ (fun x => ∃ a b, x = a ++ b ∧ ok24 a ∧ ok25 b) b) b) b) us
theorem opens27 : Opens Tryd.prog 27 ok27 := opens_struct Tryd.underlying27 (by kernel_rfl) (opensF_cons (n := 1) (m := 4) opens22 rfl (by kernel_rfl) (by kernel_rfl) (opensF_cons (n := 1) (m := 3) opens22 rfl (by kernel_rfl) (by kernel_rfl) (opensF_cons (n := 1) (m := 2) opens23 rfl (by kernel_rfl) (by kernel_rfl) (opensF_cons (n := 1) (m := 1) opens24 rfl (by kernel_rfl) (by kernel_rfl) (opensF_one (n := 1) opens25 rfl (by kernel_rfl))))))
def ok5 : List AVal → Prop := fun us => ∃ n, us = [.int .u8 n] ∧ (Lit.int .u8 n).wf = true
theorem opens5 : Opens Tryd.prog 5 ok5 := opens_int Tryd.underlying5
def ok28 : List AVal → Prop := fun us => us = [.nilsl] ∨ ∃ xs : List (List AVal), us = [.isl xs.flatten xs.length false] ∧ (∀ x ∈ xs, x.length = 1 ∧ ok5 x) ∧ xs.length ≤ 9223372036854775807 ∧ xs.length * 1 ≤ 140737488351232
theorem opens28 : Opens Tryd.prog 28 ok28 := opens_slice Tryd.underlying28 (by kernel_rfl) (by kernel_rfl) opens5
def ok45 : List AVal → Prop := fun us => ∃ n, us = [.int .i64 n] ∧ (Lit.int .i64 n).wf = true
theorem opens45 : Opens Tryd.prog 45 ok45 := opens_int Tryd.underlying45
def ok51 : List AVal → Prop := fun us => (fun x => ∃ a b, x = a ++ b ∧ ok22 a ∧ ok28 b) us
theorem opens51 : Opens Tryd.prog 51 ok51 := opens_struct Tryd.underlying51 (by kernel_rfl) (opensF_cons (n := 1) (m := 1) opens22 rfl (by kernel_rfl) (by kernel_rfl) (opensF_one (n := 1) opens28 rfl (by kernel_rfl)))
def ok46 : List AVal → Prop := fun us => us = [.nilsl] ∨ ∃ xs : List (List AVal), us = [.isl xs.flatten xs.length false] ∧ (∀ x ∈ xs, x.length = 2 ∧ ok51 x) ∧ xs.length ≤ 9223372036854775807 ∧ xs.length * 32 ≤ 140737488351232
theorem opens46 : Opens Tryd.prog 46 ok46 := opens_slice Tryd.underlying46 (by kernel_rfl) (by kernel_rfl) opens51
def ok48 : List AVal → Prop := fun us => (fun x => ∃ a b, x = a ++ b ∧ ok5 a ∧ (fun x => ∃ a b, x = a ++ b ∧ ok5 a ∧ (fun x => ∃ a b, x = a ++ b ∧ ok4 a ∧ (fun x => ∃ a b, x = a ++ b ∧ ok45 a ∧ (fun x => ∃ a b, x = a ++ b ∧ ok22 a ∧ (fun x => ∃ a b, x = a ++ b ∧ ok22 a ∧ (fun x => ∃ a b, x = a ++ b ∧ ok22 a ∧ (fun x => ∃ a b, x = a ++ b ∧ ok22 a ∧ (fun x => ∃ a b, x = a ++ b ∧ ok22 a ∧ (fun x => ∃ a b, x = a ++ b ∧ ok36 a ∧ (fun x => ∃ a b, x = a ++ b ∧ ok9 a ∧ (fun x => ∃ a b, x = a ++ b ∧ ok9 a ∧ (fun x => ∃ a b, x = a ++ b ∧ ok28 a ∧ ok46 b) b) b) b) b) b) b) b) b) b) b) b) b) us
theorem opens48 : Opens Tryd.prog 48 ok48 := opens_struct Tryd.underlying48 (by kernel_rfl) (opensF_cons (n := 1) (m := 14) opens5 rfl (by kernel_rfl) (by kernel_rfl) (opensF_cons (n := 1) (m := 13) opens5 rfl (by kernel_rfl) (by kernel_rfl) (opensF_cons (n := 1) (m := 12) opens4 rfl (by kernel_rfl) (by kernel_rfl) (opensF_cons (n := 1) (m := 11) opens45 rfl (by kernel_rfl) (by kernel_rfl) (opensF_cons (n := 1) (m := 10) opens22 rfl (by kernel_rfl) (by kernel_rfl) (opensF_cons (n := 1) (m := 9) opens22 rfl (by kernel_rfl) (by kernel_rfl) (opensF_cons (n := 1) (m := 8) opens22 rfl (by kernel_rfl) (by kernel_rfl) (opensF_cons (n := 1) (m := 7) opens22 rfl (by kernel_rfl) (by kernel_rfl) (opensF_cons (n := 1) (m := 6) opens22 rfl (by kernel_rfl) (by kernel_rfl) (opensF_cons (n := 2) (m := 4) opens36 rfl (by kernel_rfl) (by kernel_rfl) (opensF_cons (n := 1) (m := 3) opens9 rfl (by kernel_rfl) (by kernel_rfl) (opensF_cons (n := 1) (m := 2) opens9 rfl (by kernel_rfl) (by kernel_rfl) (opensF_cons (n := 1) (m := 1) opens28 rfl (by kernel_rfl) (by kernel_rfl) (opensF_one (n := 1) opens46 rfl (by kernel_rfl)))))))))))))))
def ok3 : List AVal → Prop := fun us => ∃ n, us = [.int .i64 n] ∧ (Lit.int .i64 n).wf = true
theorem opens3 : Opens Tryd.prog 3 ok3 := opens_int Tryd.underlying3
end Go.Proofs.YticefdfhcahlfaaDoor.AM.OkCodecCut
