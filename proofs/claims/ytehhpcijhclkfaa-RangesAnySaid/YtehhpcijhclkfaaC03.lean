/- The code of chapter 03, told as the abstract machine's. -/
import Derived.Test.YtehhpcijhclkfaaAm2
import Derived.Test.YtehhpcijhclkfaaProg
import Derived.KernelRfl
namespace Go.Proofs.Ytehhpcijhclkfaa.AM
set_option maxRecDepth 100000
set_option maxHeartbeats 4000000
theorem hmx : Try.prog.follows .mixedOrders = true := by kernel_rfl

/-! mailcoach/mailcoachlaw03.RangesAny params 4 -/
def h7 : Hints := ⟨[(7, [8]), (6, [5, 6, 7, 9, 10, 11, 12, 13]), (5, [5, 6, 7, 9, 10, 11, 12]), (4, [5, 6, 7, 9, 10, 11]), (3, [5, 6, 7, 9]), (2, [8]), (1, [0, 5, 6, 7, 15]), (0, [0, 5, 6, 7])], [], [(4, [(0, []), (1, []), (3, []), (5, []), (6, []), (8, []), (2, [2, 4, 5]), (4, [4, 5]), (7, [5]), (9, []), (10, []), (11, [])]), (7, [(0, []), (1, []), (2, []), (3, []), (4, []), (5, []), (6, []), (7, []), (8, []), (9, []), (10, []), (11, []), (12, []), (13, []), (15, []), (16, []), (14, [15]), (17, []), (18, []), (19, []), (20, []), (21, []), (22, []), (23, []), (24, []), (25, []), (26, []), (27, []), (28, []), (29, []), (30, []), (31, []), (32, []), (34, []), (35, []), (33, [34]), (36, []), (37, []), (38, []), (39, []), (40, []), (41, []), (42, []), (43, []), (44, []), (45, [])])]⟩
def rs7 : List ARes := [.t 8]
def ac7 : ACode :=
 .seq (
  .reg [0, 5, 6, 7] [
    ⟨some 5, .op (.box (.t 1)), none⟩,
    ⟨some 6, .op (.box (.t 2)), none⟩,
    ⟨some 7, .op (.box (.t 3)), none⟩,
    ⟨some 8, .op (.mv (.c (.bool false))), none⟩]) (
  .seq (
   .seq (
    .reg [0, 5, 6, 7, 15] [
      ⟨some 14, .call (.c (.fn 9 [] [])) [], none⟩,
      ⟨some 15, .op (.un .not (.t 14)), none⟩]) (
    .cond (.t 15) (
     .seq (
      .reg [8] [
        ⟨some 8, .op (.mv (.c (.bool false))), none⟩]) (
      .ret)) (
     .skip))) (
   .seq (
    .reg [5, 6, 7, 9] [
      ⟨some 16, .op (.mv (.t 0)), none⟩,
      ⟨some 17, .call (.c (.fn 10 [] [])) [(.t 16)], none⟩,
      ⟨some 9, .op (.mv (.t 17)), none⟩]) (
    .seq (
     .dreg [5, 6, 7, 9, 10, 11] [
       (⟨some 18, .op (.mv (.t 9)), none⟩, []),
       (⟨some 19, .op (.ldn 2 (.t 5)), none⟩, []),
       (⟨some 21, .op (.ldn 2 (.t 6)), none⟩, []),
       (⟨some 23, .op (.mv (.t 9)), none⟩, []),
       (⟨some 24, .op (.ldn 2 (.t 6)), none⟩, []),
       (⟨some 26, .op (.ldn 2 (.t 5)), none⟩, []),
       (⟨some 20, .call (.c (.fn 11 [] [])) [(.t 18), (.t 19)], none⟩, [2, 4, 5]),
       (⟨some 22, .call (.c (.fn 11 [] [])) [(.t 20), (.t 21)], none⟩, [4, 5]),
       (⟨some 25, .call (.c (.fn 11 [] [])) [(.t 23), (.t 24)], none⟩, [5]),
       (⟨some 27, .call (.c (.fn 11 [] [])) [(.t 25), (.t 26)], none⟩, []),
       (⟨some 10, .op (.mv (.t 22)), none⟩, []),
       (⟨some 11, .op (.mv (.t 27)), none⟩, [])]) (
     .seq (
      .reg [5, 6, 7, 9, 10, 11, 12] [
        ⟨some 28, .op (.mv (.t 10)), none⟩,
        ⟨some 29, .op (.ldn 2 (.t 6)), none⟩,
        ⟨some 30, .call (.c (.fn 12 [] [])) [(.t 28), (.t 29)], none⟩,
        ⟨some 12, .op (.mv (.t 30)), none⟩]) (
      .seq (
       .reg [5, 6, 7, 9, 10, 11, 12, 13] [
         ⟨some 31, .op (.mkfn 19 [] [(.t 7)]), none⟩,
         ⟨some 13, .op (.mv (.t 31)), none⟩]) (
       .seq (
        .dreg [8] [
          (⟨some 32, .op (.mv (.t 10)), none⟩, []),
          (⟨some 33, .op (.mv (.t 11)), none⟩, []),
          (⟨some 34, .call (.c (.fn 13 [] [])) [(.t 32), (.t 33)], none⟩, []),
          (⟨some 35, .op (.mv (.t 34)), none⟩, []),
          (⟨some 36, .op (.mv (.t 10)), some (35, true)⟩, []),
          (⟨some 37, .call (.c (.fn 20 [] [])) [(.t 36)], some (35, true)⟩, []),
          (⟨some 38, .pick (.t 35) (.t 37) (.c (.bool false)), none⟩, []),
          (⟨some 39, .op (.mv (.t 38)), none⟩, []),
          (⟨some 40, .op (.mv (.t 12)), some (39, true)⟩, []),
          (⟨some 41, .call (.c (.fn 20 [] [])) [(.t 40)], some (39, true)⟩, []),
          (⟨some 42, .pick (.t 39) (.t 41) (.c (.bool false)), none⟩, []),
          (⟨some 43, .op (.mv (.t 42)), none⟩, []),
          (⟨some 44, .op (.mv (.t 10)), some (43, true)⟩, []),
          (⟨some 45, .op (.ld1 (.t 7)), some (43, true)⟩, []),
          (⟨some 47, .op (.mv (.t 9)), some (43, true)⟩, []),
          (⟨some 48, .op (.ld1 (.t 7)), some (43, true)⟩, []),
          (⟨some 46, .call (.c (.fn 18 [] [])) [(.t 44), (.t 45)], some (43, true)⟩, [15]),
          (⟨some 49, .call (.c (.fn 18 [] [])) [(.t 47), (.t 48)], some (43, true)⟩, []),
          (⟨some 50, .op (.mv (.t 49)), some (43, true)⟩, []),
          (⟨some 51, .op (.mv (.t 13)), some (50, false)⟩, []),
          (⟨some 52, .op (.ldn 2 (.t 5)), some (50, false)⟩, []),
          (⟨some 53, .call (.t 51) [(.t 52)], some (50, false)⟩, []),
          (⟨some 54, .pick (.t 50) (.c (.bool true)) (.t 53), some (43, true)⟩, []),
          (⟨some 55, .op (.mv (.t 54)), some (43, true)⟩, []),
          (⟨some 56, .op (.mv (.t 13)), some (55, false)⟩, []),
          (⟨some 57, .op (.ldn 2 (.t 6)), some (55, false)⟩, []),
          (⟨some 58, .call (.t 56) [(.t 57)], some (55, false)⟩, []),
          (⟨some 59, .pick (.t 55) (.c (.bool true)) (.t 58), some (43, true)⟩, []),
          (⟨some 60, .op (.eqb false (.t 46) (.t 59)), some (43, true)⟩, []),
          (⟨some 61, .pick (.t 43) (.t 60) (.c (.bool false)), none⟩, []),
          (⟨some 62, .op (.mv (.t 61)), none⟩, []),
          (⟨some 63, .op (.mv (.t 12)), some (62, true)⟩, []),
          (⟨some 64, .op (.ld1 (.t 7)), some (62, true)⟩, []),
          (⟨some 66, .op (.mv (.t 10)), some (62, true)⟩, []),
          (⟨some 67, .op (.ld1 (.t 7)), some (62, true)⟩, []),
          (⟨some 65, .call (.c (.fn 18 [] [])) [(.t 63), (.t 64)], some (62, true)⟩, [34]),
          (⟨some 68, .call (.c (.fn 18 [] [])) [(.t 66), (.t 67)], some (62, true)⟩, []),
          (⟨some 69, .op (.mv (.t 68)), some (62, true)⟩, []),
          (⟨some 70, .op (.mv (.t 13)), some (69, true)⟩, []),
          (⟨some 71, .op (.ldn 2 (.t 6)), some (69, true)⟩, []),
          (⟨some 72, .call (.t 70) [(.t 71)], some (69, true)⟩, []),
          (⟨some 73, .op (.un .not (.t 72)), some (69, true)⟩, []),
          (⟨some 74, .pick (.t 69) (.t 73) (.c (.bool false)), some (62, true)⟩, []),
          (⟨some 75, .op (.eqb false (.t 65) (.t 74)), some (62, true)⟩, []),
          (⟨some 76, .pick (.t 62) (.t 75) (.c (.bool false)), none⟩, []),
          (⟨some 8, .op (.mv (.t 76)), none⟩, [])]) (
        .ret)))))))
theorem cf7 : compF Try.prog Try.f7 h7 = some (ac7, rs7) := by kernel_rfl

/-! mailcoach/mailcoachlaw03.Awake params 0 -/
def h9 : Hints := ⟨[(3, [0]), (2, [1, 2]), (1, [1]), (0, [])], [], []⟩
def rs9 : List ARes := [.t 0]
def ac9 : ACode :=
 .seq (
  .reg [] [
    ⟨some 0, .op (.mv (.c (.bool false))), none⟩]) (
  .seq (
   .reg [1] [
     ⟨some 3, .op (.build [.int .u64 0, .int .u64 0] [(0, 1, (.c (.int .u64 1))), (1, 1, (.c (.int .u64 3)))]), none⟩,
     ⟨some 4, .op (.build [.int .u64 0, .int .u64 0] [(0, 1, (.c (.int .u64 5))), (1, 1, (.c (.int .u64 6)))]), none⟩,
     ⟨some 5, .op (.buildSl 2 [.int .u64 0, .int .u64 0] 2 [(0, (.t 3)), (1, (.t 4))]), none⟩,
     ⟨some 6, .op (.build [.int .u64 0, .int .u64 0] [(0, 1, (.c (.int .u64 3))), (1, 1, (.c (.int .u64 5)))]), none⟩,
     ⟨some 7, .call (.c (.fn 11 [] [])) [(.t 5), (.t 6)], none⟩,
     ⟨some 1, .op (.mv (.t 7)), none⟩]) (
   .seq (
    .reg [1, 2] [
      ⟨some 8, .op (.mv (.t 1)), none⟩,
      ⟨some 9, .op (.build [.int .u64 0, .int .u64 0] [(0, 1, (.c (.int .u64 2))), (1, 1, (.c (.int .u64 4)))]), none⟩,
      ⟨some 10, .call (.c (.fn 12 [] [])) [(.t 8), (.t 9)], none⟩,
      ⟨some 2, .op (.mv (.t 10)), none⟩]) (
    .seq (
     .reg [0] [
       ⟨some 11, .op (.mv (.t 1)), none⟩,
       ⟨some 12, .op (.len 1 (.t 11)), none⟩,
       ⟨some 13, .op (.bin .eql (.t 12) (.c (.int .i64 1))), none⟩,
       ⟨some 14, .op (.mv (.t 13)), none⟩,
       ⟨some 15, .op (.mv (.t 1)), some (14, true)⟩,
       ⟨some 16, .op (.idxAddr 2 (.t 15) (.c (.int .i64 0))), some (14, true)⟩,
       ⟨some 17, .op (.ldn 2 (.t 16)), some (14, true)⟩,
       ⟨some 18, .op (.build [.int .u64 0, .int .u64 0] [(0, 1, (.c (.int .u64 1))), (1, 1, (.c (.int .u64 6)))]), some (14, true)⟩,
       ⟨some 19, .op (.eqs false [1, 1] (.t 17) (.t 18)), some (14, true)⟩,
       ⟨some 20, .pick (.t 14) (.t 19) (.c (.bool false)), none⟩,
       ⟨some 21, .op (.mv (.t 20)), none⟩,
       ⟨some 22, .op (.mv (.t 2)), some (21, true)⟩,
       ⟨some 23, .op (.len 1 (.t 22)), some (21, true)⟩,
       ⟨some 24, .op (.bin .eql (.t 23) (.c (.int .i64 2))), some (21, true)⟩,
       ⟨some 25, .pick (.t 21) (.t 24) (.c (.bool false)), none⟩,
       ⟨some 26, .op (.mv (.t 25)), none⟩,
       ⟨some 27, .op (.mv (.t 2)), some (26, true)⟩,
       ⟨some 28, .op (.idxAddr 2 (.t 27) (.c (.int .i64 1))), some (26, true)⟩,
       ⟨some 29, .op (.ldn 2 (.t 28)), some (26, true)⟩,
       ⟨some 30, .op (.build [.int .u64 0, .int .u64 0] [(0, 1, (.c (.int .u64 4))), (1, 1, (.c (.int .u64 6)))]), some (26, true)⟩,
       ⟨some 31, .op (.eqs false [1, 1] (.t 29) (.t 30)), some (26, true)⟩,
       ⟨some 32, .pick (.t 26) (.t 31) (.c (.bool false)), none⟩,
       ⟨some 33, .op (.mv (.t 32)), none⟩,
       ⟨some 34, .op (.mv (.t 1)), some (33, true)⟩,
       ⟨some 35, .call (.c (.fn 17 [] [])) [(.t 34), (.c (.int .u64 3))], some (33, true)⟩,
       ⟨some 36, .op (.bin .eql (.t 35) (.c (.int .u64 6))), some (33, true)⟩,
       ⟨some 37, .pick (.t 33) (.t 36) (.c (.bool false)), none⟩,
       ⟨some 0, .op (.mv (.t 37)), none⟩]) (
     .ret))))
theorem cf9 : compF Try.prog Try.f9 h9 = some (ac9, rs9) := by kernel_rfl

/-! mailcoach/mailcoachlaw03.Right params 1 -/
def h10 : Hints := ⟨[(1, [2]), (0, [0])], [], []⟩
def rs10 : List ARes := [.t 2]
def ac10 : ACode :=
 .seq (
  .reg [0] [
    ⟨some 2, .op (.mv (.c (.nilsl))), none⟩]) (
  .seq (
   .reg [2] [
     ⟨some 3, .op (.mv (.t 0)), none⟩,
     ⟨some 4, .op (.mv (.t 0)), none⟩,
     ⟨some 5, .op (.len 1 (.t 4)), none⟩,
     ⟨some 6, .op (.minmax false (.t 5) (.c (.int .i64 40))), none⟩,
     ⟨some 7, .op (.slice 2 (.t 3) none (some (.t 6)) none), none⟩,
     ⟨some 8, .call (.c (.fn 14 [] [])) [(.t 7), (.c (.nilsl))], none⟩,
     ⟨some 2, .op (.mv (.t 8)), none⟩]) (
   .ret))
theorem cf10 : compF Try.prog Try.f10 h10 = some (ac10, rs10) := by kernel_rfl

/-! mailcoach/ranges.Add params 2 -/
def h11 : Hints := ⟨[(8, [4]), (7, [0, 3, 5, 6]), (6, [0, 3, 5, 6]), (5, [0, 3, 5, 6, 32]), (4, [0, 3, 5, 6]), (3, [0, 3, 5]), (2, [4]), (1, [0, 3, 11]), (0, [0, 3])], [(5, [0, 3, 5, 6])], [(5, [(0, []), (1, []), (2, []), (3, []), (4, []), (5, []), (6, []), (7, []), (8, []), (9, []), (10, []), (11, []), (12, []), (13, [])]), (6, [(0, []), (1, []), (2, []), (3, []), (4, []), (5, []), (6, []), (7, []), (8, []), (9, []), (10, []), (11, []), (12, []), (13, []), (14, []), (15, []), (16, []), (17, [14]), (18, []), (19, [])]), (8, [(0, []), (1, []), (2, []), (3, []), (4, []), (5, []), (6, []), (7, []), (8, []), (9, []), (10, [])])]⟩
def rs11 : List ARes := [.t 4]
def ac11 : ACode :=
 .seq (
  .reg [0, 3] [
    ⟨some 3, .op (.box (.t 1)), none⟩,
    ⟨some 4, .op (.mv (.c (.nilsl))), none⟩]) (
  .seq (
   .seq (
    .reg [0, 3, 11] [
      ⟨some 7, .op (.fieldAddr 0 (.t 3)), none⟩,
      ⟨some 8, .op (.ld1 (.t 7)), none⟩,
      ⟨some 9, .op (.fieldAddr 1 (.t 3)), none⟩,
      ⟨some 10, .op (.ld1 (.t 9)), none⟩,
      ⟨some 11, .op (.bin .geq (.t 8) (.t 10)), none⟩]) (
    .cond (.t 11) (
     .seq (
      .reg [4] [
        ⟨some 12, .op (.mv (.t 0)), none⟩,
        ⟨some 13, .call (.c (.fn 25 [] [])) [(.t 12)], none⟩,
        ⟨some 4, .op (.mv (.t 13)), none⟩]) (
      .ret)) (
     .skip))) (
   .seq (
    .reg [0, 3, 5] [
      ⟨some 14, .op (.mv (.t 0)), none⟩,
      ⟨some 15, .op (.fieldAddr 0 (.t 3)), none⟩,
      ⟨some 16, .op (.ld1 (.t 15)), none⟩,
      ⟨some 17, .call (.c (.fn 26 [] [])) [(.t 14), (.t 16)], none⟩,
      ⟨some 5, .op (.mv (.t 17)), none⟩]) (
    .seq (
     .reg [0, 3, 5, 6] [
       ⟨some 18, .op (.mv (.t 5)), none⟩,
       ⟨some 6, .op (.mv (.t 18)), none⟩]) (
     .seq (
      .block 0 (
       .loop [0, 3, 5, 6] (
        .seq (
         .seq (
          .dreg [0, 3, 5, 6, 32] [
            (⟨some 19, .op (.mv (.t 6)), none⟩, []),
            (⟨some 20, .op (.mv (.t 0)), none⟩, []),
            (⟨some 21, .op (.len 1 (.t 20)), none⟩, []),
            (⟨some 22, .op (.bin .lss (.t 19) (.t 21)), none⟩, []),
            (⟨some 23, .op (.mv (.t 22)), none⟩, []),
            (⟨some 24, .op (.mv (.t 0)), some (23, true)⟩, []),
            (⟨some 25, .op (.mv (.t 6)), some (23, true)⟩, []),
            (⟨some 26, .op (.idxAddr 2 (.t 24) (.t 25)), some (23, true)⟩, []),
            (⟨some 27, .op (.fieldAddr 0 (.t 26)), some (23, true)⟩, []),
            (⟨some 28, .op (.ld1 (.t 27)), some (23, true)⟩, []),
            (⟨some 29, .op (.fieldAddr 1 (.t 3)), some (23, true)⟩, []),
            (⟨some 30, .op (.ld1 (.t 29)), some (23, true)⟩, []),
            (⟨some 31, .op (.bin .leq (.t 28) (.t 30)), some (23, true)⟩, []),
            (⟨some 32, .pick (.t 23) (.t 31) (.c (.bool false)), none⟩, [])]) (
          .cond (.t 32) (
           .skip) (
           .exit 0))) (
         .block 1 (
          .seq (
           .dreg [0, 3, 5, 6] [
             (⟨some 33, .op (.fieldAddr 0 (.t 3)), none⟩, []),
             (⟨some 34, .op (.ld1 (.t 33)), none⟩, []),
             (⟨some 35, .op (.mv (.t 0)), none⟩, []),
             (⟨some 36, .op (.mv (.t 6)), none⟩, []),
             (⟨some 37, .op (.idxAddr 2 (.t 35) (.t 36)), none⟩, []),
             (⟨some 38, .op (.fieldAddr 0 (.t 37)), none⟩, []),
             (⟨some 39, .op (.ld1 (.t 38)), none⟩, []),
             (⟨some 40, .op (.minmax false (.t 34) (.t 39)), none⟩, []),
             (⟨some 41, .op (.fieldAddr 1 (.t 3)), none⟩, []),
             (⟨some 42, .op (.ld1 (.t 41)), none⟩, []),
             (⟨some 43, .op (.mv (.t 0)), none⟩, []),
             (⟨some 44, .op (.mv (.t 6)), none⟩, []),
             (⟨some 45, .op (.idxAddr 2 (.t 43) (.t 44)), none⟩, []),
             (⟨some 46, .op (.fieldAddr 1 (.t 45)), none⟩, []),
             (⟨some 47, .op (.ld1 (.t 46)), none⟩, []),
             (⟨some 48, .op (.minmax true (.t 42) (.t 47)), none⟩, []),
             (⟨some 49, .op (.fieldAddr 0 (.t 3)), none⟩, []),
             (⟨none, .op (.st 1 (.t 49) (.t 40)), none⟩, [14]),
             (⟨some 50, .op (.fieldAddr 1 (.t 3)), none⟩, []),
             (⟨none, .op (.st 1 (.t 50) (.t 48)), none⟩, [])]) (
           .reg [0, 3, 5, 6] [
             ⟨some 51, .op (.mv (.t 6)), none⟩,
             ⟨some 52, .op (.bin .add (.t 51) (.c (.int .i64 1))), none⟩,
             ⟨some 6, .op (.mv (.t 52)), none⟩])))))) (
      .seq (
       .dreg [4] [
         (⟨some 53, .op (.mv (.t 0)), none⟩, []),
         (⟨some 54, .op (.mv (.t 5)), none⟩, []),
         (⟨some 55, .op (.slice 2 (.t 53) none (some (.t 54)) none), none⟩, []),
         (⟨some 56, .op (.ldn 2 (.t 3)), none⟩, []),
         (⟨some 57, .op (.buildSl 2 [.int .u64 0, .int .u64 0] 1 [(0, (.t 56))]), none⟩, []),
         (⟨some 58, .op (.mv (.t 0)), none⟩, []),
         (⟨some 59, .op (.mv (.t 6)), none⟩, []),
         (⟨some 60, .op (.slice 2 (.t 58) (some (.t 59)) none none), none⟩, []),
         (⟨some 61, .op (.buildSl 1 [.nilsl] 3 [(0, (.t 55)), (1, (.t 57)), (2, (.t 60))]), none⟩, []),
         (⟨some 62, .call (.c (.fn 27 [] [])) [(.t 61)], none⟩, []),
         (⟨some 4, .op (.mv (.t 62)), none⟩, [])]) (
       .ret))))))
theorem cf11 : compF Try.prog Try.f11 h11 = some (ac11, rs11) := by kernel_rfl

/-! mailcoach/ranges.Remove params 2 -/
def h12 : Hints := ⟨[(12, [4]), (11, [3, 5, 8, 9, 10]), (10, [3, 5, 8, 9, 10]), (9, [3, 5, 7, 8, 9, 10, 54]), (8, [3, 5, 7, 8, 9, 10]), (7, [3, 5, 7, 8, 9, 10, 41]), (6, [3, 5, 8, 9, 10]), (5, [3, 5, 7, 8, 9, 10, 32]), (4, [3, 5, 7, 8, 9, 10]), (3, [3, 5, 8, 9, 10, 11]), (2, [3, 5, 8, 9, 10]), (1, [0, 3, 5]), (0, [0, 3])], [(3, [3, 5, 8, 9, 10])], []⟩
def rs12 : List ARes := [.t 4]
def ac12 : ACode :=
 .seq (
  .reg [0, 3] [
    ⟨some 3, .op (.box (.t 1)), none⟩,
    ⟨some 4, .op (.mv (.c (.nilsl))), none⟩]) (
  .seq (
   .reg [0, 3, 5] [
     ⟨some 5, .op (.mv (.c (.nilsl))), none⟩]) (
   .seq (
    .seq (
     .reg [3, 5, 8, 9, 10] [
       ⟨some 8, .op (.mv (.t 0)), none⟩,
       ⟨some 9, .op (.len 1 (.t 8)), none⟩,
       ⟨some 10, .op (.mv (.c (.int .i64 0))), none⟩]) (
     .block 0 (
      .loop [3, 5, 8, 9, 10] (
       .seq (
        .reg [3, 5, 8, 9, 10, 11] [
          ⟨some 11, .op (.bin .lss (.t 10) (.t 9)), none⟩]) (
        .seq (
         .cond (.t 11) (
          .skip) (
          .exit 0)) (
         .seq (
          .block 1 (
           .seq (
            .reg [3, 5, 7, 8, 9, 10] [
              ⟨some 12, .op (.idxAddr 2 (.t 8) (.t 10)), none⟩,
              ⟨some 13, .op (.ldn 2 (.t 12)), none⟩,
              ⟨some 7, .op (.alloc [.int .u64 0, .int .u64 0]), none⟩,
              ⟨none, .op (.st 2 (.t 7) (.t 13)), none⟩]) (
            .seq (
             .seq (
              .reg [3, 5, 7, 8, 9, 10, 32] [
                ⟨some 14, .op (.fieldAddr 0 (.t 3)), none⟩,
                ⟨some 15, .op (.ld1 (.t 14)), none⟩,
                ⟨some 16, .op (.fieldAddr 1 (.t 3)), none⟩,
                ⟨some 17, .op (.ld1 (.t 16)), none⟩,
                ⟨some 18, .op (.bin .geq (.t 15) (.t 17)), none⟩,
                ⟨some 19, .op (.mv (.t 18)), none⟩,
                ⟨some 20, .op (.fieldAddr 1 (.t 7)), some (19, false)⟩,
                ⟨some 21, .op (.ld1 (.t 20)), some (19, false)⟩,
                ⟨some 22, .op (.fieldAddr 0 (.t 3)), some (19, false)⟩,
                ⟨some 23, .op (.ld1 (.t 22)), some (19, false)⟩,
                ⟨some 24, .op (.bin .leq (.t 21) (.t 23)), some (19, false)⟩,
                ⟨some 25, .pick (.t 19) (.c (.bool true)) (.t 24), none⟩,
                ⟨some 26, .op (.mv (.t 25)), none⟩,
                ⟨some 27, .op (.fieldAddr 1 (.t 3)), some (26, false)⟩,
                ⟨some 28, .op (.ld1 (.t 27)), some (26, false)⟩,
                ⟨some 29, .op (.fieldAddr 0 (.t 7)), some (26, false)⟩,
                ⟨some 30, .op (.ld1 (.t 29)), some (26, false)⟩,
                ⟨some 31, .op (.bin .leq (.t 28) (.t 30)), some (26, false)⟩,
                ⟨some 32, .pick (.t 26) (.c (.bool true)) (.t 31), none⟩]) (
              .cond (.t 32) (
               .seq (
                .reg [3, 5, 8, 9, 10] [
                  ⟨some 33, .op (.mv (.t 5)), none⟩,
                  ⟨some 34, .op (.ldn 2 (.t 7)), none⟩,
                  ⟨some 35, .op (.buildSl 2 [.int .u64 0, .int .u64 0] 1 [(0, (.t 34))]), none⟩,
                  ⟨some 36, .op (.append 2 16 (.t 33) (.t 35)), none⟩,
                  ⟨some 5, .op (.mv (.t 36)), none⟩]) (
                .exit 1)) (
               .skip))) (
             .seq (
              .seq (
               .reg [3, 5, 7, 8, 9, 10, 41] [
                 ⟨some 37, .op (.fieldAddr 0 (.t 7)), none⟩,
                 ⟨some 38, .op (.ld1 (.t 37)), none⟩,
                 ⟨some 39, .op (.fieldAddr 0 (.t 3)), none⟩,
                 ⟨some 40, .op (.ld1 (.t 39)), none⟩,
                 ⟨some 41, .op (.bin .lss (.t 38) (.t 40)), none⟩]) (
               .cond (.t 41) (
                .reg [3, 5, 7, 8, 9, 10] [
                  ⟨some 42, .op (.mv (.t 5)), none⟩,
                  ⟨some 43, .op (.fieldAddr 0 (.t 7)), none⟩,
                  ⟨some 44, .op (.ld1 (.t 43)), none⟩,
                  ⟨some 45, .op (.fieldAddr 0 (.t 3)), none⟩,
                  ⟨some 46, .op (.ld1 (.t 45)), none⟩,
                  ⟨some 47, .op (.build [.int .u64 0, .int .u64 0] [(0, 1, (.t 44)), (1, 1, (.t 46))]), none⟩,
                  ⟨some 48, .op (.buildSl 2 [.int .u64 0, .int .u64 0] 1 [(0, (.t 47))]), none⟩,
                  ⟨some 49, .op (.append 2 16 (.t 42) (.t 48)), none⟩,
                  ⟨some 5, .op (.mv (.t 49)), none⟩]) (
                .skip))) (
              .seq (
               .reg [3, 5, 7, 8, 9, 10, 54] [
                 ⟨some 50, .op (.fieldAddr 1 (.t 3)), none⟩,
                 ⟨some 51, .op (.ld1 (.t 50)), none⟩,
                 ⟨some 52, .op (.fieldAddr 1 (.t 7)), none⟩,
                 ⟨some 53, .op (.ld1 (.t 52)), none⟩,
                 ⟨some 54, .op (.bin .lss (.t 51) (.t 53)), none⟩]) (
               .cond (.t 54) (
                .reg [3, 5, 8, 9, 10] [
                  ⟨some 55, .op (.mv (.t 5)), none⟩,
                  ⟨some 56, .op (.fieldAddr 1 (.t 3)), none⟩,
                  ⟨some 57, .op (.ld1 (.t 56)), none⟩,
                  ⟨some 58, .op (.fieldAddr 1 (.t 7)), none⟩,
                  ⟨some 59, .op (.ld1 (.t 58)), none⟩,
                  ⟨some 60, .op (.build [.int .u64 0, .int .u64 0] [(0, 1, (.t 57)), (1, 1, (.t 59))]), none⟩,
                  ⟨some 61, .op (.buildSl 2 [.int .u64 0, .int .u64 0] 1 [(0, (.t 60))]), none⟩,
                  ⟨some 62, .op (.append 2 16 (.t 55) (.t 61)), none⟩,
                  ⟨some 5, .op (.mv (.t 62)), none⟩]) (
                .skip))))))) (
          .reg [3, 5, 8, 9, 10] [
            ⟨some 63, .op (.bin .add (.t 10) (.c (.int .i64 1))), none⟩,
            ⟨some 10, .op (.mv (.t 63)), none⟩]))))))) (
    .seq (
     .reg [4] [
       ⟨some 64, .op (.mv (.t 5)), none⟩,
       ⟨some 4, .op (.mv (.t 64)), none⟩]) (
     .ret))))
theorem cf12 : compF Try.prog Try.f12 h12 = some (ac12, rs12) := by kernel_rfl

/-! mailcoach/mailcoachref03.Same params 2 -/
def h13 : Hints := ⟨[(8, [4]), (5, [0, 1, 5]), (7, [4]), (6, [0, 1, 5, 25]), (4, [0, 1, 5, 14]), (3, [0, 1, 5]), (2, [4]), (1, [0, 1, 10]), (0, [0, 1])], [(4, [0, 1, 5])], [(6, [(0, []), (1, []), (2, []), (3, []), (4, []), (5, []), (6, []), (7, []), (8, [])])]⟩
def rs13 : List ARes := [.t 4]
def ac13 : ACode :=
 .seq (
  .reg [0, 1] [
    ⟨some 4, .op (.mv (.c (.bool false))), none⟩]) (
  .seq (
   .seq (
    .reg [0, 1, 10] [
      ⟨some 6, .op (.mv (.t 0)), none⟩,
      ⟨some 7, .op (.len 1 (.t 6)), none⟩,
      ⟨some 8, .op (.mv (.t 1)), none⟩,
      ⟨some 9, .op (.len 1 (.t 8)), none⟩,
      ⟨some 10, .op (.bin .neq (.t 7) (.t 9)), none⟩]) (
    .cond (.t 10) (
     .seq (
      .reg [4] [
        ⟨some 4, .op (.mv (.c (.bool false))), none⟩]) (
      .ret)) (
     .skip))) (
   .seq (
    .seq (
     .reg [0, 1, 5] [
       ⟨some 5, .op (.mv (.c (.int .i64 0))), none⟩]) (
     .block 0 (
      .loop [0, 1, 5] (
       .seq (
        .seq (
         .reg [0, 1, 5, 14] [
           ⟨some 11, .op (.mv (.t 5)), none⟩,
           ⟨some 12, .op (.mv (.t 0)), none⟩,
           ⟨some 13, .op (.len 1 (.t 12)), none⟩,
           ⟨some 14, .op (.bin .lss (.t 11) (.t 13)), none⟩]) (
         .cond (.t 14) (
          .skip) (
          .exit 0))) (
        .seq (
         .block 1 (
          .seq (
           .dreg [0, 1, 5, 25] [
             (⟨some 17, .op (.mv (.t 0)), none⟩, []),
             (⟨some 18, .op (.mv (.t 5)), none⟩, []),
             (⟨some 19, .op (.idxAddr 2 (.t 17) (.t 18)), none⟩, []),
             (⟨some 20, .op (.ldn 2 (.t 19)), none⟩, []),
             (⟨some 21, .op (.mv (.t 1)), none⟩, []),
             (⟨some 22, .op (.mv (.t 5)), none⟩, []),
             (⟨some 23, .op (.idxAddr 2 (.t 21) (.t 22)), none⟩, []),
             (⟨some 24, .op (.ldn 2 (.t 23)), none⟩, []),
             (⟨some 25, .op (.eqs true [1, 1] (.t 20) (.t 24)), none⟩, [])]) (
           .cond (.t 25) (
            .seq (
             .reg [4] [
               ⟨some 4, .op (.mv (.c (.bool false))), none⟩]) (
             .ret)) (
            .skip)))) (
         .reg [0, 1, 5] [
           ⟨some 15, .op (.mv (.t 5)), none⟩,
           ⟨some 16, .op (.bin .add (.t 15) (.c (.int .i64 1))), none⟩,
           ⟨some 5, .op (.mv (.t 16)), none⟩])))))) (
    .seq (
     .reg [4] [
       ⟨some 4, .op (.mv (.c (.bool true))), none⟩]) (
     .ret))))
theorem cf13 : compF Try.prog Try.f13 h13 = some (ac13, rs13) := by kernel_rfl

/-! mailcoach/mailcoachref03.Set params 2 -/
def h14 : Hints := ⟨[(11, [4]), (5, [0, 1, 5, 6, 7]), (9, [0, 1, 5, 6, 7]), (10, [0, 1, 5, 6, 7]), (8, [0, 1, 5, 6, 7, 8, 53]), (7, [0, 1, 5, 6, 7, 8]), (6, [0, 1, 5, 6, 7, 36]), (4, [0, 1, 5, 6, 7, 19]), (3, [0, 1, 5, 6, 7]), (2, [0, 1, 5, 6]), (1, [0, 1, 5]), (0, [0, 1])], [(4, [0, 1, 5, 6, 7])], [(8, [(0, []), (1, []), (2, []), (3, []), (4, []), (5, []), (6, []), (7, []), (8, []), (9, []), (10, []), (11, []), (12, []), (13, []), (14, [])]), (10, [(0, []), (1, []), (2, []), (3, []), (4, []), (5, []), (6, []), (7, []), (8, []), (9, []), (10, []), (11, []), (12, []), (13, [])])]⟩
def rs14 : List ARes := [.t 4]
def ac14 : ACode :=
 .seq (
  .reg [0, 1] [
    ⟨some 4, .op (.mv (.c (.nilsl))), none⟩]) (
  .seq (
   .reg [0, 1, 5] [
     ⟨some 9, .op (.buildSl 2 [.int .u64 0, .int .u64 0] 0 []), none⟩,
     ⟨some 10, .op (.mv (.t 0)), none⟩,
     ⟨some 11, .op (.append 2 16 (.t 9) (.t 10)), none⟩,
     ⟨some 12, .op (.mv (.t 1)), none⟩,
     ⟨some 13, .op (.append 2 16 (.t 11) (.t 12)), none⟩,
     ⟨some 14, .call (.c (.fn 28 [] [])) [(.t 13)], none⟩,
     ⟨some 5, .op (.mv (.t 14)), none⟩]) (
   .seq (
    .reg [0, 1, 5, 6] [
      ⟨some 6, .op (.mv (.c (.nilsl))), none⟩]) (
    .seq (
     .seq (
      .reg [0, 1, 5, 6, 7] [
        ⟨some 7, .op (.mv (.c (.int .i64 0))), none⟩]) (
      .block 0 (
       .loop [0, 1, 5, 6, 7] (
        .seq (
         .seq (
          .reg [0, 1, 5, 6, 7, 19] [
            ⟨some 15, .op (.mv (.t 7)), none⟩,
            ⟨some 16, .op (.bin .add (.t 15) (.c (.int .i64 1))), none⟩,
            ⟨some 17, .op (.mv (.t 5)), none⟩,
            ⟨some 18, .op (.len 1 (.t 17)), none⟩,
            ⟨some 19, .op (.bin .lss (.t 16) (.t 18)), none⟩]) (
          .cond (.t 19) (
           .skip) (
           .exit 0))) (
         .seq (
          .block 1 (
           .seq (
            .seq (
             .reg [0, 1, 5, 6, 7, 36] [
               ⟨some 22, .op (.mv (.t 0)), none⟩,
               ⟨some 23, .op (.mv (.t 5)), none⟩,
               ⟨some 24, .op (.mv (.t 7)), none⟩,
               ⟨some 25, .op (.idxAddr 1 (.t 23) (.t 24)), none⟩,
               ⟨some 26, .op (.ld1 (.t 25)), none⟩,
               ⟨some 27, .call (.c (.fn 22 [] [])) [(.t 22), (.t 26)], none⟩,
               ⟨some 28, .op (.un .not (.t 27)), none⟩,
               ⟨some 29, .op (.mv (.t 28)), none⟩,
               ⟨some 30, .op (.mv (.t 1)), some (29, false)⟩,
               ⟨some 31, .op (.mv (.t 5)), some (29, false)⟩,
               ⟨some 32, .op (.mv (.t 7)), some (29, false)⟩,
               ⟨some 33, .op (.idxAddr 1 (.t 31) (.t 32)), some (29, false)⟩,
               ⟨some 34, .op (.ld1 (.t 33)), some (29, false)⟩,
               ⟨some 35, .call (.c (.fn 22 [] [])) [(.t 30), (.t 34)], some (29, false)⟩,
               ⟨some 36, .pick (.t 29) (.c (.bool true)) (.t 35), none⟩]) (
             .cond (.t 36) (
              .exit 1) (
              .skip))) (
            .seq (
             .reg [0, 1, 5, 6, 7, 8] [
               ⟨some 37, .op (.mv (.t 6)), none⟩,
               ⟨some 38, .op (.len 1 (.t 37)), none⟩,
               ⟨some 8, .op (.mv (.t 38)), none⟩]) (
             .seq (
              .dreg [0, 1, 5, 6, 7, 8, 53] [
                (⟨some 39, .op (.mv (.t 8)), none⟩, []),
                (⟨some 40, .op (.bin .gtr (.t 39) (.c (.int .i64 0))), none⟩, []),
                (⟨some 41, .op (.mv (.t 40)), none⟩, []),
                (⟨some 42, .op (.mv (.t 6)), some (41, true)⟩, []),
                (⟨some 43, .op (.mv (.t 8)), some (41, true)⟩, []),
                (⟨some 44, .op (.bin .sub (.t 43) (.c (.int .i64 1))), some (41, true)⟩, []),
                (⟨some 45, .op (.idxAddr 2 (.t 42) (.t 44)), some (41, true)⟩, []),
                (⟨some 46, .op (.fieldAddr 1 (.t 45)), some (41, true)⟩, []),
                (⟨some 47, .op (.ld1 (.t 46)), some (41, true)⟩, []),
                (⟨some 48, .op (.mv (.t 5)), some (41, true)⟩, []),
                (⟨some 49, .op (.mv (.t 7)), some (41, true)⟩, []),
                (⟨some 50, .op (.idxAddr 1 (.t 48) (.t 49)), some (41, true)⟩, []),
                (⟨some 51, .op (.ld1 (.t 50)), some (41, true)⟩, []),
                (⟨some 52, .op (.bin .eql (.t 47) (.t 51)), some (41, true)⟩, []),
                (⟨some 53, .pick (.t 41) (.t 52) (.c (.bool false)), none⟩, [])]) (
              .cond (.t 53) (
               .reg [0, 1, 5, 6, 7] [
                 ⟨some 54, .op (.mv (.t 6)), none⟩,
                 ⟨some 55, .op (.mv (.t 8)), none⟩,
                 ⟨some 56, .op (.bin .sub (.t 55) (.c (.int .i64 1))), none⟩,
                 ⟨some 57, .op (.mv (.t 5)), none⟩,
                 ⟨some 58, .op (.mv (.t 7)), none⟩,
                 ⟨some 59, .op (.bin .add (.t 58) (.c (.int .i64 1))), none⟩,
                 ⟨some 60, .op (.idxAddr 1 (.t 57) (.t 59)), none⟩,
                 ⟨some 61, .op (.ld1 (.t 60)), none⟩,
                 ⟨some 62, .op (.idxAddr 2 (.t 54) (.t 56)), none⟩,
                 ⟨some 63, .op (.fieldAddr 1 (.t 62)), none⟩,
                 ⟨none, .op (.st 1 (.t 63) (.t 61)), none⟩]) (
               .dreg [0, 1, 5, 6, 7] [
                 (⟨some 64, .op (.mv (.t 6)), none⟩, []),
                 (⟨some 65, .op (.mv (.t 5)), none⟩, []),
                 (⟨some 66, .op (.mv (.t 7)), none⟩, []),
                 (⟨some 67, .op (.idxAddr 1 (.t 65) (.t 66)), none⟩, []),
                 (⟨some 68, .op (.ld1 (.t 67)), none⟩, []),
                 (⟨some 69, .op (.mv (.t 5)), none⟩, []),
                 (⟨some 70, .op (.mv (.t 7)), none⟩, []),
                 (⟨some 71, .op (.bin .add (.t 70) (.c (.int .i64 1))), none⟩, []),
                 (⟨some 72, .op (.idxAddr 1 (.t 69) (.t 71)), none⟩, []),
                 (⟨some 73, .op (.ld1 (.t 72)), none⟩, []),
                 (⟨some 74, .op (.build [.int .u64 0, .int .u64 0] [(0, 1, (.t 68)), (1, 1, (.t 73))]), none⟩, []),
                 (⟨some 75, .op (.buildSl 2 [.int .u64 0, .int .u64 0] 1 [(0, (.t 74))]), none⟩, []),
                 (⟨some 76, .op (.append 2 16 (.t 64) (.t 75)), none⟩, []),
                 (⟨some 6, .op (.mv (.t 76)), none⟩, [])])))))) (
          .reg [0, 1, 5, 6, 7] [
            ⟨some 20, .op (.mv (.t 7)), none⟩,
            ⟨some 21, .op (.bin .add (.t 20) (.c (.int .i64 1))), none⟩,
            ⟨some 7, .op (.mv (.t 21)), none⟩])))))) (
     .seq (
      .reg [4] [
        ⟨some 77, .op (.mv (.t 6)), none⟩,
        ⟨some 4, .op (.mv (.t 77)), none⟩]) (
      .ret)))))
theorem cf14 : compF Try.prog Try.f14 h14 = some (ac14, rs14) := by kernel_rfl

/-! mailcoach/ranges.Gap params 2 -/
def h17 : Hints := ⟨[(7, [4]), (6, [1, 7, 8, 9]), (5, [1, 7, 8, 9]), (4, [1, 6, 7, 8, 9, 22]), (3, [1, 6, 7, 8, 9]), (2, [1, 7, 8, 9, 10]), (1, [1, 7, 8, 9]), (0, [0, 1])], [(2, [1, 7, 8, 9])], []⟩
def rs17 : List ARes := [.t 4]
def ac17 : ACode :=
 .seq (
  .reg [0, 1] [
    ⟨some 4, .op (.mv (.c (.int .u64 0))), none⟩]) (
  .seq (
   .seq (
    .reg [1, 7, 8, 9] [
      ⟨some 7, .op (.mv (.t 0)), none⟩,
      ⟨some 8, .op (.len 1 (.t 7)), none⟩,
      ⟨some 9, .op (.mv (.c (.int .i64 0))), none⟩]) (
    .block 0 (
     .loop [1, 7, 8, 9] (
      .seq (
       .reg [1, 7, 8, 9, 10] [
         ⟨some 10, .op (.bin .lss (.t 9) (.t 8)), none⟩]) (
       .seq (
        .cond (.t 10) (
         .skip) (
         .exit 0)) (
        .seq (
         .block 1 (
          .seq (
           .reg [1, 6, 7, 8, 9] [
             ⟨some 11, .op (.idxAddr 2 (.t 7) (.t 9)), none⟩,
             ⟨some 12, .op (.ldn 2 (.t 11)), none⟩,
             ⟨some 6, .op (.alloc [.int .u64 0, .int .u64 0]), none⟩,
             ⟨none, .op (.st 2 (.t 6) (.t 12)), none⟩]) (
           .seq (
            .reg [1, 6, 7, 8, 9, 22] [
              ⟨some 13, .op (.fieldAddr 0 (.t 6)), none⟩,
              ⟨some 14, .op (.ld1 (.t 13)), none⟩,
              ⟨some 15, .op (.mv (.t 1)), none⟩,
              ⟨some 16, .op (.bin .leq (.t 14) (.t 15)), none⟩,
              ⟨some 17, .op (.mv (.t 16)), none⟩,
              ⟨some 18, .op (.mv (.t 1)), some (17, true)⟩,
              ⟨some 19, .op (.fieldAddr 1 (.t 6)), some (17, true)⟩,
              ⟨some 20, .op (.ld1 (.t 19)), some (17, true)⟩,
              ⟨some 21, .op (.bin .lss (.t 18) (.t 20)), some (17, true)⟩,
              ⟨some 22, .pick (.t 17) (.t 21) (.c (.bool false)), none⟩]) (
            .cond (.t 22) (
             .reg [1, 7, 8, 9] [
               ⟨some 23, .op (.fieldAddr 1 (.t 6)), none⟩,
               ⟨some 24, .op (.ld1 (.t 23)), none⟩,
               ⟨some 1, .op (.mv (.t 24)), none⟩]) (
             .skip))))) (
         .reg [1, 7, 8, 9] [
           ⟨some 25, .op (.bin .add (.t 9) (.c (.int .i64 1))), none⟩,
           ⟨some 9, .op (.mv (.t 25)), none⟩]))))))) (
   .seq (
    .reg [4] [
      ⟨some 26, .op (.mv (.t 1)), none⟩,
      ⟨some 4, .op (.mv (.t 26)), none⟩]) (
    .ret)))
theorem cf17 : compF Try.prog Try.f17 h17 = some (ac17, rs17) := by kernel_rfl

/-! mailcoach/ranges.Has params 2 -/
def h18 : Hints := ⟨[(6, [4]), (3, [0, 1, 5]), (5, [4]), (4, [0, 1, 5, 30]), (2, [0, 1, 5, 21]), (1, [0, 1, 5]), (0, [0, 1])], [(2, [0, 1, 5])], []⟩
def rs18 : List ARes := [.t 4]
def ac18 : ACode :=
 .seq (
  .reg [0, 1] [
    ⟨some 4, .op (.mv (.c (.bool false))), none⟩]) (
  .seq (
   .reg [0, 1, 5] [
     ⟨some 6, .op (.mv (.t 0)), none⟩,
     ⟨some 7, .op (.mv (.t 1)), none⟩,
     ⟨some 8, .call (.c (.fn 26 [] [])) [(.t 6), (.t 7)], none⟩,
     ⟨some 5, .op (.mv (.t 8)), none⟩]) (
   .seq (
    .block 0 (
     .loop [0, 1, 5] (
      .seq (
       .seq (
        .reg [0, 1, 5, 21] [
          ⟨some 9, .op (.mv (.t 5)), none⟩,
          ⟨some 10, .op (.mv (.t 0)), none⟩,
          ⟨some 11, .op (.len 1 (.t 10)), none⟩,
          ⟨some 12, .op (.bin .lss (.t 9) (.t 11)), none⟩,
          ⟨some 13, .op (.mv (.t 12)), none⟩,
          ⟨some 14, .op (.mv (.t 0)), some (13, true)⟩,
          ⟨some 15, .op (.mv (.t 5)), some (13, true)⟩,
          ⟨some 16, .op (.idxAddr 2 (.t 14) (.t 15)), some (13, true)⟩,
          ⟨some 17, .op (.fieldAddr 0 (.t 16)), some (13, true)⟩,
          ⟨some 18, .op (.ld1 (.t 17)), some (13, true)⟩,
          ⟨some 19, .op (.mv (.t 1)), some (13, true)⟩,
          ⟨some 20, .op (.bin .leq (.t 18) (.t 19)), some (13, true)⟩,
          ⟨some 21, .pick (.t 13) (.t 20) (.c (.bool false)), none⟩]) (
        .cond (.t 21) (
         .skip) (
         .exit 0))) (
       .seq (
        .block 1 (
         .seq (
          .reg [0, 1, 5, 30] [
            ⟨some 24, .op (.mv (.t 1)), none⟩,
            ⟨some 25, .op (.mv (.t 0)), none⟩,
            ⟨some 26, .op (.mv (.t 5)), none⟩,
            ⟨some 27, .op (.idxAddr 2 (.t 25) (.t 26)), none⟩,
            ⟨some 28, .op (.fieldAddr 1 (.t 27)), none⟩,
            ⟨some 29, .op (.ld1 (.t 28)), none⟩,
            ⟨some 30, .op (.bin .lss (.t 24) (.t 29)), none⟩]) (
          .cond (.t 30) (
           .seq (
            .reg [4] [
              ⟨some 4, .op (.mv (.c (.bool true))), none⟩]) (
            .ret)) (
           .skip)))) (
        .reg [0, 1, 5] [
          ⟨some 22, .op (.mv (.t 5)), none⟩,
          ⟨some 23, .op (.bin .add (.t 22) (.c (.int .i64 1))), none⟩,
          ⟨some 5, .op (.mv (.t 23)), none⟩]))))) (
    .seq (
     .reg [4] [
       ⟨some 4, .op (.mv (.c (.bool false))), none⟩]) (
     .ret))))
theorem cf18 : compF Try.prog Try.f18 h18 = some (ac18, rs18) := by kernel_rfl

/-! mailcoach/mailcoachlaw03.RangesAny$1 params 2 -/
def h19 : Hints := ⟨[(1, [3]), (0, [1, 2])], [], []⟩
def rs19 : List ARes := [.t 3]
def ac19 : ACode :=
 .seq (
  .reg [1, 2] [
    ⟨some 2, .op (.box (.t 0)), none⟩,
    ⟨some 3, .op (.mv (.c (.bool false))), none⟩]) (
  .seq (
   .reg [3] [
     ⟨some 4, .op (.fieldAddr 0 (.t 2)), none⟩,
     ⟨some 5, .op (.ld1 (.t 4)), none⟩,
     ⟨some 6, .op (.ld1 (.t 1)), none⟩,
     ⟨some 7, .op (.bin .leq (.t 5) (.t 6)), none⟩,
     ⟨some 8, .op (.mv (.t 7)), none⟩,
     ⟨some 9, .op (.ld1 (.t 1)), some (8, true)⟩,
     ⟨some 10, .op (.fieldAddr 1 (.t 2)), some (8, true)⟩,
     ⟨some 11, .op (.ld1 (.t 10)), some (8, true)⟩,
     ⟨some 12, .op (.bin .lss (.t 9) (.t 11)), some (8, true)⟩,
     ⟨some 13, .pick (.t 8) (.t 12) (.c (.bool false)), none⟩,
     ⟨some 3, .op (.mv (.t 13)), none⟩]) (
   .ret))
theorem cf19 : compF Try.prog Try.f19 h19 = some (ac19, rs19) := by kernel_rfl

/-! mailcoach/ranges.Check params 1 -/
def h20 : Hints := ⟨[(7, [2]), (6, [0, 5, 6, 7]), (5, [2]), (4, [0, 5, 6, 7, 31]), (3, [0, 3, 4, 5, 6, 7]), (2, [0, 5, 6, 7, 8]), (1, [0, 5, 6, 7]), (0, [0])], [(2, [0, 5, 6, 7])], [(4, [(0, []), (1, []), (2, []), (3, []), (4, []), (5, []), (6, []), (7, []), (8, []), (9, []), (10, []), (11, []), (12, []), (13, []), (14, []), (15, []), (16, []), (17, []), (18, []), (19, [])])]⟩
def rs20 : List ARes := [.t 2]
def ac20 : ACode :=
 .seq (
  .reg [0] [
    ⟨some 2, .op (.mv (.c (.bool false))), none⟩]) (
  .seq (
   .seq (
    .reg [0, 5, 6, 7] [
      ⟨some 5, .op (.mv (.t 0)), none⟩,
      ⟨some 6, .op (.len 1 (.t 5)), none⟩,
      ⟨some 7, .op (.mv (.c (.int .i64 0))), none⟩]) (
    .block 0 (
     .loop [0, 5, 6, 7] (
      .seq (
       .reg [0, 5, 6, 7, 8] [
         ⟨some 8, .op (.bin .lss (.t 7) (.t 6)), none⟩]) (
       .seq (
        .cond (.t 8) (
         .skip) (
         .exit 0)) (
        .seq (
         .block 1 (
          .seq (
           .reg [0, 3, 4, 5, 6, 7] [
             ⟨some 9, .op (.mv (.t 7)), none⟩,
             ⟨some 10, .op (.idxAddr 2 (.t 5) (.t 7)), none⟩,
             ⟨some 11, .op (.ldn 2 (.t 10)), none⟩,
             ⟨some 4, .op (.alloc [.int .u64 0, .int .u64 0]), none⟩,
             ⟨some 3, .op (.mv (.t 9)), none⟩,
             ⟨none, .op (.st 2 (.t 4) (.t 11)), none⟩]) (
           .seq (
            .dreg [0, 5, 6, 7, 31] [
              (⟨some 12, .op (.fieldAddr 0 (.t 4)), none⟩, []),
              (⟨some 13, .op (.ld1 (.t 12)), none⟩, []),
              (⟨some 14, .op (.fieldAddr 1 (.t 4)), none⟩, []),
              (⟨some 15, .op (.ld1 (.t 14)), none⟩, []),
              (⟨some 16, .op (.bin .geq (.t 13) (.t 15)), none⟩, []),
              (⟨some 17, .op (.mv (.t 16)), none⟩, []),
              (⟨some 18, .op (.mv (.t 3)), some (17, false)⟩, []),
              (⟨some 19, .op (.bin .gtr (.t 18) (.c (.int .i64 0))), some (17, false)⟩, []),
              (⟨some 20, .op (.mv (.t 19)), some (17, false)⟩, []),
              (⟨some 21, .op (.mv (.t 0)), some (20, true)⟩, []),
              (⟨some 22, .op (.mv (.t 3)), some (20, true)⟩, []),
              (⟨some 23, .op (.bin .sub (.t 22) (.c (.int .i64 1))), some (20, true)⟩, []),
              (⟨some 24, .op (.idxAddr 2 (.t 21) (.t 23)), some (20, true)⟩, []),
              (⟨some 25, .op (.fieldAddr 1 (.t 24)), some (20, true)⟩, []),
              (⟨some 26, .op (.ld1 (.t 25)), some (20, true)⟩, []),
              (⟨some 27, .op (.fieldAddr 0 (.t 4)), some (20, true)⟩, []),
              (⟨some 28, .op (.ld1 (.t 27)), some (20, true)⟩, []),
              (⟨some 29, .op (.bin .geq (.t 26) (.t 28)), some (20, true)⟩, []),
              (⟨some 30, .pick (.t 20) (.t 29) (.c (.bool false)), some (17, false)⟩, []),
              (⟨some 31, .pick (.t 17) (.c (.bool true)) (.t 30), none⟩, [])]) (
            .cond (.t 31) (
             .seq (
              .reg [2] [
                ⟨some 2, .op (.mv (.c (.bool false))), none⟩]) (
              .ret)) (
             .skip))))) (
         .reg [0, 5, 6, 7] [
           ⟨some 32, .op (.bin .add (.t 7) (.c (.int .i64 1))), none⟩,
           ⟨some 7, .op (.mv (.t 32)), none⟩]))))))) (
   .seq (
    .reg [2] [
      ⟨some 2, .op (.mv (.c (.bool true))), none⟩]) (
    .ret)))
theorem cf20 : compF Try.prog Try.f20 h20 = some (ac20, rs20) := by kernel_rfl

/-! mailcoach/mailcoachref03.In params 2 -/
def h22 : Hints := ⟨[(6, [4]), (3, [0, 1, 5]), (5, [4]), (4, [0, 1, 5, 27]), (2, [0, 1, 5, 9]), (1, [0, 1, 5]), (0, [0, 1])], [(2, [0, 1, 5])], []⟩
def rs22 : List ARes := [.t 4]
def ac22 : ACode :=
 .seq (
  .reg [0, 1] [
    ⟨some 4, .op (.mv (.c (.bool false))), none⟩]) (
  .seq (
   .seq (
    .reg [0, 1, 5] [
      ⟨some 5, .op (.mv (.c (.int .i64 0))), none⟩]) (
    .block 0 (
     .loop [0, 1, 5] (
      .seq (
       .seq (
        .reg [0, 1, 5, 9] [
          ⟨some 6, .op (.mv (.t 5)), none⟩,
          ⟨some 7, .op (.mv (.t 0)), none⟩,
          ⟨some 8, .op (.len 1 (.t 7)), none⟩,
          ⟨some 9, .op (.bin .lss (.t 6) (.t 8)), none⟩]) (
        .cond (.t 9) (
         .skip) (
         .exit 0))) (
       .seq (
        .block 1 (
         .seq (
          .reg [0, 1, 5, 27] [
            ⟨some 12, .op (.mv (.t 0)), none⟩,
            ⟨some 13, .op (.mv (.t 5)), none⟩,
            ⟨some 14, .op (.idxAddr 2 (.t 12) (.t 13)), none⟩,
            ⟨some 15, .op (.fieldAddr 0 (.t 14)), none⟩,
            ⟨some 16, .op (.ld1 (.t 15)), none⟩,
            ⟨some 17, .op (.mv (.t 1)), none⟩,
            ⟨some 18, .op (.bin .leq (.t 16) (.t 17)), none⟩,
            ⟨some 19, .op (.mv (.t 18)), none⟩,
            ⟨some 20, .op (.mv (.t 1)), some (19, true)⟩,
            ⟨some 21, .op (.mv (.t 0)), some (19, true)⟩,
            ⟨some 22, .op (.mv (.t 5)), some (19, true)⟩,
            ⟨some 23, .op (.idxAddr 2 (.t 21) (.t 22)), some (19, true)⟩,
            ⟨some 24, .op (.fieldAddr 1 (.t 23)), some (19, true)⟩,
            ⟨some 25, .op (.ld1 (.t 24)), some (19, true)⟩,
            ⟨some 26, .op (.bin .lss (.t 20) (.t 25)), some (19, true)⟩,
            ⟨some 27, .pick (.t 19) (.t 26) (.c (.bool false)), none⟩]) (
          .cond (.t 27) (
           .seq (
            .reg [4] [
              ⟨some 4, .op (.mv (.c (.bool true))), none⟩]) (
            .ret)) (
           .skip)))) (
        .reg [0, 1, 5] [
          ⟨some 10, .op (.mv (.t 5)), none⟩,
          ⟨some 11, .op (.bin .add (.t 10) (.c (.int .i64 1))), none⟩,
          ⟨some 5, .op (.mv (.t 11)), none⟩])))))) (
   .seq (
    .reg [4] [
      ⟨some 4, .op (.mv (.c (.bool false))), none⟩]) (
    .ret)))
theorem cf22 : compF Try.prog Try.f22 h22 = some (ac22, rs22) := by kernel_rfl

/-! slices.Clone[[]mailcoach/api.Range,mailcoach/api.Range] params 1 -/
def h25 : Hints := ⟨[(3, [2]), (2, [2]), (1, [0, 4]), (0, [0])], [], []⟩
def rs25 : List ARes := [.t 2]
def ac25 : ACode :=
 .seq (
  .reg [0] [
    ⟨some 2, .op (.mv (.c (.nilsl))), none⟩]) (
  .seq (
   .seq (
    .reg [0, 4] [
      ⟨some 3, .op (.mv (.t 0)), none⟩,
      ⟨some 4, .op (.eqn 1 false (.t 3) (.c (.nilsl))), none⟩]) (
    .cond (.t 4) (
     .seq (
      .reg [2] [
        ⟨some 2, .op (.mv (.c (.nilsl))), none⟩]) (
      .ret)) (
     .skip))) (
   .seq (
    .reg [2] [
      ⟨some 5, .op (.buildSl 2 [.int .u64 0, .int .u64 0] 0 []), none⟩,
      ⟨some 6, .op (.mv (.t 0)), none⟩,
      ⟨some 7, .op (.append 2 16 (.t 5) (.t 6)), none⟩,
      ⟨some 2, .op (.mv (.t 7)), none⟩]) (
    .ret)))
theorem cf25 : compF Try.prog Try.f25 h25 = some (ac25, rs25) := by kernel_rfl

/-! mailcoach/ranges.behind params 2 -/
def h26 : Hints := ⟨[(2, [4]), (1, [5]), (0, [0, 1])], [], []⟩
def rs26 : List ARes := [.t 4]
def ac26 : ACode :=
 .seq (
  .reg [0, 1] [
    ⟨some 4, .op (.mv (.c (.int .i64 0))), none⟩]) (
  .seq (
   .reg [5] [
     ⟨some 8, .op (.mv (.t 0)), none⟩,
     ⟨some 9, .op (.mv (.t 1)), none⟩,
     ⟨some 10, .call (.c (.fn 29 [] [])) [(.t 8), (.t 9), (.c (.fn 30 [] []))], none⟩,
     ⟨some 7, .op (.mv (.t 10)), none⟩,
     ⟨some 11, .op (.extract (.t 7) 0), none⟩,
     ⟨some 12, .op (.extract (.t 7) 1), none⟩,
     ⟨some 5, .op (.mv (.t 11)), none⟩,
     ⟨some 6, .op (.mv (.t 12)), none⟩]) (
   .seq (
    .reg [4] [
      ⟨some 13, .op (.mv (.t 5)), none⟩,
      ⟨some 4, .op (.mv (.t 13)), none⟩]) (
    .ret)))
theorem cf26 : compF Try.prog Try.f26 h26 = some (ac26, rs26) := by kernel_rfl

/-! slices.Concat[[]mailcoach/api.Range,mailcoach/api.Range] params 1 -/
def h27 : Hints := ⟨[(15, [2]), (14, [6, 25, 26, 27]), (13, [6, 25, 26, 27]), (12, [6, 8, 25, 26, 27]), (11, [6, 25, 26, 27, 28]), (10, [6, 25, 26, 27]), (9, [0, 6]), (8, [0, 3, 9, 10, 11]), (7, [0, 3, 9, 10, 11]), (6, [0, 3, 9, 10, 11, 20]), (5, [0, 3, 9, 10, 11]), (4, [0, 3, 5, 9, 10, 11]), (3, [0, 3, 9, 10, 11, 12]), (2, [0, 3, 9, 10, 11]), (1, [0, 3]), (0, [0])], [(11, [6, 25, 26, 27]), (3, [0, 3, 9, 10, 11])], []⟩
def rs27 : List ARes := [.t 2]
def ac27 : ACode :=
 .seq (
  .reg [0] [
    ⟨some 2, .op (.mv (.c (.nilsl))), none⟩]) (
  .seq (
   .reg [0, 3] [
     ⟨some 3, .op (.mv (.c (.int .i64 0))), none⟩]) (
   .seq (
    .seq (
     .reg [0, 3, 9, 10, 11] [
       ⟨some 9, .op (.mv (.t 0)), none⟩,
       ⟨some 10, .op (.len 1 (.t 9)), none⟩,
       ⟨some 11, .op (.mv (.c (.int .i64 0))), none⟩]) (
     .block 0 (
      .loop [0, 3, 9, 10, 11] (
       .seq (
        .reg [0, 3, 9, 10, 11, 12] [
          ⟨some 12, .op (.bin .lss (.t 11) (.t 10)), none⟩]) (
        .seq (
         .cond (.t 12) (
          .skip) (
          .exit 0)) (
         .seq (
          .block 1 (
           .seq (
            .reg [0, 3, 5, 9, 10, 11] [
              ⟨some 13, .op (.idxAddr 1 (.t 9) (.t 11)), none⟩,
              ⟨some 14, .op (.ld1 (.t 13)), none⟩,
              ⟨some 5, .op (.mv (.t 14)), none⟩]) (
            .seq (
             .reg [0, 3, 9, 10, 11] [
               ⟨some 15, .op (.mv (.t 3)), none⟩,
               ⟨some 16, .op (.mv (.t 5)), none⟩,
               ⟨some 17, .op (.len 1 (.t 16)), none⟩,
               ⟨some 18, .op (.bin .add (.t 15) (.t 17)), none⟩,
               ⟨some 3, .op (.mv (.t 18)), none⟩]) (
             .seq (
              .reg [0, 3, 9, 10, 11, 20] [
                ⟨some 19, .op (.mv (.t 3)), none⟩,
                ⟨some 20, .op (.bin .lss (.t 19) (.c (.int .i64 0))), none⟩]) (
              .cond (.t 20) (
               .reg [0, 3, 9, 10, 11] [
                 ⟨some 21, .op (.mkIface 9 (.c (.str ⟨#[108, 101, 110, 32, 111, 117, 116, 32, 111, 102, 32, 114, 97, 110, 103, 101]⟩))), none⟩,
                 ⟨none, .op (.stuck), none⟩]) (
               .skip)))))) (
          .reg [0, 3, 9, 10, 11] [
            ⟨some 22, .op (.bin .add (.t 11) (.c (.int .i64 1))), none⟩,
            ⟨some 11, .op (.mv (.t 22)), none⟩]))))))) (
    .seq (
     .reg [0, 6] [
       ⟨some 23, .op (.mv (.t 3)), none⟩,
       ⟨some 24, .call (.c (.fn 31 [] [])) [(.c (.nilsl)), (.t 23)], none⟩,
       ⟨some 6, .op (.mv (.t 24)), none⟩]) (
     .seq (
      .seq (
       .reg [6, 25, 26, 27] [
         ⟨some 25, .op (.mv (.t 0)), none⟩,
         ⟨some 26, .op (.len 1 (.t 25)), none⟩,
         ⟨some 27, .op (.mv (.c (.int .i64 0))), none⟩]) (
       .block 2 (
        .loop [6, 25, 26, 27] (
         .seq (
          .reg [6, 25, 26, 27, 28] [
            ⟨some 28, .op (.bin .lss (.t 27) (.t 26)), none⟩]) (
          .seq (
           .cond (.t 28) (
            .skip) (
            .exit 2)) (
           .seq (
            .block 3 (
             .seq (
              .reg [6, 8, 25, 26, 27] [
                ⟨some 29, .op (.idxAddr 1 (.t 25) (.t 27)), none⟩,
                ⟨some 30, .op (.ld1 (.t 29)), none⟩,
                ⟨some 8, .op (.mv (.t 30)), none⟩]) (
              .reg [6, 25, 26, 27] [
                ⟨some 31, .op (.mv (.t 6)), none⟩,
                ⟨some 32, .op (.mv (.t 8)), none⟩,
                ⟨some 33, .op (.append 2 16 (.t 31) (.t 32)), none⟩,
                ⟨some 6, .op (.mv (.t 33)), none⟩]))) (
            .reg [6, 25, 26, 27] [
              ⟨some 34, .op (.bin .add (.t 27) (.c (.int .i64 1))), none⟩,
              ⟨some 27, .op (.mv (.t 34)), none⟩]))))))) (
      .seq (
       .reg [2] [
         ⟨some 35, .op (.mv (.t 6)), none⟩,
         ⟨some 2, .op (.mv (.t 35)), none⟩]) (
       .ret))))))
theorem cf27 : compF Try.prog Try.f27 h27 = some (ac27, rs27) := by kernel_rfl

/-! mailcoach/mailcoachref03.ends params 1 -/
def h28 : Hints := ⟨[(6, [2]), (4, [0, 3, 4]), (5, [0, 3, 4]), (3, [0, 3, 4, 8]), (2, [0, 3, 4]), (1, [0, 3]), (0, [0])], [(3, [0, 3, 4])], [(5, [(0, []), (1, []), (2, []), (3, []), (4, []), (5, []), (7, []), (8, []), (9, []), (10, []), (11, []), (6, [10]), (12, []), (13, [])])]⟩
def rs28 : List ARes := [.t 2]
def ac28 : ACode :=
 .seq (
  .reg [0] [
    ⟨some 2, .op (.mv (.c (.nilsl))), none⟩]) (
  .seq (
   .reg [0, 3] [
     ⟨some 3, .op (.mv (.c (.nilsl))), none⟩]) (
   .seq (
    .seq (
     .reg [0, 3, 4] [
       ⟨some 4, .op (.mv (.c (.int .i64 0))), none⟩]) (
     .block 0 (
      .loop [0, 3, 4] (
       .seq (
        .seq (
         .reg [0, 3, 4, 8] [
           ⟨some 5, .op (.mv (.t 4)), none⟩,
           ⟨some 6, .op (.mv (.t 0)), none⟩,
           ⟨some 7, .op (.len 1 (.t 6)), none⟩,
           ⟨some 8, .op (.bin .lss (.t 5) (.t 7)), none⟩]) (
         .cond (.t 8) (
          .skip) (
          .exit 0))) (
        .seq (
         .block 1 (
          .dreg [0, 3, 4] [
            (⟨some 11, .op (.mv (.t 3)), none⟩, []),
            (⟨some 12, .op (.mv (.t 0)), none⟩, []),
            (⟨some 13, .op (.mv (.t 4)), none⟩, []),
            (⟨some 14, .op (.idxAddr 2 (.t 12) (.t 13)), none⟩, []),
            (⟨some 15, .op (.fieldAddr 0 (.t 14)), none⟩, []),
            (⟨some 16, .op (.ld1 (.t 15)), none⟩, []),
            (⟨some 18, .op (.mv (.t 0)), none⟩, []),
            (⟨some 19, .op (.mv (.t 4)), none⟩, []),
            (⟨some 20, .op (.idxAddr 2 (.t 18) (.t 19)), none⟩, []),
            (⟨some 21, .op (.fieldAddr 1 (.t 20)), none⟩, []),
            (⟨some 22, .op (.ld1 (.t 21)), none⟩, []),
            (⟨some 17, .call (.c (.fn 32 [] [])) [(.t 11), (.t 16)], none⟩, [10]),
            (⟨some 23, .call (.c (.fn 32 [] [])) [(.t 17), (.t 22)], none⟩, []),
            (⟨some 3, .op (.mv (.t 23)), none⟩, [])])) (
         .reg [0, 3, 4] [
           ⟨some 9, .op (.mv (.t 4)), none⟩,
           ⟨some 10, .op (.bin .add (.t 9) (.c (.int .i64 1))), none⟩,
           ⟨some 4, .op (.mv (.t 10)), none⟩])))))) (
    .seq (
     .reg [2] [
       ⟨some 24, .op (.mv (.t 3)), none⟩,
       ⟨some 2, .op (.mv (.t 24)), none⟩]) (
     .ret))))
theorem cf28 : compF Try.prog Try.f28 h28 = some (ac28, rs28) := by kernel_rfl

/-! slices.BinarySearchFunc[[]mailcoach/api.Range,mailcoach/api.Range,uint64] params 3 -/
def h29 : Hints := ⟨[(8, [6, 7]), (6, [0, 1, 2, 8, 9, 10]), (7, [0, 1, 2, 8, 9, 10]), (5, [0, 1, 2, 8, 9, 10, 11, 31]), (4, [0, 1, 2, 8, 9, 10, 11]), (3, [0, 1, 2, 8, 9, 10, 17]), (2, [0, 1, 2, 8, 9, 10]), (1, [0, 1, 2, 8]), (0, [0, 1, 2])], [(3, [0, 1, 2, 8, 9, 10])], []⟩
def rs29 : List ARes := [.t 6, .t 7]
def ac29 : ACode :=
 .seq (
  .reg [0, 1, 2] [
    ⟨some 6, .op (.mv (.c (.int .i64 0))), none⟩,
    ⟨some 7, .op (.mv (.c (.bool false))), none⟩]) (
  .seq (
   .reg [0, 1, 2, 8] [
     ⟨some 12, .op (.mv (.t 0)), none⟩,
     ⟨some 13, .op (.len 1 (.t 12)), none⟩,
     ⟨some 8, .op (.mv (.t 13)), none⟩]) (
   .seq (
    .reg [0, 1, 2, 8, 9, 10] [
      ⟨some 14, .op (.mv (.t 8)), none⟩,
      ⟨some 9, .op (.mv (.c (.int .i64 0))), none⟩,
      ⟨some 10, .op (.mv (.t 14)), none⟩]) (
    .seq (
     .block 0 (
      .loop [0, 1, 2, 8, 9, 10] (
       .seq (
        .seq (
         .reg [0, 1, 2, 8, 9, 10, 17] [
           ⟨some 15, .op (.mv (.t 9)), none⟩,
           ⟨some 16, .op (.mv (.t 10)), none⟩,
           ⟨some 17, .op (.bin .lss (.t 15) (.t 16)), none⟩]) (
         .cond (.t 17) (
          .skip) (
          .exit 0))) (
        .block 1 (
         .seq (
          .reg [0, 1, 2, 8, 9, 10, 11] [
            ⟨some 18, .op (.mv (.t 9)), none⟩,
            ⟨some 19, .op (.mv (.t 10)), none⟩,
            ⟨some 20, .op (.bin .add (.t 18) (.t 19)), none⟩,
            ⟨some 21, .op (.toInt .u64 (.t 20)), none⟩,
            ⟨some 22, .op (.bin .shr (.t 21) (.c (.int .u64 1))), none⟩,
            ⟨some 23, .op (.toInt .i64 (.t 22)), none⟩,
            ⟨some 11, .op (.mv (.t 23)), none⟩]) (
          .seq (
           .reg [0, 1, 2, 8, 9, 10, 11, 31] [
             ⟨some 24, .op (.mv (.t 2)), none⟩,
             ⟨some 25, .op (.mv (.t 0)), none⟩,
             ⟨some 26, .op (.mv (.t 11)), none⟩,
             ⟨some 27, .op (.idxAddr 2 (.t 25) (.t 26)), none⟩,
             ⟨some 28, .op (.ldn 2 (.t 27)), none⟩,
             ⟨some 29, .op (.mv (.t 1)), none⟩,
             ⟨some 30, .call (.t 24) [(.t 28), (.t 29)], none⟩,
             ⟨some 31, .op (.bin .lss (.t 30) (.c (.int .i64 0))), none⟩]) (
           .cond (.t 31) (
            .reg [0, 1, 2, 8, 9, 10] [
              ⟨some 32, .op (.mv (.t 11)), none⟩,
              ⟨some 33, .op (.bin .add (.t 32) (.c (.int .i64 1))), none⟩,
              ⟨some 9, .op (.mv (.t 33)), none⟩]) (
            .reg [0, 1, 2, 8, 9, 10] [
              ⟨some 34, .op (.mv (.t 11)), none⟩,
              ⟨some 10, .op (.mv (.t 34)), none⟩])))))))) (
     .seq (
      .reg [6, 7] [
        ⟨some 35, .op (.mv (.t 9)), none⟩,
        ⟨some 36, .op (.mv (.t 9)), none⟩,
        ⟨some 37, .op (.mv (.t 8)), none⟩,
        ⟨some 38, .op (.bin .lss (.t 36) (.t 37)), none⟩,
        ⟨some 39, .op (.mv (.t 38)), none⟩,
        ⟨some 40, .op (.mv (.t 2)), some (39, true)⟩,
        ⟨some 41, .op (.mv (.t 0)), some (39, true)⟩,
        ⟨some 42, .op (.mv (.t 9)), some (39, true)⟩,
        ⟨some 43, .op (.idxAddr 2 (.t 41) (.t 42)), some (39, true)⟩,
        ⟨some 44, .op (.ldn 2 (.t 43)), some (39, true)⟩,
        ⟨some 45, .op (.mv (.t 1)), some (39, true)⟩,
        ⟨some 46, .call (.t 40) [(.t 44), (.t 45)], some (39, true)⟩,
        ⟨some 47, .op (.bin .eql (.t 46) (.c (.int .i64 0))), some (39, true)⟩,
        ⟨some 48, .pick (.t 39) (.t 47) (.c (.bool false)), none⟩,
        ⟨some 6, .op (.mv (.t 35)), none⟩,
        ⟨some 7, .op (.mv (.t 48)), none⟩]) (
      .ret)))))
theorem cf29 : compF Try.prog Try.f29 h29 = some (ac29, rs29) := by kernel_rfl

/-! mailcoach/ranges.behind$1 params 2 -/
def h30 : Hints := ⟨[(3, [4]), (2, [4]), (1, [8]), (0, [1, 2])], [], []⟩
def rs30 : List ARes := [.t 4]
def ac30 : ACode :=
 .seq (
  .reg [1, 2] [
    ⟨some 2, .op (.box (.t 0)), none⟩,
    ⟨some 4, .op (.mv (.c (.int .i64 0))), none⟩]) (
  .seq (
   .seq (
    .reg [8] [
      ⟨some 5, .op (.fieldAddr 1 (.t 2)), none⟩,
      ⟨some 6, .op (.ld1 (.t 5)), none⟩,
      ⟨some 7, .op (.mv (.t 1)), none⟩,
      ⟨some 8, .op (.bin .lss (.t 6) (.t 7)), none⟩]) (
    .cond (.t 8) (
     .seq (
      .reg [4] [
        ⟨some 4, .op (.mv (.c (.int .i64 (-1)))), none⟩]) (
      .ret)) (
     .skip))) (
   .seq (
    .reg [4] [
      ⟨some 4, .op (.mv (.c (.int .i64 1))), none⟩]) (
    .ret)))
theorem cf30 : compF Try.prog Try.f30 h30 = some (ac30, rs30) := by kernel_rfl

/-! slices.Grow[[]mailcoach/api.Range,mailcoach/api.Range] params 2 -/
def h31 : Hints := ⟨[(6, [4]), (5, [0]), (4, [0, 1, 16]), (3, [0, 1]), (2, [0, 1]), (1, [0, 1, 6]), (0, [0, 1])], [], []⟩
def rs31 : List ARes := [.t 4]
def ac31 : ACode :=
 .seq (
  .reg [0, 1] [
    ⟨some 4, .op (.mv (.c (.nilsl))), none⟩]) (
  .seq (
   .seq (
    .reg [0, 1, 6] [
      ⟨some 5, .op (.mv (.t 1)), none⟩,
      ⟨some 6, .op (.bin .lss (.t 5) (.c (.int .i64 0))), none⟩]) (
    .cond (.t 6) (
     .reg [0, 1] [
       ⟨some 7, .op (.mkIface 9 (.c (.str ⟨#[99, 97, 110, 110, 111, 116, 32, 98, 101, 32, 110, 101, 103, 97, 116, 105, 118, 101]⟩))), none⟩,
       ⟨none, .op (.stuck), none⟩]) (
     .skip))) (
   .seq (
    .seq (
     .reg [0, 1] [
       ⟨some 8, .op (.mv (.t 1)), none⟩,
       ⟨some 9, .op (.mv (.t 0)), none⟩,
       ⟨some 10, .op (.cap (.t 9)), none⟩,
       ⟨some 11, .op (.mv (.t 0)), none⟩,
       ⟨some 12, .op (.len 1 (.t 11)), none⟩,
       ⟨some 13, .op (.bin .sub (.t 10) (.t 12)), none⟩,
       ⟨some 14, .op (.bin .sub (.t 8) (.t 13)), none⟩,
       ⟨some 1, .op (.mv (.t 14)), none⟩]) (
     .seq (
      .reg [0, 1, 16] [
        ⟨some 15, .op (.mv (.t 1)), none⟩,
        ⟨some 16, .op (.bin .gtr (.t 15) (.c (.int .i64 0))), none⟩]) (
      .cond (.t 16) (
       .reg [0] [
         ⟨some 17, .op (.mv (.t 0)), none⟩,
         ⟨some 18, .op (.mv (.t 0)), none⟩,
         ⟨some 19, .op (.cap (.t 18)), none⟩,
         ⟨some 20, .op (.slice 2 (.t 17) none (some (.t 19)) none), none⟩,
         ⟨some 21, .op (.mv (.t 1)), none⟩,
         ⟨some 22, .op (.appendMk 2 16 [.int .u64 0, .int .u64 0] (.t 20) (.t 21)), none⟩,
         ⟨some 23, .op (.mv (.t 0)), none⟩,
         ⟨some 24, .op (.len 1 (.t 23)), none⟩,
         ⟨some 25, .op (.slice 2 (.t 22) none (some (.t 24)) none), none⟩,
         ⟨some 0, .op (.mv (.t 25)), none⟩]) (
       .skip)))) (
    .seq (
     .reg [4] [
       ⟨some 26, .op (.mv (.t 0)), none⟩,
       ⟨some 4, .op (.mv (.t 26)), none⟩]) (
     .ret))))
theorem cf31 : compF Try.prog Try.f31 h31 = some (ac31, rs31) := by kernel_rfl

/-! mailcoach/mailcoachref03.put params 2 -/
def h32 : Hints := ⟨[(6, [4]), (5, [4]), (4, [0, 1, 5, 31]), (3, [0, 1, 5]), (2, [0, 1, 5, 17]), (1, [0, 1, 5]), (0, [0, 1])], [(2, [0, 1, 5])], [(6, [(0, []), (1, []), (2, []), (3, []), (5, []), (6, []), (8, []), (9, []), (10, []), (4, [8]), (7, [8]), (11, []), (12, [])])]⟩
def rs32 : List ARes := [.t 4]
def ac32 : ACode :=
 .seq (
  .reg [0, 1] [
    ⟨some 4, .op (.mv (.c (.nilsl))), none⟩]) (
  .seq (
   .reg [0, 1, 5] [
     ⟨some 5, .op (.mv (.c (.int .i64 0))), none⟩]) (
   .seq (
    .block 0 (
     .loop [0, 1, 5] (
      .seq (
       .seq (
        .reg [0, 1, 5, 17] [
          ⟨some 6, .op (.mv (.t 5)), none⟩,
          ⟨some 7, .op (.mv (.t 0)), none⟩,
          ⟨some 8, .op (.len 1 (.t 7)), none⟩,
          ⟨some 9, .op (.bin .lss (.t 6) (.t 8)), none⟩,
          ⟨some 10, .op (.mv (.t 9)), none⟩,
          ⟨some 11, .op (.mv (.t 0)), some (10, true)⟩,
          ⟨some 12, .op (.mv (.t 5)), some (10, true)⟩,
          ⟨some 13, .op (.idxAddr 1 (.t 11) (.t 12)), some (10, true)⟩,
          ⟨some 14, .op (.ld1 (.t 13)), some (10, true)⟩,
          ⟨some 15, .op (.mv (.t 1)), some (10, true)⟩,
          ⟨some 16, .op (.bin .lss (.t 14) (.t 15)), some (10, true)⟩,
          ⟨some 17, .pick (.t 10) (.t 16) (.c (.bool false)), none⟩]) (
        .cond (.t 17) (
         .skip) (
         .exit 0))) (
       .block 1 (
        .reg [0, 1, 5] [
          ⟨some 18, .op (.mv (.t 5)), none⟩,
          ⟨some 19, .op (.bin .add (.t 18) (.c (.int .i64 1))), none⟩,
          ⟨some 5, .op (.mv (.t 19)), none⟩]))))) (
    .seq (
     .seq (
      .reg [0, 1, 5, 31] [
        ⟨some 20, .op (.mv (.t 5)), none⟩,
        ⟨some 21, .op (.mv (.t 0)), none⟩,
        ⟨some 22, .op (.len 1 (.t 21)), none⟩,
        ⟨some 23, .op (.bin .lss (.t 20) (.t 22)), none⟩,
        ⟨some 24, .op (.mv (.t 23)), none⟩,
        ⟨some 25, .op (.mv (.t 0)), some (24, true)⟩,
        ⟨some 26, .op (.mv (.t 5)), some (24, true)⟩,
        ⟨some 27, .op (.idxAddr 1 (.t 25) (.t 26)), some (24, true)⟩,
        ⟨some 28, .op (.ld1 (.t 27)), some (24, true)⟩,
        ⟨some 29, .op (.mv (.t 1)), some (24, true)⟩,
        ⟨some 30, .op (.bin .eql (.t 28) (.t 29)), some (24, true)⟩,
        ⟨some 31, .pick (.t 24) (.t 30) (.c (.bool false)), none⟩]) (
      .cond (.t 31) (
       .seq (
        .reg [4] [
          ⟨some 32, .op (.mv (.t 0)), none⟩,
          ⟨some 4, .op (.mv (.t 32)), none⟩]) (
        .ret)) (
       .skip))) (
     .seq (
      .dreg [4] [
        (⟨some 33, .op (.buildSl 1 [.int .u64 0] 0 []), none⟩, []),
        (⟨some 34, .op (.mv (.t 0)), none⟩, []),
        (⟨some 35, .op (.mv (.t 5)), none⟩, []),
        (⟨some 36, .op (.slice 1 (.t 34) none (some (.t 35)) none), none⟩, []),
        (⟨some 38, .op (.mv (.t 1)), none⟩, []),
        (⟨some 39, .op (.buildSl 1 [.int .u64 0] 1 [(0, (.t 38))]), none⟩, []),
        (⟨some 41, .op (.mv (.t 0)), none⟩, []),
        (⟨some 42, .op (.mv (.t 5)), none⟩, []),
        (⟨some 43, .op (.slice 1 (.t 41) (some (.t 42)) none none), none⟩, []),
        (⟨some 37, .op (.append 1 8 (.t 33) (.t 36)), none⟩, [8]),
        (⟨some 40, .op (.append 1 8 (.t 37) (.t 39)), none⟩, [8]),
        (⟨some 44, .op (.append 1 8 (.t 40) (.t 43)), none⟩, []),
        (⟨some 4, .op (.mv (.t 44)), none⟩, [])]) (
      .ret)))))
theorem cf32 : compF Try.prog Try.f32 h32 = some (ac32, rs32) := by kernel_rfl


end Go.Proofs.Ytehhpcijhclkfaa.AM
