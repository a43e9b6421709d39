/- The code of chapter 11, told as the abstract machine's. -/
import Derived.Test.YtkfofdeceicfkaaAm2
import Derived.Test.YtkfofdeceicfkaaProg
import Derived.KernelRfl
namespace Go.Proofs.Ytkfofdeceicfkaa.AM
set_option maxRecDepth 100000
set_option maxHeartbeats 4000000
theorem hmx : Try.prog.follows .mixedOrders = true := by kernel_rfl

/-! mailcoach/mailcoachlaw11.WriterPlays params 3 -/
def h6 : Hints := ⟨[(16, [6]), (15, [9, 10, 11, 44, 45, 46]), (14, [6]), (13, [9, 10, 11, 44, 45, 46, 69]), (12, [9, 10, 11, 13, 44, 45, 46, 58]), (11, [9, 10, 11, 12, 13, 44, 45, 46]), (10, [9, 10, 11, 44, 45, 46, 47]), (9, [9, 10, 11, 44, 45, 46]), (8, [2, 9, 10, 11]), (7, [2, 3, 9, 10]), (6, [2, 3]), (5, [6]), (4, [1, 2, 3, 33]), (3, [1, 2, 3, 8]), (2, [6]), (1, [1, 2, 3, 15]), (0, [1, 2, 3])], [(10, [9, 10, 11, 44, 45, 46])], []⟩
def rs6 : List ARes := [.t 6]
def ac6 : ACode :=
 .seq (
  .reg [1, 2, 3] [
    ⟨some 3, .op (.box (.t 0)), none⟩,
    ⟨some 6, .op (.mv (.c (.bool false))), none⟩]) (
  .seq (
   .seq (
    .reg [1, 2, 3, 15] [
      ⟨some 14, .call (.c (.fn 8 [] [])) [], none⟩,
      ⟨some 15, .op (.un .not (.t 14)), none⟩]) (
    .cond (.t 15) (
     .seq (
      .reg [6] [
        ⟨some 6, .op (.mv (.c (.bool false))), none⟩]) (
      .ret)) (
     .skip))) (
   .seq (
    .reg [1, 2, 3, 8] [
      ⟨some 17, .op (.ldn 3 (.t 3)), none⟩,
      ⟨some 18, .call (.c (.fn 10 [] [])) [(.t 17)], none⟩,
      ⟨some 16, .op (.mv (.t 18)), none⟩,
      ⟨some 19, .op (.extract (.t 16) 0), none⟩,
      ⟨some 20, .op (.extract (.t 16) 1), none⟩,
      ⟨some 7, .op (.mv (.t 19)), none⟩,
      ⟨some 8, .op (.mv (.t 20)), none⟩]) (
    .seq (
     .seq (
      .reg [1, 2, 3, 33] [
        ⟨some 21, .op (.mv (.t 8)), none⟩,
        ⟨some 22, .op (.bin .eql (.t 21) (.c (.int .i64 0))), none⟩,
        ⟨some 23, .op (.ldn 3 (.t 3)), none⟩,
        ⟨some 24, .call (.c (.fn 21 [] [])) [(.t 23)], none⟩,
        ⟨some 25, .op (.eqb true (.t 22) (.t 24)), none⟩,
        ⟨some 26, .op (.mv (.t 25)), none⟩,
        ⟨some 27, .op (.mv (.t 8)), some (26, false)⟩,
        ⟨some 28, .op (.bin .neq (.t 27) (.c (.int .i64 0))), some (26, false)⟩,
        ⟨some 29, .op (.mv (.t 28)), some (26, false)⟩,
        ⟨some 30, .op (.mv (.t 8)), some (29, true)⟩,
        ⟨some 31, .op (.bin .neq (.t 30) (.c (.int .i64 22))), some (29, true)⟩,
        ⟨some 32, .pick (.t 29) (.t 31) (.c (.bool false)), some (26, false)⟩,
        ⟨some 33, .pick (.t 26) (.c (.bool true)) (.t 32), none⟩]) (
      .cond (.t 33) (
       .seq (
        .reg [6] [
          ⟨some 6, .op (.mv (.c (.bool false))), none⟩]) (
        .ret)) (
       .skip))) (
     .seq (
      .reg [2, 3] [
        ⟨some 34, .op (.mv (.t 1)), none⟩,
        ⟨some 35, .call (.c (.fn 9 [] [])) [(.t 34)], none⟩,
        ⟨none, .op (.st 3 (.t 3) (.t 35)), none⟩]) (
      .seq (
       .reg [2, 3, 9, 10] [
         ⟨some 37, .op (.ldn 3 (.t 3)), none⟩,
         ⟨some 38, .call (.c (.fn 10 [] [])) [(.t 37)], none⟩,
         ⟨some 36, .op (.mv (.t 38)), none⟩,
         ⟨some 39, .op (.extract (.t 36) 0), none⟩,
         ⟨some 40, .op (.extract (.t 36) 1), none⟩,
         ⟨some 9, .op (.mv (.t 39)), none⟩,
         ⟨some 10, .op (.mv (.t 40)), none⟩]) (
       .seq (
        .reg [2, 9, 10, 11] [
          ⟨some 41, .op (.ldn 3 (.t 3)), none⟩,
          ⟨some 42, .op (.build [.int .i64 0, .int .i64 0, .int .i64 0, .nilsl, .nilsl, .int .i64 0, .bool false] [(0, 3, (.t 41))]), none⟩,
          ⟨some 43, .op (.box (.t 42)), none⟩,
          ⟨some 11, .op (.mv (.t 43)), none⟩]) (
        .seq (
         .seq (
          .reg [9, 10, 11, 44, 45, 46] [
            ⟨some 44, .op (.mv (.t 2)), none⟩,
            ⟨some 45, .op (.len 1 (.t 44)), none⟩,
            ⟨some 46, .op (.mv (.c (.int .i64 0))), none⟩]) (
          .block 0 (
           .loop [9, 10, 11, 44, 45, 46] (
            .seq (
             .reg [9, 10, 11, 44, 45, 46, 47] [
               ⟨some 47, .op (.bin .lss (.t 46) (.t 45)), none⟩]) (
             .seq (
              .cond (.t 47) (
               .skip) (
               .exit 0)) (
              .seq (
               .block 1 (
                .seq (
                 .reg [9, 10, 11, 12, 13, 44, 45, 46] [
                   ⟨some 48, .op (.mv (.t 46)), none⟩,
                   ⟨some 49, .op (.idxAddr 5 (.t 44) (.t 46)), none⟩,
                   ⟨some 50, .op (.ldn 5 (.t 49)), none⟩,
                   ⟨some 13, .op (.alloc [.int .u8 0, .nilsl, .int .i64 0, .int .u64 0, .bool false]), none⟩,
                   ⟨some 12, .op (.mv (.t 48)), none⟩,
                   ⟨none, .op (.st 5 (.t 13) (.t 50)), none⟩]) (
                 .seq (
                  .seq (
                   .reg [9, 10, 11, 13, 44, 45, 46, 58] [
                     ⟨some 51, .op (.mv (.t 12)), none⟩,
                     ⟨some 52, .op (.bin .gtr (.t 51) (.c (.int .i64 150))), none⟩,
                     ⟨some 53, .op (.mv (.t 52)), none⟩,
                     ⟨some 54, .op (.fieldAddr 1 (.t 13)), some (53, false)⟩,
                     ⟨some 55, .op (.ld1 (.t 54)), some (53, false)⟩,
                     ⟨some 56, .op (.len 1 (.t 55)), some (53, false)⟩,
                     ⟨some 57, .op (.bin .gtr (.t 56) (.c (.int .i64 400))), some (53, false)⟩,
                     ⟨some 58, .pick (.t 53) (.c (.bool true)) (.t 57), none⟩]) (
                   .cond (.t 58) (
                    .exit 0) (
                    .skip))) (
                  .seq (
                   .reg [9, 10, 11, 44, 45, 46, 69] [
                     ⟨some 59, .op (.mv (.t 9)), none⟩,
                     ⟨some 60, .op (.mv (.t 11)), none⟩,
                     ⟨some 61, .op (.ldn 5 (.t 13)), none⟩,
                     ⟨some 62, .call (.c (.fn 22 [] [])) [(.t 59), (.t 60), (.t 61)], none⟩,
                     ⟨some 63, .op (.un .not (.t 62)), none⟩,
                     ⟨some 64, .op (.mv (.t 63)), none⟩,
                     ⟨some 65, .op (.mv (.t 9)), some (64, false)⟩,
                     ⟨some 66, .op (.mv (.t 11)), some (64, false)⟩,
                     ⟨some 67, .call (.c (.fn 23 [] [])) [(.t 65), (.t 66)], some (64, false)⟩,
                     ⟨some 68, .op (.un .not (.t 67)), some (64, false)⟩,
                     ⟨some 69, .pick (.t 64) (.c (.bool true)) (.t 68), none⟩]) (
                   .cond (.t 69) (
                    .seq (
                     .reg [6] [
                       ⟨some 6, .op (.mv (.c (.bool false))), none⟩]) (
                     .ret)) (
                    .skip)))))) (
               .reg [9, 10, 11, 44, 45, 46] [
                 ⟨some 70, .op (.bin .add (.t 46) (.c (.int .i64 1))), none⟩,
                 ⟨some 46, .op (.mv (.t 70)), none⟩]))))))) (
         .seq (
          .reg [6] [
            ⟨some 71, .op (.mv (.t 10)), none⟩,
            ⟨some 72, .op (.bin .eql (.t 71) (.c (.int .i64 0))), none⟩,
            ⟨some 6, .op (.mv (.t 72)), none⟩]) (
          .ret)))))))))
theorem cf6 : compF Try.prog Try.f6 h6 = some (ac6, rs6) := by kernel_rfl

/-! mailcoach/mailcoachlaw11.Awake params 0 -/
def h8 : Hints := ⟨[(6, [0]), (5, [2, 3, 4, 5, 6, 7, 8]), (4, [1, 2, 3, 4, 5, 6, 7]), (3, [1, 2, 3, 4, 5, 6]), (2, [1, 2, 3, 4]), (1, [1, 2]), (0, [])], [], []⟩
def rs8 : List ARes := [.t 0]
def ac8 : ACode :=
 .seq (
  .reg [] [
    ⟨some 0, .op (.mv (.c (.bool false))), none⟩]) (
  .seq (
   .reg [1, 2] [
     ⟨some 10, .op (.build [.int .i64 0, .int .i64 0, .int .i64 0] [(0, 1, (.c (.int .i64 3))), (1, 1, (.c (.int .i64 2))), (2, 1, (.c (.int .i64 2)))]), none⟩,
     ⟨some 11, .call (.c (.fn 10 [] [])) [(.t 10)], none⟩,
     ⟨some 9, .op (.mv (.t 11)), none⟩,
     ⟨some 12, .op (.extract (.t 9) 0), none⟩,
     ⟨some 13, .op (.extract (.t 9) 1), none⟩,
     ⟨some 1, .op (.mv (.t 12)), none⟩,
     ⟨some 2, .op (.mv (.t 13)), none⟩]) (
   .seq (
    .reg [1, 2, 3, 4] [
      ⟨some 15, .op (.mv (.t 1)), none⟩,
      ⟨some 16, .op (.buildSl 1 [.int .u8 0] 1 [(0, (.c (.int .u8 120)))]), none⟩,
      ⟨some 17, .op (.mark (.t 16)), none⟩,
      ⟨some 18, .call (.c (.fn 11 [] [])) [(.t 15), (.t 17)], none⟩,
      ⟨some 14, .op (.mv (.t 18)), none⟩,
      ⟨some 19, .op (.extract (.t 14) 0), none⟩,
      ⟨some 20, .op (.extract (.t 14) 1), none⟩,
      ⟨some 3, .op (.mv (.t 19)), none⟩,
      ⟨some 4, .op (.mv (.t 20)), none⟩]) (
    .seq (
     .reg [1, 2, 3, 4, 5, 6] [
       ⟨some 22, .op (.mv (.t 1)), none⟩,
       ⟨some 23, .op (.buildSl 1 [.int .u8 0] 1 [(0, (.c (.int .u8 121)))]), none⟩,
       ⟨some 24, .op (.mark (.t 23)), none⟩,
       ⟨some 25, .call (.c (.fn 11 [] [])) [(.t 22), (.t 24)], none⟩,
       ⟨some 21, .op (.mv (.t 25)), none⟩,
       ⟨some 26, .op (.extract (.t 21) 0), none⟩,
       ⟨some 27, .op (.extract (.t 21) 1), none⟩,
       ⟨some 5, .op (.mv (.t 26)), none⟩,
       ⟨some 6, .op (.mv (.t 27)), none⟩]) (
     .seq (
      .reg [1, 2, 3, 4, 5, 6, 7] [
        ⟨some 28, .op (.mv (.t 1)), none⟩,
        ⟨some 29, .call (.c (.fn 12 [] [])) [(.t 28), (.c (.int .i64 1)), (.c (.int .u64 1))], none⟩,
        ⟨some 30, .op (.len 1 (.t 29)), none⟩,
        ⟨some 31, .op (.mv (.t 1)), none⟩,
        ⟨some 32, .call (.c (.fn 12 [] [])) [(.t 31), (.c (.int .i64 2)), (.c (.int .u64 1))], none⟩,
        ⟨some 33, .op (.len 1 (.t 32)), none⟩,
        ⟨some 34, .op (.bin .add (.t 30) (.t 33)), none⟩,
        ⟨some 35, .op (.mv (.t 1)), none⟩,
        ⟨some 36, .call (.c (.fn 12 [] [])) [(.t 35), (.c (.int .i64 0)), (.c (.int .u64 0))], none⟩,
        ⟨some 37, .op (.len 1 (.t 36)), none⟩,
        ⟨some 38, .op (.bin .add (.t 34) (.t 37)), none⟩,
        ⟨some 7, .op (.mv (.t 38)), none⟩]) (
      .seq (
       .reg [2, 3, 4, 5, 6, 7, 8] [
         ⟨some 39, .op (.mv (.t 1)), none⟩,
         ⟨some 40, .call (.c (.fn 12 [] [])) [(.t 39), (.c (.int .i64 1)), (.c (.int .u64 0))], none⟩,
         ⟨some 8, .op (.mv (.t 40)), none⟩]) (
       .seq (
        .reg [0] [
          ⟨some 41, .op (.mv (.t 2)), none⟩,
          ⟨some 42, .op (.bin .eql (.t 41) (.c (.int .i64 0))), none⟩,
          ⟨some 43, .op (.mv (.t 42)), none⟩,
          ⟨some 44, .op (.mv (.t 4)), some (43, true)⟩,
          ⟨some 45, .op (.bin .eql (.t 44) (.c (.int .i64 0))), some (43, true)⟩,
          ⟨some 46, .pick (.t 43) (.t 45) (.c (.bool false)), none⟩,
          ⟨some 47, .op (.mv (.t 46)), none⟩,
          ⟨some 48, .op (.mv (.t 6)), some (47, true)⟩,
          ⟨some 49, .op (.bin .eql (.t 48) (.c (.int .i64 0))), some (47, true)⟩,
          ⟨some 50, .pick (.t 47) (.t 49) (.c (.bool false)), none⟩,
          ⟨some 51, .op (.mv (.t 50)), none⟩,
          ⟨some 52, .op (.mv (.t 3)), some (51, true)⟩,
          ⟨some 53, .op (.bin .eql (.t 52) (.c (.int .u64 0))), some (51, true)⟩,
          ⟨some 54, .pick (.t 51) (.t 53) (.c (.bool false)), none⟩,
          ⟨some 55, .op (.mv (.t 54)), none⟩,
          ⟨some 56, .op (.mv (.t 5)), some (55, true)⟩,
          ⟨some 57, .op (.bin .eql (.t 56) (.c (.int .u64 1))), some (55, true)⟩,
          ⟨some 58, .pick (.t 55) (.t 57) (.c (.bool false)), none⟩,
          ⟨some 59, .op (.mv (.t 58)), none⟩,
          ⟨some 60, .op (.mv (.t 7)), some (59, true)⟩,
          ⟨some 61, .op (.bin .eql (.t 60) (.c (.int .i64 0))), some (59, true)⟩,
          ⟨some 62, .pick (.t 59) (.t 61) (.c (.bool false)), none⟩,
          ⟨some 63, .op (.mv (.t 62)), none⟩,
          ⟨some 64, .op (.mv (.t 8)), some (63, true)⟩,
          ⟨some 65, .op (.len 1 (.t 64)), some (63, true)⟩,
          ⟨some 66, .op (.bin .eql (.t 65) (.c (.int .i64 2))), some (63, true)⟩,
          ⟨some 67, .pick (.t 63) (.t 66) (.c (.bool false)), none⟩,
          ⟨some 68, .op (.mv (.t 67)), none⟩,
          ⟨some 69, .op (.mv (.t 8)), some (68, true)⟩,
          ⟨some 70, .op (.idxAddr 2 (.t 69) (.c (.int .i64 1))), some (68, true)⟩,
          ⟨some 71, .op (.fieldAddr 1 (.t 70)), some (68, true)⟩,
          ⟨some 72, .op (.ld1 (.t 71)), some (68, true)⟩,
          ⟨some 73, .op (.bytesStr (.t 72)), some (68, true)⟩,
          ⟨some 74, .op (.bin .eql (.t 73) (.c (.str ⟨#[121]⟩))), some (68, true)⟩,
          ⟨some 75, .pick (.t 68) (.t 74) (.c (.bool false)), none⟩,
          ⟨some 0, .op (.mv (.t 75)), none⟩]) (
        .ret)))))))
theorem cf8 : compF Try.prog Try.f8 h8 = some (ac8, rs8) := by kernel_rfl

/-! mailcoach/mailcoachlaw10.Quorum params 1 -/
def h9 : Hints := ⟨[(3, [2]), (2, [0, 2, 3, 4]), (1, [0, 2, 3]), (0, [0, 2])], [], []⟩
def rs9 : List ARes := [.cn 2 3]
def ac9 : ACode :=
 .seq (
  .reg [0, 2] [
    ⟨some 2, .op (.alloc [.int .i64 0, .int .i64 0, .int .i64 0]), none⟩]) (
  .seq (
   .reg [0, 2, 3] [
     ⟨some 5, .op (.mv (.t 0)), none⟩,
     ⟨some 6, .op (.bin .rem (.t 5) (.c (.int .u16 7))), none⟩,
     ⟨some 7, .op (.toInt .i64 (.t 6)), none⟩,
     ⟨some 8, .op (.bin .add (.c (.int .i64 1)) (.t 7)), none⟩,
     ⟨some 3, .op (.mv (.t 8)), none⟩]) (
   .seq (
    .reg [0, 2, 3, 4] [
      ⟨some 9, .op (.mv (.t 0)), none⟩,
      ⟨some 10, .op (.bin .quo (.t 9) (.c (.int .u16 7))), none⟩,
      ⟨some 11, .op (.toInt .i64 (.t 10)), none⟩,
      ⟨some 12, .op (.mv (.t 3)), none⟩,
      ⟨some 13, .op (.bin .rem (.t 11) (.t 12)), none⟩,
      ⟨some 14, .op (.bin .add (.c (.int .i64 1)) (.t 13)), none⟩,
      ⟨some 4, .op (.mv (.t 14)), none⟩]) (
    .seq (
     .reg [2] [
       ⟨some 15, .op (.mv (.t 3)), none⟩,
       ⟨some 16, .op (.mv (.t 4)), none⟩,
       ⟨some 17, .op (.mv (.t 0)), none⟩,
       ⟨some 18, .op (.bin .quo (.t 17) (.c (.int .u16 49))), none⟩,
       ⟨some 19, .op (.toInt .i64 (.t 18)), none⟩,
       ⟨some 20, .op (.mv (.t 4)), none⟩,
       ⟨some 21, .op (.bin .rem (.t 19) (.t 20)), none⟩,
       ⟨some 22, .op (.bin .add (.c (.int .i64 1)) (.t 21)), none⟩,
       ⟨some 23, .op (.build [.int .i64 0, .int .i64 0, .int .i64 0] [(0, 1, (.t 15)), (1, 1, (.t 16)), (2, 1, (.t 22))]), none⟩,
       ⟨none, .op (.st 3 (.t 2) (.t 23)), none⟩]) (
     .ret))))
theorem cf9 : compF Try.prog Try.f9 h9 = some (ac9, rs9) := by kernel_rfl

/-! mailcoach/writer.New params 1 -/
def h10 : Hints := ⟨[(3, [2, 3]), (2, [2, 3]), (1, [1, 6]), (0, [1])], [], []⟩
def rs10 : List ARes := [.t 2, .t 3]
def ac10 : ACode :=
 .seq (
  .reg [1] [
    ⟨some 1, .op (.box (.t 0)), none⟩,
    ⟨some 2, .op (.mv (.c (.nilp))), none⟩,
    ⟨some 3, .op (.mv (.c (.int .i64 0))), none⟩]) (
  .seq (
   .seq (
    .reg [1, 6] [
      ⟨some 4, .op (.ldn 3 (.t 1)), none⟩,
      ⟨some 5, .call (.c (.fn 24 [] [])) [(.t 4)], none⟩,
      ⟨some 6, .op (.un .not (.t 5)), none⟩]) (
    .cond (.t 6) (
     .seq (
      .reg [2, 3] [
        ⟨some 2, .op (.mv (.c (.nilp))), none⟩,
        ⟨some 3, .op (.mv (.c (.int .i64 22))), none⟩]) (
      .ret)) (
     .skip))) (
   .seq (
    .reg [2, 3] [
      ⟨some 7, .op (.ldn 3 (.t 1)), none⟩,
      ⟨some 8, .op (.build [.int .i64 0, .int .i64 0, .int .i64 0, .int .u64 0, .nilsl, .bool false] [(0, 3, (.t 7))]), none⟩,
      ⟨some 9, .op (.box (.t 8)), none⟩,
      ⟨some 2, .op (.mv (.t 9)), none⟩,
      ⟨some 3, .op (.mv (.c (.int .i64 0))), none⟩]) (
    .ret)))
theorem cf10 : compF Try.prog Try.f10 h10 = some (ac10, rs10) := by kernel_rfl

/-! (*mailcoach/writer.Writer).Add params 2 -/
def h11 : Hints := ⟨[(11, [4, 5]), (10, [6]), (9, [0, 1, 6]), (2, [4, 5]), (4, [4, 5]), (6, [4, 5]), (8, [4, 5]), (7, [0, 1, 19]), (5, [0, 1, 15]), (3, [0, 1, 10]), (1, [0, 1, 7]), (0, [0, 1])], [], [(10, [(0, []), (1, []), (2, []), (3, []), (4, []), (5, []), (6, []), (9, []), (10, []), (11, []), (12, []), (13, []), (14, []), (7, [4, 11]), (8, []), (15, []), (16, []), (17, []), (18, []), (19, []), (20, [])])]⟩
def rs11 : List ARes := [.t 4, .t 5]
def ac11 : ACode :=
 .seq (
  .reg [0, 1] [
    ⟨some 4, .op (.mv (.c (.int .u64 0))), none⟩,
    ⟨some 5, .op (.mv (.c (.int .i64 0))), none⟩]) (
  .seq (
   .block 0 (
    .seq (
     .reg [0, 1, 7] [
       ⟨some 8, .op (.mv (.t 0)), none⟩,
       ⟨some 9, .op (.eqn 0 false (.t 8) (.c (.nilp))), none⟩,
       ⟨some 7, .op (.mv (.t 9)), none⟩]) (
     .cond (.t 7) (
      .seq (
       .reg [4, 5] [
         ⟨some 4, .op (.mv (.c (.int .u64 0))), none⟩,
         ⟨some 5, .op (.mv (.c (.int .i64 1))), none⟩]) (
       .ret)) (
      .seq (
       .reg [0, 1, 10] [
         ⟨some 11, .op (.mv (.t 0)), none⟩,
         ⟨some 12, .op (.nilCheck (.t 11)), none⟩,
         ⟨some 13, .op (.fieldAddr 5 (.t 12)), none⟩,
         ⟨some 14, .op (.ld1 (.t 13)), none⟩,
         ⟨some 10, .op (.mv (.t 14)), none⟩]) (
       .cond (.t 10) (
        .seq (
         .reg [4, 5] [
           ⟨some 4, .op (.mv (.c (.int .u64 0))), none⟩,
           ⟨some 5, .op (.mv (.c (.int .i64 24))), none⟩]) (
         .ret)) (
        .seq (
         .reg [0, 1, 15] [
           ⟨some 16, .op (.mv (.t 1)), none⟩,
           ⟨some 17, .op (.len 1 (.t 16)), none⟩,
           ⟨some 18, .op (.bin .gtr (.t 17) (.c (.int .i64 256))), none⟩,
           ⟨some 15, .op (.mv (.t 18)), none⟩]) (
         .cond (.t 15) (
          .seq (
           .reg [4, 5] [
             ⟨some 4, .op (.mv (.c (.int .u64 0))), none⟩,
             ⟨some 5, .op (.mv (.c (.int .i64 3))), none⟩]) (
           .ret)) (
          .seq (
           .reg [0, 1, 19] [
             ⟨some 20, .op (.mv (.t 0)), none⟩,
             ⟨some 21, .op (.nilCheck (.t 20)), none⟩,
             ⟨some 22, .op (.fieldAddr 4 (.t 21)), none⟩,
             ⟨some 23, .op (.ld1 (.t 22)), none⟩,
             ⟨some 24, .op (.len 1 (.t 23)), none⟩,
             ⟨some 25, .op (.bin .geq (.t 24) (.c (.int .i64 64))), none⟩,
             ⟨some 26, .op (.mv (.t 25)), none⟩,
             ⟨some 27, .op (.mv (.t 0)), some (26, false)⟩,
             ⟨some 28, .call (.c (.fn 17 [] [])) [(.t 27)], some (26, false)⟩,
             ⟨some 29, .op (.bin .geq (.t 28) (.c (.int .u64 1048576))), some (26, false)⟩,
             ⟨some 30, .pick (.t 26) (.c (.bool true)) (.t 29), none⟩,
             ⟨some 19, .op (.mv (.t 30)), none⟩]) (
           .cond (.t 19) (
            .seq (
             .reg [4, 5] [
               ⟨some 4, .op (.mv (.c (.int .u64 0))), none⟩,
               ⟨some 5, .op (.mv (.c (.int .i64 14))), none⟩]) (
             .ret)) (
            .skip)))))))))) (
   .seq (
    .reg [0, 1, 6] [
      ⟨some 31, .op (.mv (.t 0)), none⟩,
      ⟨some 32, .call (.c (.fn 17 [] [])) [(.t 31)], none⟩,
      ⟨some 6, .op (.mv (.t 32)), none⟩]) (
    .seq (
     .dreg [6] [
       (⟨some 33, .op (.mv (.t 0)), none⟩, []),
       (⟨some 34, .op (.mv (.t 0)), none⟩, []),
       (⟨some 35, .op (.nilCheck (.t 34)), none⟩, []),
       (⟨some 36, .op (.fieldAddr 4 (.t 35)), none⟩, []),
       (⟨some 37, .op (.ld1 (.t 36)), none⟩, []),
       (⟨some 38, .op (.mv (.t 6)), none⟩, []),
       (⟨some 39, .op (.mv (.t 1)), none⟩, []),
       (⟨some 42, .op (.mv (.t 0)), none⟩, []),
       (⟨some 43, .op (.nilCheck (.t 42)), none⟩, []),
       (⟨some 44, .op (.fieldAddr 0 (.t 43)), none⟩, []),
       (⟨some 45, .op (.fieldAddr 0 (.t 44)), none⟩, []),
       (⟨some 46, .op (.ld1 (.t 45)), none⟩, []),
       (⟨some 47, .op (.mkslice 1 1 [.bool false] (.t 46) (.t 46)), none⟩, []),
       (⟨some 40, .call (.c (.fn 25 [] [])) [(.t 39)], none⟩, [4, 11]),
       (⟨some 41, .op (.build [.int .u64 0, .nilsl] [(0, 1, (.t 38)), (1, 1, (.t 40))]), none⟩, []),
       (⟨some 48, .op (.build [.int .u64 0, .nilsl, .nilsl] [(0, 2, (.t 41)), (2, 1, (.t 47))]), none⟩, []),
       (⟨some 49, .op (.buildSl 3 [.int .u64 0, .nilsl, .nilsl] 1 [(0, (.t 48))]), none⟩, []),
       (⟨some 50, .op (.append 3 56 (.t 37) (.t 49)), none⟩, []),
       (⟨some 51, .op (.nilCheck (.t 33)), none⟩, []),
       (⟨some 52, .op (.fieldAddr 4 (.t 51)), none⟩, []),
       (⟨none, .op (.st 1 (.t 52) (.t 50)), none⟩, [])]) (
     .seq (
      .reg [4, 5] [
        ⟨some 53, .op (.mv (.t 6)), none⟩,
        ⟨some 4, .op (.mv (.t 53)), none⟩,
        ⟨some 5, .op (.mv (.c (.int .i64 0))), none⟩]) (
      .ret)))))
theorem cf11 : compF Try.prog Try.f11 h11 = some (ac11, rs11) := by kernel_rfl

/-! (*mailcoach/writer.Writer).Ack params 3 -/
def h12 : Hints := ⟨[(9, [6]), (8, [0, 7]), (7, [0, 7]), (6, [0, 7]), (5, [0, 7, 73]), (4, [0, 7]), (3, [0]), (2, [6]), (1, [0, 1, 2, 34]), (0, [0, 1, 2])], [(5, [0, 7])], [(3, [(0, []), (1, []), (2, []), (3, []), (4, []), (5, []), (6, []), (7, []), (8, []), (9, []), (10, []), (11, []), (12, []), (13, []), (14, []), (15, [])]), (5, [(0, []), (1, []), (2, []), (3, []), (4, []), (5, []), (6, []), (7, []), (8, []), (9, []), (10, []), (11, []), (12, []), (13, []), (14, []), (15, []), (16, []), (17, []), (18, []), (19, []), (20, []), (21, []), (22, []), (23, [])])]⟩
def rs12 : List ARes := [.t 6]
def ac12 : ACode :=
 .seq (
  .reg [0, 1, 2] [
    ⟨some 6, .op (.mv (.c (.nilsl))), none⟩]) (
  .seq (
   .seq (
    .reg [0, 1, 2, 34] [
      ⟨some 8, .op (.mv (.t 0)), none⟩,
      ⟨some 9, .op (.eqn 0 false (.t 8) (.c (.nilp))), none⟩,
      ⟨some 10, .op (.mv (.t 9)), none⟩,
      ⟨some 11, .op (.mv (.t 2)), some (10, false)⟩,
      ⟨some 12, .op (.mv (.t 0)), some (10, false)⟩,
      ⟨some 13, .op (.nilCheck (.t 12)), some (10, false)⟩,
      ⟨some 14, .op (.fieldAddr 3 (.t 13)), some (10, false)⟩,
      ⟨some 15, .op (.ld1 (.t 14)), some (10, false)⟩,
      ⟨some 16, .op (.bin .lss (.t 11) (.t 15)), some (10, false)⟩,
      ⟨some 17, .pick (.t 10) (.c (.bool true)) (.t 16), none⟩,
      ⟨some 18, .op (.mv (.t 17)), none⟩,
      ⟨some 19, .op (.mv (.t 2)), some (18, false)⟩,
      ⟨some 20, .op (.mv (.t 0)), some (18, false)⟩,
      ⟨some 21, .call (.c (.fn 17 [] [])) [(.t 20)], some (18, false)⟩,
      ⟨some 22, .op (.bin .geq (.t 19) (.t 21)), some (18, false)⟩,
      ⟨some 23, .pick (.t 18) (.c (.bool true)) (.t 22), none⟩,
      ⟨some 24, .op (.mv (.t 23)), none⟩,
      ⟨some 25, .op (.mv (.t 0)), some (24, false)⟩,
      ⟨some 26, .op (.nilCheck (.t 25)), some (24, false)⟩,
      ⟨some 27, .op (.fieldAddr 0 (.t 26)), some (24, false)⟩,
      ⟨some 28, .op (.ldn 3 (.t 27)), some (24, false)⟩,
      ⟨some 29, .op (.mv (.t 2)), some (24, false)⟩,
      ⟨some 30, .call (.c (.fn 27 [] [])) [(.t 28), (.t 29)], some (24, false)⟩,
      ⟨some 31, .op (.mv (.t 1)), some (24, false)⟩,
      ⟨some 32, .call (.c (.fn 26 [] [])) [(.t 30), (.t 31)], some (24, false)⟩,
      ⟨some 33, .op (.un .not (.t 32)), some (24, false)⟩,
      ⟨some 34, .pick (.t 24) (.c (.bool true)) (.t 33), none⟩]) (
    .cond (.t 34) (
     .seq (
      .reg [6] [
        ⟨some 6, .op (.mv (.c (.nilsl))), none⟩]) (
      .ret)) (
     .skip))) (
   .seq (
    .dreg [0] [
      (⟨some 35, .op (.mv (.t 0)), none⟩, []),
      (⟨some 36, .op (.nilCheck (.t 35)), none⟩, []),
      (⟨some 37, .op (.fieldAddr 4 (.t 36)), none⟩, []),
      (⟨some 38, .op (.ld1 (.t 37)), none⟩, []),
      (⟨some 39, .op (.mv (.t 2)), none⟩, []),
      (⟨some 40, .op (.mv (.t 0)), none⟩, []),
      (⟨some 41, .op (.nilCheck (.t 40)), none⟩, []),
      (⟨some 42, .op (.fieldAddr 3 (.t 41)), none⟩, []),
      (⟨some 43, .op (.ld1 (.t 42)), none⟩, []),
      (⟨some 44, .op (.bin .sub (.t 39) (.t 43)), none⟩, []),
      (⟨some 45, .op (.idxAddr 3 (.t 38) (.t 44)), none⟩, []),
      (⟨some 46, .op (.fieldAddr 2 (.t 45)), none⟩, []),
      (⟨some 47, .op (.ld1 (.t 46)), none⟩, []),
      (⟨some 48, .op (.mv (.t 1)), none⟩, []),
      (⟨some 49, .op (.idxAddr 1 (.t 47) (.t 48)), none⟩, []),
      (⟨none, .op (.st 1 (.t 49) (.c (.bool true))), none⟩, [])]) (
    .seq (
     .reg [0, 7] [
       ⟨some 7, .op (.mv (.c (.nilsl))), none⟩]) (
     .seq (
      .block 0 (
       .loop [0, 7] (
        .seq (
         .seq (
          .dreg [0, 7, 73] [
            (⟨some 50, .op (.mv (.t 0)), none⟩, []),
            (⟨some 51, .op (.nilCheck (.t 50)), none⟩, []),
            (⟨some 52, .op (.fieldAddr 4 (.t 51)), none⟩, []),
            (⟨some 53, .op (.ld1 (.t 52)), none⟩, []),
            (⟨some 54, .op (.len 1 (.t 53)), none⟩, []),
            (⟨some 55, .op (.bin .gtr (.t 54) (.c (.int .i64 0))), none⟩, []),
            (⟨some 56, .op (.mv (.t 55)), none⟩, []),
            (⟨some 57, .op (.mv (.t 0)), some (56, true)⟩, []),
            (⟨some 58, .op (.nilCheck (.t 57)), some (56, true)⟩, []),
            (⟨some 59, .op (.fieldAddr 0 (.t 58)), some (56, true)⟩, []),
            (⟨some 60, .op (.ldn 3 (.t 59)), some (56, true)⟩, []),
            (⟨some 61, .op (.mv (.t 0)), some (56, true)⟩, []),
            (⟨some 62, .op (.nilCheck (.t 61)), some (56, true)⟩, []),
            (⟨some 63, .op (.fieldAddr 3 (.t 62)), some (56, true)⟩, []),
            (⟨some 64, .op (.ld1 (.t 63)), some (56, true)⟩, []),
            (⟨some 65, .op (.mv (.t 0)), some (56, true)⟩, []),
            (⟨some 66, .op (.nilCheck (.t 65)), some (56, true)⟩, []),
            (⟨some 67, .op (.fieldAddr 4 (.t 66)), some (56, true)⟩, []),
            (⟨some 68, .op (.ld1 (.t 67)), some (56, true)⟩, []),
            (⟨some 69, .op (.idxAddr 3 (.t 68) (.c (.int .i64 0))), some (56, true)⟩, []),
            (⟨some 70, .op (.fieldAddr 2 (.t 69)), some (56, true)⟩, []),
            (⟨some 71, .op (.ld1 (.t 70)), some (56, true)⟩, []),
            (⟨some 72, .call (.c (.fn 28 [] [])) [(.t 60), (.t 64), (.t 71)], some (56, true)⟩, []),
            (⟨some 73, .pick (.t 56) (.t 72) (.c (.bool false)), none⟩, [])]) (
          .cond (.t 73) (
           .skip) (
           .exit 0))) (
         .block 1 (
          .seq (
           .reg [0, 7] [
             ⟨some 74, .op (.mv (.t 7)), none⟩,
             ⟨some 75, .op (.mv (.t 0)), none⟩,
             ⟨some 76, .op (.nilCheck (.t 75)), none⟩,
             ⟨some 77, .op (.fieldAddr 4 (.t 76)), none⟩,
             ⟨some 78, .op (.ld1 (.t 77)), none⟩,
             ⟨some 79, .op (.idxAddr 3 (.t 78) (.c (.int .i64 0))), none⟩,
             ⟨some 80, .op (.fieldAddr 0 (.t 79)), none⟩,
             ⟨some 81, .op (.ldn 2 (.t 80)), none⟩,
             ⟨some 82, .op (.buildSl 2 [.int .u64 0, .nilsl] 1 [(0, (.t 81))]), none⟩,
             ⟨some 83, .op (.append 2 32 (.t 74) (.t 82)), none⟩,
             ⟨some 7, .op (.mv (.t 83)), none⟩]) (
           .seq (
            .reg [0, 7] [
              ⟨some 84, .op (.mv (.t 0)), none⟩,
              ⟨some 85, .op (.mv (.t 0)), none⟩,
              ⟨some 86, .op (.nilCheck (.t 85)), none⟩,
              ⟨some 87, .op (.fieldAddr 4 (.t 86)), none⟩,
              ⟨some 88, .op (.ld1 (.t 87)), none⟩,
              ⟨some 89, .op (.slice 3 (.t 88) (some (.c (.int .i64 1))) none none), none⟩,
              ⟨some 90, .op (.nilCheck (.t 84)), none⟩,
              ⟨some 91, .op (.fieldAddr 4 (.t 90)), none⟩,
              ⟨none, .op (.st 1 (.t 91) (.t 89)), none⟩]) (
            .reg [0, 7] [
              ⟨some 92, .op (.mv (.t 0)), none⟩,
              ⟨some 93, .op (.nilCheck (.t 92)), none⟩,
              ⟨some 94, .op (.fieldAddr 3 (.t 93)), none⟩,
              ⟨some 95, .op (.ld1 (.t 94)), none⟩,
              ⟨some 96, .op (.bin .add (.t 95) (.c (.int .u64 1))), none⟩,
              ⟨some 97, .op (.nilCheck (.t 92)), none⟩,
              ⟨some 98, .op (.fieldAddr 3 (.t 97)), none⟩,
              ⟨none, .op (.st 1 (.t 98) (.t 96)), none⟩]))))))) (
      .seq (
       .reg [6] [
         ⟨some 99, .op (.mv (.t 7)), none⟩,
         ⟨some 6, .op (.mv (.t 99)), none⟩]) (
       .ret))))))
theorem cf12 : compF Try.prog Try.f12 h12 = some (ac12, rs12) := by kernel_rfl

/-! mailcoach/mailcoachref10.In params 2 -/
def h13 : Hints := ⟨[(6, [4]), (3, [0, 1, 5]), (5, [4]), (4, [0, 1, 5, 17]), (2, [0, 1, 5, 9]), (1, [0, 1, 5]), (0, [0, 1])], [(2, [0, 1, 5])], []⟩
def rs13 : List ARes := [.t 4]
def ac13 : ACode :=
 .seq (
  .reg [0, 1] [
    ⟨some 4, .op (.mv (.c (.bool false))), none⟩]) (
  .seq (
   .seq (
    .reg [0, 1, 5] [
      ⟨some 5, .op (.mv (.c (.int .i64 0))), none⟩]) (
    .block 0 (
     .loop [0, 1, 5] (
      .seq (
       .seq (
        .reg [0, 1, 5, 9] [
          ⟨some 6, .op (.mv (.t 5)), none⟩,
          ⟨some 7, .op (.mv (.t 0)), none⟩,
          ⟨some 8, .op (.len 1 (.t 7)), none⟩,
          ⟨some 9, .op (.bin .lss (.t 6) (.t 8)), none⟩]) (
        .cond (.t 9) (
         .skip) (
         .exit 0))) (
       .seq (
        .block 1 (
         .seq (
          .reg [0, 1, 5, 17] [
            ⟨some 12, .op (.mv (.t 0)), none⟩,
            ⟨some 13, .op (.mv (.t 5)), none⟩,
            ⟨some 14, .op (.idxAddr 1 (.t 12) (.t 13)), none⟩,
            ⟨some 15, .op (.ld1 (.t 14)), none⟩,
            ⟨some 16, .op (.mv (.t 1)), none⟩,
            ⟨some 17, .op (.bin .eql (.t 15) (.t 16)), none⟩]) (
          .cond (.t 17) (
           .seq (
            .reg [4] [
              ⟨some 4, .op (.mv (.c (.bool true))), none⟩]) (
            .ret)) (
           .skip)))) (
        .reg [0, 1, 5] [
          ⟨some 10, .op (.mv (.t 5)), none⟩,
          ⟨some 11, .op (.bin .add (.t 10) (.c (.int .i64 1))), none⟩,
          ⟨some 5, .op (.mv (.t 11)), none⟩])))))) (
   .seq (
    .reg [4] [
      ⟨some 4, .op (.mv (.c (.bool false))), none⟩]) (
    .ret)))
theorem cf13 : compF Try.prog Try.f13 h13 = some (ac13, rs13) := by kernel_rfl

/-! mailcoach/mailcoachref10.Set params 2 -/
def h14 : Hints := ⟨[(12, [4]), (7, [2, 5, 6, 7]), (11, [2, 5, 6, 7]), (10, [2, 5, 6, 7, 32]), (9, [2, 5, 6, 7]), (8, [2, 5, 6, 7]), (6, [2, 5, 6, 7, 20]), (5, [2, 5, 6, 7]), (4, [2, 5, 6]), (3, [4]), (2, [1, 2, 5, 10]), (1, [1, 2, 5]), (0, [1, 2])], [(6, [2, 5, 6, 7])], []⟩
def rs14 : List ARes := [.t 4]
def ac14 : ACode :=
 .seq (
  .reg [1, 2] [
    ⟨some 2, .op (.box (.t 0)), none⟩,
    ⟨some 4, .op (.mv (.c (.nilsl))), none⟩]) (
  .seq (
   .reg [1, 2, 5] [
     ⟨some 5, .op (.mv (.c (.nilsl))), none⟩]) (
   .seq (
    .seq (
     .reg [1, 2, 5, 10] [
       ⟨some 8, .op (.ldn 3 (.t 2)), none⟩,
       ⟨some 9, .call (.c (.fn 21 [] [])) [(.t 8)], none⟩,
       ⟨some 10, .op (.un .not (.t 9)), none⟩]) (
     .cond (.t 10) (
      .seq (
       .reg [4] [
         ⟨some 4, .op (.mv (.c (.nilsl))), none⟩]) (
       .ret)) (
      .skip))) (
    .seq (
     .reg [2, 5, 6] [
       ⟨some 11, .op (.mv (.t 1)), none⟩,
       ⟨some 12, .op (.fieldAddr 0 (.t 2)), none⟩,
       ⟨some 13, .op (.ld1 (.t 12)), none⟩,
       ⟨some 14, .op (.toInt .u64 (.t 13)), none⟩,
       ⟨some 15, .op (.bin .rem (.t 11) (.t 14)), none⟩,
       ⟨some 16, .op (.toInt .i64 (.t 15)), none⟩,
       ⟨some 6, .op (.mv (.t 16)), none⟩]) (
     .seq (
      .seq (
       .reg [2, 5, 6, 7] [
         ⟨some 7, .op (.mv (.c (.int .i64 0))), none⟩]) (
       .block 0 (
        .loop [2, 5, 6, 7] (
         .seq (
          .seq (
           .reg [2, 5, 6, 7, 20] [
             ⟨some 17, .op (.mv (.t 7)), none⟩,
             ⟨some 18, .op (.fieldAddr 1 (.t 2)), none⟩,
             ⟨some 19, .op (.ld1 (.t 18)), none⟩,
             ⟨some 20, .op (.bin .lss (.t 17) (.t 19)), none⟩]) (
           .cond (.t 20) (
            .skip) (
            .exit 0))) (
          .seq (
           .block 1 (
            .seq (
             .reg [2, 5, 6, 7] [
               ⟨some 23, .op (.mv (.t 5)), none⟩,
               ⟨some 24, .op (.mv (.t 6)), none⟩,
               ⟨some 25, .op (.buildSl 1 [.int .i64 0] 1 [(0, (.t 24))]), none⟩,
               ⟨some 26, .op (.append 1 8 (.t 23) (.t 25)), none⟩,
               ⟨some 5, .op (.mv (.t 26)), none⟩]) (
             .seq (
              .reg [2, 5, 6, 7] [
                ⟨some 27, .op (.mv (.t 6)), none⟩,
                ⟨some 28, .op (.bin .add (.t 27) (.c (.int .i64 1))), none⟩,
                ⟨some 6, .op (.mv (.t 28)), none⟩]) (
              .seq (
               .reg [2, 5, 6, 7, 32] [
                 ⟨some 29, .op (.mv (.t 6)), none⟩,
                 ⟨some 30, .op (.fieldAddr 0 (.t 2)), none⟩,
                 ⟨some 31, .op (.ld1 (.t 30)), none⟩,
                 ⟨some 32, .op (.bin .eql (.t 29) (.t 31)), none⟩]) (
               .cond (.t 32) (
                .reg [2, 5, 6, 7] [
                  ⟨some 6, .op (.mv (.c (.int .i64 0))), none⟩]) (
                .skip)))))) (
           .reg [2, 5, 6, 7] [
             ⟨some 21, .op (.mv (.t 7)), none⟩,
             ⟨some 22, .op (.bin .add (.t 21) (.c (.int .i64 1))), none⟩,
             ⟨some 7, .op (.mv (.t 22)), none⟩])))))) (
      .seq (
       .reg [4] [
         ⟨some 33, .op (.mv (.t 5)), none⟩,
         ⟨some 4, .op (.mv (.t 33)), none⟩]) (
       .ret))))))
theorem cf14 : compF Try.prog Try.f14 h14 = some (ac14, rs14) := by kernel_rfl

/-! mailcoach/mailcoachref10.Enough params 3 -/
def h15 : Hints := ⟨[(1, [6]), (0, [1, 2, 3])], [], [(1, [(0, []), (1, []), (2, []), (3, []), (4, []), (5, []), (7, []), (8, []), (6, [7]), (9, []), (10, []), (11, [])])]⟩
def rs15 : List ARes := [.t 6]
def ac15 : ACode :=
 .seq (
  .reg [1, 2, 3] [
    ⟨some 3, .op (.box (.t 0)), none⟩,
    ⟨some 6, .op (.mv (.c (.bool false))), none⟩]) (
  .seq (
   .dreg [6] [
     (⟨some 7, .op (.ldn 3 (.t 3)), none⟩, []),
     (⟨some 8, .call (.c (.fn 21 [] [])) [(.t 7)], none⟩, []),
     (⟨some 9, .op (.mv (.t 8)), none⟩, []),
     (⟨some 10, .op (.ldn 3 (.t 3)), some (9, true)⟩, []),
     (⟨some 11, .op (.mv (.t 1)), some (9, true)⟩, []),
     (⟨some 12, .op (.mv (.t 2)), some (9, true)⟩, []),
     (⟨some 14, .op (.fieldAddr 2 (.t 3)), some (9, true)⟩, []),
     (⟨some 15, .op (.ld1 (.t 14)), some (9, true)⟩, []),
     (⟨some 13, .call (.c (.fn 29 [] [])) [(.t 10), (.t 11), (.t 12)], some (9, true)⟩, [7]),
     (⟨some 16, .op (.bin .geq (.t 13) (.t 15)), some (9, true)⟩, []),
     (⟨some 17, .pick (.t 9) (.t 16) (.c (.bool false)), none⟩, []),
     (⟨some 6, .op (.mv (.t 17)), none⟩, [])]) (
   .ret))
theorem cf15 : compF Try.prog Try.f15 h15 = some (ac15, rs15) := by kernel_rfl

/-! (*mailcoach/writer.Writer).Sure params 1 -/
def h16 : Hints := ⟨[(3, [2]), (2, [2]), (1, [0, 4]), (0, [0])], [], []⟩
def rs16 : List ARes := [.t 2]
def ac16 : ACode :=
 .seq (
  .reg [0] [
    ⟨some 2, .op (.mv (.c (.int .u64 0))), none⟩]) (
  .seq (
   .seq (
    .reg [0, 4] [
      ⟨some 3, .op (.mv (.t 0)), none⟩,
      ⟨some 4, .op (.eqn 0 false (.t 3) (.c (.nilp))), none⟩]) (
    .cond (.t 4) (
     .seq (
      .reg [2] [
        ⟨some 2, .op (.mv (.c (.int .u64 0))), none⟩]) (
      .ret)) (
     .skip))) (
   .seq (
    .reg [2] [
      ⟨some 5, .op (.mv (.t 0)), none⟩,
      ⟨some 6, .op (.nilCheck (.t 5)), none⟩,
      ⟨some 7, .op (.fieldAddr 3 (.t 6)), none⟩,
      ⟨some 8, .op (.ld1 (.t 7)), none⟩,
      ⟨some 2, .op (.mv (.t 8)), none⟩]) (
    .ret)))
theorem cf16 : compF Try.prog Try.f16 h16 = some (ac16, rs16) := by kernel_rfl

/-! (*mailcoach/writer.Writer).Count params 1 -/
def h17 : Hints := ⟨[(3, [2]), (2, [2]), (1, [0, 4]), (0, [0])], [], [(3, [(0, []), (1, []), (2, []), (3, []), (4, []), (5, []), (6, []), (7, []), (8, []), (9, []), (10, []), (11, [])])]⟩
def rs17 : List ARes := [.t 2]
def ac17 : ACode :=
 .seq (
  .reg [0] [
    ⟨some 2, .op (.mv (.c (.int .u64 0))), none⟩]) (
  .seq (
   .seq (
    .reg [0, 4] [
      ⟨some 3, .op (.mv (.t 0)), none⟩,
      ⟨some 4, .op (.eqn 0 false (.t 3) (.c (.nilp))), none⟩]) (
    .cond (.t 4) (
     .seq (
      .reg [2] [
        ⟨some 2, .op (.mv (.c (.int .u64 0))), none⟩]) (
      .ret)) (
     .skip))) (
   .seq (
    .dreg [2] [
      (⟨some 5, .op (.mv (.t 0)), none⟩, []),
      (⟨some 6, .op (.nilCheck (.t 5)), none⟩, []),
      (⟨some 7, .op (.fieldAddr 3 (.t 6)), none⟩, []),
      (⟨some 8, .op (.ld1 (.t 7)), none⟩, []),
      (⟨some 9, .op (.mv (.t 0)), none⟩, []),
      (⟨some 10, .op (.nilCheck (.t 9)), none⟩, []),
      (⟨some 11, .op (.fieldAddr 4 (.t 10)), none⟩, []),
      (⟨some 12, .op (.ld1 (.t 11)), none⟩, []),
      (⟨some 13, .op (.len 1 (.t 12)), none⟩, []),
      (⟨some 14, .op (.toInt .u64 (.t 13)), none⟩, []),
      (⟨some 15, .op (.bin .add (.t 8) (.t 14)), none⟩, []),
      (⟨some 2, .op (.mv (.t 15)), none⟩, [])]) (
    .ret)))
theorem cf17 : compF Try.prog Try.f17 h17 = some (ac17, rs17) := by kernel_rfl

/-! (*mailcoach/writer.Writer).Close params 1 -/
def h18 : Hints := ⟨[(6, [2, 3]), (5, [0]), (2, [2, 3]), (4, [2, 3]), (3, [0, 7]), (1, [0, 4]), (0, [0])], [], []⟩
def rs18 : List ARes := [.t 2, .t 3]
def ac18 : ACode :=
 .seq (
  .reg [0] [
    ⟨some 2, .op (.mv (.c (.int .u64 0))), none⟩,
    ⟨some 3, .op (.mv (.c (.int .i64 0))), none⟩]) (
  .seq (
   .block 0 (
    .seq (
     .reg [0, 4] [
       ⟨some 5, .op (.mv (.t 0)), none⟩,
       ⟨some 6, .op (.eqn 0 false (.t 5) (.c (.nilp))), none⟩,
       ⟨some 4, .op (.mv (.t 6)), none⟩]) (
     .cond (.t 4) (
      .seq (
       .reg [2, 3] [
         ⟨some 2, .op (.mv (.c (.int .u64 0))), none⟩,
         ⟨some 3, .op (.mv (.c (.int .i64 1))), none⟩]) (
       .ret)) (
      .seq (
       .reg [0, 7] [
         ⟨some 8, .op (.mv (.t 0)), none⟩,
         ⟨some 9, .op (.nilCheck (.t 8)), none⟩,
         ⟨some 10, .op (.fieldAddr 4 (.t 9)), none⟩,
         ⟨some 11, .op (.ld1 (.t 10)), none⟩,
         ⟨some 12, .op (.len 1 (.t 11)), none⟩,
         ⟨some 13, .op (.bin .gtr (.t 12) (.c (.int .i64 0))), none⟩,
         ⟨some 7, .op (.mv (.t 13)), none⟩]) (
       .cond (.t 7) (
        .seq (
         .reg [2, 3] [
           ⟨some 2, .op (.mv (.c (.int .u64 0))), none⟩,
           ⟨some 3, .op (.mv (.c (.int .i64 23))), none⟩]) (
         .ret)) (
        .skip)))))) (
   .seq (
    .reg [0] [
      ⟨some 14, .op (.mv (.t 0)), none⟩,
      ⟨some 15, .op (.nilCheck (.t 14)), none⟩,
      ⟨some 16, .op (.fieldAddr 5 (.t 15)), none⟩,
      ⟨none, .op (.st 1 (.t 16) (.c (.bool true))), none⟩]) (
    .seq (
     .reg [2, 3] [
       ⟨some 17, .op (.mv (.t 0)), none⟩,
       ⟨some 18, .op (.nilCheck (.t 17)), none⟩,
       ⟨some 19, .op (.fieldAddr 3 (.t 18)), none⟩,
       ⟨some 20, .op (.ld1 (.t 19)), none⟩,
       ⟨some 2, .op (.mv (.t 20)), none⟩,
       ⟨some 3, .op (.mv (.c (.int .i64 0))), none⟩]) (
     .ret))))
theorem cf18 : compF Try.prog Try.f18 h18 = some (ac18, rs18) := by kernel_rfl

/-! (*mailcoach/writer.Writer).Waiting params 1 -/
def h19 : Hints := ⟨[(17, [2, 3]), (16, [0, 4, 5, 16, 17, 18]), (15, [0, 4, 5, 16, 17, 18]), (14, [0, 4, 5, 7, 8, 16, 17, 18, 29, 30, 31]), (13, [0, 4, 5, 7, 8, 16, 17, 18, 29, 30, 31]), (12, [0, 4, 5, 7, 8, 10, 16, 17, 18, 29, 30, 31, 40]), (11, [0, 4, 5, 7, 8, 10, 16, 17, 18, 29, 30, 31]), (10, [0, 4, 5, 7, 8, 16, 17, 18, 29, 30, 31, 32]), (9, [0, 4, 5, 7, 8, 16, 17, 18, 29, 30, 31]), (8, [0, 4, 5, 7, 8, 16, 17, 18]), (7, [0, 4, 5, 7, 16, 17, 18]), (6, [0, 4, 5, 16, 17, 18, 19]), (5, [0, 4, 5, 16, 17, 18]), (4, [2, 3]), (3, [0, 4, 5, 12]), (2, [0, 4, 5]), (1, [0, 4]), (0, [0])], [(10, [0, 4, 5, 7, 8, 16, 17, 18, 29, 30, 31]), (6, [0, 4, 5, 16, 17, 18])], [(9, [(0, []), (1, []), (2, []), (3, []), (4, []), (5, []), (6, []), (9, []), (7, []), (8, [])]), (15, [(0, []), (1, []), (2, []), (3, []), (4, []), (5, []), (6, []), (11, []), (12, []), (13, []), (7, [3]), (8, []), (9, []), (10, []), (14, []), (15, []), (16, [])])]⟩
def rs19 : List ARes := [.t 2, .t 3]
def ac19 : ACode :=
 .seq (
  .reg [0] [
    ⟨some 2, .op (.mv (.c (.nilsl))), none⟩,
    ⟨some 3, .op (.mv (.c (.nilsl))), none⟩]) (
  .seq (
   .reg [0, 4] [
     ⟨some 4, .op (.mv (.c (.nilsl))), none⟩]) (
   .seq (
    .reg [0, 4, 5] [
      ⟨some 5, .op (.mv (.c (.nilsl))), none⟩]) (
    .seq (
     .seq (
      .reg [0, 4, 5, 12] [
        ⟨some 11, .op (.mv (.t 0)), none⟩,
        ⟨some 12, .op (.eqn 0 false (.t 11) (.c (.nilp))), none⟩]) (
      .cond (.t 12) (
       .seq (
        .reg [2, 3] [
          ⟨some 2, .op (.mv (.c (.nilsl))), none⟩,
          ⟨some 3, .op (.mv (.c (.nilsl))), none⟩]) (
        .ret)) (
       .skip))) (
     .seq (
      .seq (
       .reg [0, 4, 5, 16, 17, 18] [
         ⟨some 13, .op (.mv (.t 0)), none⟩,
         ⟨some 14, .op (.nilCheck (.t 13)), none⟩,
         ⟨some 15, .op (.fieldAddr 4 (.t 14)), none⟩,
         ⟨some 16, .op (.ld1 (.t 15)), none⟩,
         ⟨some 17, .op (.len 1 (.t 16)), none⟩,
         ⟨some 18, .op (.mv (.c (.int .i64 0))), none⟩]) (
       .block 0 (
        .loop [0, 4, 5, 16, 17, 18] (
         .seq (
          .reg [0, 4, 5, 16, 17, 18, 19] [
            ⟨some 19, .op (.bin .lss (.t 18) (.t 17)), none⟩]) (
          .seq (
           .cond (.t 19) (
            .skip) (
            .exit 0)) (
           .seq (
            .block 1 (
             .seq (
              .reg [0, 4, 5, 7, 16, 17, 18] [
                ⟨some 20, .op (.idxAddr 3 (.t 16) (.t 18)), none⟩,
                ⟨some 21, .op (.ldn 3 (.t 20)), none⟩,
                ⟨some 7, .op (.alloc [.int .u64 0, .nilsl, .nilsl]), none⟩,
                ⟨none, .op (.st 3 (.t 7) (.t 21)), none⟩]) (
              .seq (
               .reg [0, 4, 5, 7, 8, 16, 17, 18] [
                 ⟨some 8, .op (.mv (.c (.nilsl))), none⟩]) (
               .seq (
                .seq (
                 .dreg [0, 4, 5, 7, 8, 16, 17, 18, 29, 30, 31] [
                   (⟨some 22, .op (.mv (.t 0)), none⟩, []),
                   (⟨some 23, .op (.nilCheck (.t 22)), none⟩, []),
                   (⟨some 24, .op (.fieldAddr 0 (.t 23)), none⟩, []),
                   (⟨some 25, .op (.ldn 3 (.t 24)), none⟩, []),
                   (⟨some 26, .op (.fieldAddr 0 (.t 7)), none⟩, []),
                   (⟨some 27, .op (.fieldAddr 0 (.t 26)), none⟩, []),
                   (⟨some 28, .op (.ld1 (.t 27)), none⟩, []),
                   (⟨some 31, .op (.mv (.c (.int .i64 0))), none⟩, []),
                   (⟨some 29, .call (.c (.fn 27 [] [])) [(.t 25), (.t 28)], none⟩, []),
                   (⟨some 30, .op (.len 1 (.t 29)), none⟩, [])]) (
                 .block 2 (
                  .loop [0, 4, 5, 7, 8, 16, 17, 18, 29, 30, 31] (
                   .seq (
                    .reg [0, 4, 5, 7, 8, 16, 17, 18, 29, 30, 31, 32] [
                      ⟨some 32, .op (.bin .lss (.t 31) (.t 30)), none⟩]) (
                    .seq (
                     .cond (.t 32) (
                      .skip) (
                      .exit 2)) (
                     .seq (
                      .block 3 (
                       .seq (
                        .reg [0, 4, 5, 7, 8, 10, 16, 17, 18, 29, 30, 31] [
                          ⟨some 33, .op (.idxAddr 1 (.t 29) (.t 31)), none⟩,
                          ⟨some 34, .op (.ld1 (.t 33)), none⟩,
                          ⟨some 10, .op (.mv (.t 34)), none⟩]) (
                        .seq (
                         .reg [0, 4, 5, 7, 8, 10, 16, 17, 18, 29, 30, 31, 40] [
                           ⟨some 35, .op (.fieldAddr 2 (.t 7)), none⟩,
                           ⟨some 36, .op (.ld1 (.t 35)), none⟩,
                           ⟨some 37, .op (.mv (.t 10)), none⟩,
                           ⟨some 38, .op (.idxAddr 1 (.t 36) (.t 37)), none⟩,
                           ⟨some 39, .op (.ld1 (.t 38)), none⟩,
                           ⟨some 40, .op (.un .not (.t 39)), none⟩]) (
                         .cond (.t 40) (
                          .reg [0, 4, 5, 7, 8, 16, 17, 18, 29, 30, 31] [
                            ⟨some 41, .op (.mv (.t 8)), none⟩,
                            ⟨some 42, .op (.mv (.t 10)), none⟩,
                            ⟨some 43, .op (.buildSl 1 [.int .i64 0] 1 [(0, (.t 42))]), none⟩,
                            ⟨some 44, .op (.append 1 8 (.t 41) (.t 43)), none⟩,
                            ⟨some 8, .op (.mv (.t 44)), none⟩]) (
                          .skip))))) (
                      .reg [0, 4, 5, 7, 8, 16, 17, 18, 29, 30, 31] [
                        ⟨some 45, .op (.bin .add (.t 31) (.c (.int .i64 1))), none⟩,
                        ⟨some 31, .op (.mv (.t 45)), none⟩]))))))) (
                .dreg [0, 4, 5, 16, 17, 18] [
                  (⟨some 46, .op (.mv (.t 4)), none⟩, []),
                  (⟨some 47, .op (.fieldAddr 0 (.t 7)), none⟩, []),
                  (⟨some 48, .op (.fieldAddr 0 (.t 47)), none⟩, []),
                  (⟨some 49, .op (.ld1 (.t 48)), none⟩, []),
                  (⟨some 50, .op (.fieldAddr 0 (.t 7)), none⟩, []),
                  (⟨some 51, .op (.fieldAddr 1 (.t 50)), none⟩, []),
                  (⟨some 52, .op (.ld1 (.t 51)), none⟩, []),
                  (⟨some 57, .op (.mv (.t 5)), none⟩, []),
                  (⟨some 58, .op (.mv (.t 8)), none⟩, []),
                  (⟨some 59, .op (.buildSl 1 [.nilsl] 1 [(0, (.t 58))]), none⟩, []),
                  (⟨some 53, .call (.c (.fn 25 [] [])) [(.t 52)], none⟩, [3]),
                  (⟨some 54, .op (.build [.int .u64 0, .nilsl] [(0, 1, (.t 49)), (1, 1, (.t 53))]), none⟩, []),
                  (⟨some 55, .op (.buildSl 2 [.int .u64 0, .nilsl] 1 [(0, (.t 54))]), none⟩, []),
                  (⟨some 56, .op (.append 2 32 (.t 46) (.t 55)), none⟩, []),
                  (⟨some 60, .op (.append 1 24 (.t 57) (.t 59)), none⟩, []),
                  (⟨some 4, .op (.mv (.t 56)), none⟩, []),
                  (⟨some 5, .op (.mv (.t 60)), none⟩, [])]))))) (
            .reg [0, 4, 5, 16, 17, 18] [
              ⟨some 61, .op (.bin .add (.t 18) (.c (.int .i64 1))), none⟩,
              ⟨some 18, .op (.mv (.t 61)), none⟩]))))))) (
      .seq (
       .reg [2, 3] [
         ⟨some 62, .op (.mv (.t 4)), none⟩,
         ⟨some 63, .op (.mv (.t 5)), none⟩,
         ⟨some 2, .op (.mv (.t 62)), none⟩,
         ⟨some 3, .op (.mv (.t 63)), none⟩]) (
       .ret))))))
theorem cf19 : compF Try.prog Try.f19 h19 = some (ac19, rs19) := by kernel_rfl

/-! (*mailcoach/writer.Writer).Replace params 2 -/
def h20 : Hints := ⟨[(11, [4]), (10, [0, 1, 5, 13, 14, 15]), (9, [0, 1, 5, 13, 14, 15]), (8, [0, 1, 5, 7, 13, 14, 15]), (7, [0, 1, 5, 7, 13, 14, 15, 28]), (6, [0, 1, 5, 7, 13, 14, 15]), (5, [0, 1, 5, 13, 14, 15, 16]), (4, [0, 1, 5, 13, 14, 15]), (3, [4]), (2, [0, 1, 5, 9]), (1, [0, 1, 5]), (0, [0, 1])], [(5, [0, 1, 5, 13, 14, 15])], [(7, [(0, []), (1, []), (2, []), (3, []), (4, []), (5, []), (6, []), (8, []), (7, []), (9, [])])]⟩
def rs20 : List ARes := [.t 4]
def ac20 : ACode :=
 .seq (
  .reg [0, 1] [
    ⟨some 4, .op (.mv (.c (.nilsl))), none⟩]) (
  .seq (
   .reg [0, 1, 5] [
     ⟨some 5, .op (.mv (.c (.nilsl))), none⟩]) (
   .seq (
    .seq (
     .reg [0, 1, 5, 9] [
       ⟨some 8, .op (.mv (.t 0)), none⟩,
       ⟨some 9, .op (.eqn 0 false (.t 8) (.c (.nilp))), none⟩]) (
     .cond (.t 9) (
      .seq (
       .reg [4] [
         ⟨some 4, .op (.mv (.c (.nilsl))), none⟩]) (
       .ret)) (
      .skip))) (
    .seq (
     .seq (
      .reg [0, 1, 5, 13, 14, 15] [
        ⟨some 10, .op (.mv (.t 0)), none⟩,
        ⟨some 11, .op (.nilCheck (.t 10)), none⟩,
        ⟨some 12, .op (.fieldAddr 4 (.t 11)), none⟩,
        ⟨some 13, .op (.ld1 (.t 12)), none⟩,
        ⟨some 14, .op (.len 1 (.t 13)), none⟩,
        ⟨some 15, .op (.mv (.c (.int .i64 0))), none⟩]) (
      .block 0 (
       .loop [0, 1, 5, 13, 14, 15] (
        .seq (
         .reg [0, 1, 5, 13, 14, 15, 16] [
           ⟨some 16, .op (.bin .lss (.t 15) (.t 14)), none⟩]) (
         .seq (
          .cond (.t 16) (
           .skip) (
           .exit 0)) (
          .seq (
           .block 1 (
            .seq (
             .reg [0, 1, 5, 7, 13, 14, 15] [
               ⟨some 17, .op (.idxAddr 3 (.t 13) (.t 15)), none⟩,
               ⟨some 18, .op (.ldn 3 (.t 17)), none⟩,
               ⟨some 7, .op (.alloc [.int .u64 0, .nilsl, .nilsl]), none⟩,
               ⟨none, .op (.st 3 (.t 7) (.t 18)), none⟩]) (
             .seq (
              .dreg [0, 1, 5, 7, 13, 14, 15, 28] [
                (⟨some 19, .op (.mv (.t 0)), none⟩, []),
                (⟨some 20, .op (.nilCheck (.t 19)), none⟩, []),
                (⟨some 21, .op (.fieldAddr 0 (.t 20)), none⟩, []),
                (⟨some 22, .op (.ldn 3 (.t 21)), none⟩, []),
                (⟨some 23, .op (.fieldAddr 0 (.t 7)), none⟩, []),
                (⟨some 24, .op (.fieldAddr 0 (.t 23)), none⟩, []),
                (⟨some 25, .op (.ld1 (.t 24)), none⟩, []),
                (⟨some 27, .op (.mv (.t 1)), none⟩, []),
                (⟨some 26, .call (.c (.fn 27 [] [])) [(.t 22), (.t 25)], none⟩, []),
                (⟨some 28, .call (.c (.fn 26 [] [])) [(.t 26), (.t 27)], none⟩, [])]) (
              .cond (.t 28) (
               .seq (
                .reg [0, 1, 5, 7, 13, 14, 15] [
                  ⟨some 29, .op (.fieldAddr 2 (.t 7)), none⟩,
                  ⟨some 30, .op (.ld1 (.t 29)), none⟩,
                  ⟨some 31, .op (.mv (.t 1)), none⟩,
                  ⟨some 32, .op (.idxAddr 1 (.t 30) (.t 31)), none⟩,
                  ⟨none, .op (.st 1 (.t 32) (.c (.bool false))), none⟩]) (
                .reg [0, 1, 5, 13, 14, 15] [
                  ⟨some 33, .op (.mv (.t 5)), none⟩,
                  ⟨some 34, .op (.fieldAddr 0 (.t 7)), none⟩,
                  ⟨some 35, .op (.fieldAddr 0 (.t 34)), none⟩,
                  ⟨some 36, .op (.ld1 (.t 35)), none⟩,
                  ⟨some 37, .op (.buildSl 1 [.int .u64 0] 1 [(0, (.t 36))]), none⟩,
                  ⟨some 38, .op (.append 1 8 (.t 33) (.t 37)), none⟩,
                  ⟨some 5, .op (.mv (.t 38)), none⟩])) (
               .skip))))) (
           .reg [0, 1, 5, 13, 14, 15] [
             ⟨some 39, .op (.bin .add (.t 15) (.c (.int .i64 1))), none⟩,
             ⟨some 15, .op (.mv (.t 39)), none⟩]))))))) (
     .seq (
      .reg [4] [
        ⟨some 40, .op (.mv (.t 5)), none⟩,
        ⟨some 4, .op (.mv (.t 40)), none⟩]) (
      .ret)))))
theorem cf20 : compF Try.prog Try.f20 h20 = some (ac20, rs20) := by kernel_rfl

/-! mailcoach/mailcoachref10.Check params 1 -/
def h21 : Hints := ⟨[(1, [2]), (0, [1])], [], []⟩
def rs21 : List ARes := [.t 2]
def ac21 : ACode :=
 .seq (
  .reg [1] [
    ⟨some 1, .op (.box (.t 0)), none⟩,
    ⟨some 2, .op (.mv (.c (.bool false))), none⟩]) (
  .seq (
   .reg [2] [
     ⟨some 3, .op (.fieldAddr 2 (.t 1)), none⟩,
     ⟨some 4, .op (.ld1 (.t 3)), none⟩,
     ⟨some 5, .op (.bin .geq (.t 4) (.c (.int .i64 1))), none⟩,
     ⟨some 6, .op (.mv (.t 5)), none⟩,
     ⟨some 7, .op (.fieldAddr 1 (.t 1)), some (6, true)⟩,
     ⟨some 8, .op (.ld1 (.t 7)), some (6, true)⟩,
     ⟨some 9, .op (.fieldAddr 2 (.t 1)), some (6, true)⟩,
     ⟨some 10, .op (.ld1 (.t 9)), some (6, true)⟩,
     ⟨some 11, .op (.bin .geq (.t 8) (.t 10)), some (6, true)⟩,
     ⟨some 12, .pick (.t 6) (.t 11) (.c (.bool false)), none⟩,
     ⟨some 13, .op (.mv (.t 12)), none⟩,
     ⟨some 14, .op (.fieldAddr 0 (.t 1)), some (13, true)⟩,
     ⟨some 15, .op (.ld1 (.t 14)), some (13, true)⟩,
     ⟨some 16, .op (.fieldAddr 1 (.t 1)), some (13, true)⟩,
     ⟨some 17, .op (.ld1 (.t 16)), some (13, true)⟩,
     ⟨some 18, .op (.bin .geq (.t 15) (.t 17)), some (13, true)⟩,
     ⟨some 19, .pick (.t 13) (.t 18) (.c (.bool false)), none⟩,
     ⟨some 20, .op (.mv (.t 19)), none⟩,
     ⟨some 21, .op (.fieldAddr 0 (.t 1)), some (20, true)⟩,
     ⟨some 22, .op (.ld1 (.t 21)), some (20, true)⟩,
     ⟨some 23, .op (.bin .leq (.t 22) (.c (.int .i64 7))), some (20, true)⟩,
     ⟨some 24, .pick (.t 20) (.t 23) (.c (.bool false)), none⟩,
     ⟨some 2, .op (.mv (.t 24)), none⟩]) (
   .ret))
theorem cf21 : compF Try.prog Try.f21 h21 = some (ac21, rs21) := by kernel_rfl

/-! mailcoach/mailcoachlaw11.did params 3 -/
def h22 : Hints := ⟨[(30, [6]), (14, [6]), (13, [8, 9, 11, 12]), (12, [1, 5, 7, 8, 9, 62, 63]), (11, [1, 5, 7, 8, 9, 62, 63]), (10, [1, 5, 7, 8, 9, 10, 62, 63]), (9, [1, 5, 7, 8, 9, 62, 63, 64]), (8, [1, 5, 7, 8, 9, 62, 63]), (7, [1, 5, 7, 8, 9]), (6, [0, 1, 5, 7]), (25, [6]), (24, [13, 14, 104, 105]), (23, [6]), (22, [13, 14, 104, 105, 116]), (21, [13, 14, 15, 104, 105]), (20, [13, 14, 104, 105, 106]), (19, [13, 14, 104, 105]), (18, [6]), (17, [13, 14, 102]), (16, [13, 14]), (29, [6]), (28, [16, 17, 18, 19]), (27, [1, 16, 17]), (26, [0, 1, 5, 118]), (15, [0, 1, 5, 47, 88]), (5, [0, 1, 5, 47, 48]), (4, [0, 1, 5, 47, 48]), (3, [0, 1, 5, 47]), (2, [0, 1, 5]), (1, [0, 1, 5, 22]), (0, [0, 1, 5])], [(9, [1, 5, 7, 8, 9, 62, 63]), (20, [13, 14, 104, 105])], [(2, [(0, []), (1, []), (2, []), (3, []), (4, []), (5, []), (6, []), (7, []), (8, []), (9, []), (10, []), (11, []), (12, []), (13, []), (14, []), (15, []), (16, []), (17, []), (18, []), (19, []), (20, []), (21, [14]), (22, []), (23, [])]), (16, [(0, []), (1, []), (2, []), (4, []), (5, []), (6, []), (3, [5]), (7, []), (8, []), (9, [])]), (22, [(0, []), (1, []), (2, []), (3, []), (4, []), (5, []), (6, []), (7, []), (8, [])]), (30, [(0, []), (1, []), (2, []), (3, []), (4, []), (6, []), (7, []), (8, []), (9, []), (10, []), (5, [7, 9]), (11, []), (12, []), (13, [])])]⟩
def rs22 : List ARes := [.t 6]
def ac22 : ACode :=
 .seq (
  .reg [0, 1, 5] [
    ⟨some 5, .op (.box (.t 2)), none⟩,
    ⟨some 6, .op (.mv (.c (.bool false))), none⟩]) (
  .seq (
   .seq (
    .reg [0, 1, 5, 22] [
      ⟨some 20, .op (.fieldAddr 4 (.t 5)), none⟩,
      ⟨some 21, .op (.ld1 (.t 20)), none⟩,
      ⟨some 22, .op (.un .not (.t 21)), none⟩]) (
    .cond (.t 22) (
     .dreg [0, 1, 5] [
       (⟨some 23, .op (.fieldAddr 2 (.t 5)), none⟩, []),
       (⟨some 24, .op (.ld1 (.t 23)), none⟩, []),
       (⟨some 25, .op (.toInt .u64 (.t 24)), none⟩, []),
       (⟨some 26, .op (.mv (.t 1)), none⟩, []),
       (⟨some 27, .op (.nilCheck (.t 26)), none⟩, []),
       (⟨some 28, .op (.fieldAddr 0 (.t 27)), none⟩, []),
       (⟨some 29, .op (.fieldAddr 0 (.t 28)), none⟩, []),
       (⟨some 30, .op (.ld1 (.t 29)), none⟩, []),
       (⟨some 31, .op (.toInt .u64 (.t 30)), none⟩, []),
       (⟨some 32, .op (.bin .rem (.t 25) (.t 31)), none⟩, []),
       (⟨some 33, .op (.toInt .i64 (.t 32)), none⟩, []),
       (⟨some 34, .op (.mv (.t 1)), none⟩, []),
       (⟨some 35, .op (.nilCheck (.t 34)), none⟩, []),
       (⟨some 36, .op (.fieldAddr 5 (.t 35)), none⟩, []),
       (⟨some 37, .op (.ld1 (.t 36)), none⟩, []),
       (⟨some 38, .op (.toInt .u64 (.t 37)), none⟩, []),
       (⟨some 39, .op (.fieldAddr 3 (.t 5)), none⟩, []),
       (⟨some 40, .op (.ld1 (.t 39)), none⟩, []),
       (⟨some 41, .op (.bin .rem (.t 40) (.c (.int .u64 4))), none⟩, []),
       (⟨some 42, .op (.bin .add (.t 38) (.t 41)), none⟩, []),
       (⟨some 43, .op (.fieldAddr 2 (.t 5)), none⟩, []),
       (⟨none, .op (.st 1 (.t 43) (.t 33)), none⟩, [14]),
       (⟨some 44, .op (.fieldAddr 3 (.t 5)), none⟩, []),
       (⟨none, .op (.st 1 (.t 44) (.t 42)), none⟩, [])]) (
     .skip))) (
   .seq (
    .seq (
     .reg [0, 1, 5, 47] [
       ⟨some 45, .op (.fieldAddr 0 (.t 5)), none⟩,
       ⟨some 46, .op (.ld1 (.t 45)), none⟩,
       ⟨some 47, .op (.bin .rem (.t 46) (.c (.int .u8 7))), none⟩]) (
     .block 0 (
      .seq (
       .seq (
        .reg [0, 1, 5, 47, 48] [
          ⟨some 49, .op (.bin .eql (.t 47) (.c (.int .u8 0))), none⟩,
          ⟨some 48, .op (.mv (.t 49)), none⟩]) (
        .cond (.t 48) (
         .skip) (
         .reg [0, 1, 5, 47, 48] [
           ⟨some 50, .op (.bin .eql (.t 47) (.c (.int .u8 1))), none⟩,
           ⟨some 48, .op (.mv (.t 50)), none⟩]))) (
       .cond (.t 48) (
        .seq (
         .reg [0, 1, 5, 7] [
           ⟨some 51, .op (.buildSl 1 [.int .u8 0] 0 []), none⟩,
           ⟨some 52, .op (.fieldAddr 1 (.t 5)), none⟩,
           ⟨some 53, .op (.ld1 (.t 52)), none⟩,
           ⟨some 54, .op (.append 1 1 (.t 51) (.t 53)), none⟩,
           ⟨some 7, .op (.mv (.t 54)), none⟩]) (
         .seq (
          .reg [1, 5, 7, 8, 9] [
            ⟨some 56, .op (.mv (.t 0)), none⟩,
            ⟨some 57, .op (.mv (.t 7)), none⟩,
            ⟨some 58, .call (.c (.fn 11 [] [])) [(.t 56), (.t 57)], none⟩,
            ⟨some 55, .op (.mv (.t 58)), none⟩,
            ⟨some 59, .op (.extract (.t 55) 0), none⟩,
            ⟨some 60, .op (.extract (.t 55) 1), none⟩,
            ⟨some 8, .op (.mv (.t 59)), none⟩,
            ⟨some 9, .op (.mv (.t 60)), none⟩]) (
          .seq (
           .seq (
            .reg [1, 5, 7, 8, 9, 62, 63] [
              ⟨some 61, .op (.mv (.t 7)), none⟩,
              ⟨some 62, .op (.len 1 (.t 61)), none⟩,
              ⟨some 63, .op (.mv (.c (.int .i64 0))), none⟩]) (
            .block 1 (
             .loop [1, 5, 7, 8, 9, 62, 63] (
              .seq (
               .reg [1, 5, 7, 8, 9, 62, 63, 64] [
                 ⟨some 64, .op (.bin .lss (.t 63) (.t 62)), none⟩]) (
               .seq (
                .cond (.t 64) (
                 .skip) (
                 .exit 1)) (
                .seq (
                 .block 2 (
                  .seq (
                   .reg [1, 5, 7, 8, 9, 10, 62, 63] [
                     ⟨some 65, .op (.mv (.t 63)), none⟩,
                     ⟨some 10, .op (.mv (.t 65)), none⟩]) (
                   .reg [1, 5, 7, 8, 9, 62, 63] [
                     ⟨some 66, .op (.mv (.t 7)), none⟩,
                     ⟨some 67, .op (.mv (.t 10)), none⟩,
                     ⟨some 68, .op (.idxAddr 1 (.t 66) (.t 67)), none⟩,
                     ⟨some 69, .op (.ld1 (.t 68)), none⟩,
                     ⟨some 70, .op (.bin .xor (.t 69) (.c (.int .u8 255))), none⟩,
                     ⟨some 71, .op (.idxAddr 1 (.t 66) (.t 67)), none⟩,
                     ⟨none, .op (.st 1 (.t 71) (.t 70)), none⟩]))) (
                 .reg [1, 5, 7, 8, 9, 62, 63] [
                   ⟨some 72, .op (.bin .add (.t 63) (.c (.int .i64 1))), none⟩,
                   ⟨some 63, .op (.mv (.t 72)), none⟩]))))))) (
           .seq (
            .reg [8, 9, 11, 12] [
              ⟨some 74, .op (.mv (.t 1)), none⟩,
              ⟨some 75, .op (.fieldAddr 1 (.t 5)), none⟩,
              ⟨some 76, .op (.ld1 (.t 75)), none⟩,
              ⟨some 77, .call (.c (.fn 30 [] [])) [(.t 74), (.t 76)], none⟩,
              ⟨some 73, .op (.mv (.t 77)), none⟩,
              ⟨some 78, .op (.extract (.t 73) 0), none⟩,
              ⟨some 79, .op (.extract (.t 73) 1), none⟩,
              ⟨some 11, .op (.mv (.t 78)), none⟩,
              ⟨some 12, .op (.mv (.t 79)), none⟩]) (
            .seq (
             .reg [6] [
               ⟨some 80, .op (.mv (.t 8)), none⟩,
               ⟨some 81, .op (.mv (.t 11)), none⟩,
               ⟨some 82, .op (.bin .eql (.t 80) (.t 81)), none⟩,
               ⟨some 83, .op (.mv (.t 82)), none⟩,
               ⟨some 84, .op (.mv (.t 9)), some (83, true)⟩,
               ⟨some 85, .op (.mv (.t 12)), some (83, true)⟩,
               ⟨some 86, .op (.bin .eql (.t 84) (.t 85)), some (83, true)⟩,
               ⟨some 87, .pick (.t 83) (.t 86) (.c (.bool false)), none⟩,
               ⟨some 6, .op (.mv (.t 87)), none⟩]) (
             .ret)))))) (
        .seq (
         .reg [0, 1, 5, 47, 88] [
           ⟨some 89, .op (.bin .eql (.t 47) (.c (.int .u8 5))), none⟩,
           ⟨some 88, .op (.mv (.t 89)), none⟩]) (
         .cond (.t 88) (
          .seq (
           .dreg [13, 14] [
             (⟨some 90, .op (.mv (.t 0)), none⟩, []),
             (⟨some 91, .op (.fieldAddr 2 (.t 5)), none⟩, []),
             (⟨some 92, .op (.ld1 (.t 91)), none⟩, []),
             (⟨some 94, .op (.mv (.t 1)), none⟩, []),
             (⟨some 95, .op (.fieldAddr 2 (.t 5)), none⟩, []),
             (⟨some 96, .op (.ld1 (.t 95)), none⟩, []),
             (⟨some 93, .call (.c (.fn 20 [] [])) [(.t 90), (.t 92)], none⟩, [5]),
             (⟨some 97, .call (.c (.fn 31 [] [])) [(.t 94), (.t 96)], none⟩, []),
             (⟨some 13, .op (.mv (.t 93)), none⟩, []),
             (⟨some 14, .op (.mv (.t 97)), none⟩, [])]) (
           .seq (
            .seq (
             .reg [13, 14, 102] [
               ⟨some 98, .op (.mv (.t 13)), none⟩,
               ⟨some 99, .op (.len 1 (.t 98)), none⟩,
               ⟨some 100, .op (.mv (.t 14)), none⟩,
               ⟨some 101, .op (.len 1 (.t 100)), none⟩,
               ⟨some 102, .op (.bin .neq (.t 99) (.t 101)), none⟩]) (
             .cond (.t 102) (
              .seq (
               .reg [6] [
                 ⟨some 6, .op (.mv (.c (.bool false))), none⟩]) (
               .ret)) (
              .skip))) (
            .seq (
             .seq (
              .reg [13, 14, 104, 105] [
                ⟨some 103, .op (.mv (.t 13)), none⟩,
                ⟨some 104, .op (.len 1 (.t 103)), none⟩,
                ⟨some 105, .op (.mv (.c (.int .i64 0))), none⟩]) (
              .block 3 (
               .loop [13, 14, 104, 105] (
                .seq (
                 .reg [13, 14, 104, 105, 106] [
                   ⟨some 106, .op (.bin .lss (.t 105) (.t 104)), none⟩]) (
                 .seq (
                  .cond (.t 106) (
                   .skip) (
                   .exit 3)) (
                  .seq (
                   .block 4 (
                    .seq (
                     .reg [13, 14, 15, 104, 105] [
                       ⟨some 107, .op (.mv (.t 105)), none⟩,
                       ⟨some 15, .op (.mv (.t 107)), none⟩]) (
                     .seq (
                      .dreg [13, 14, 104, 105, 116] [
                        (⟨some 108, .op (.mv (.t 13)), none⟩, []),
                        (⟨some 109, .op (.mv (.t 15)), none⟩, []),
                        (⟨some 110, .op (.idxAddr 1 (.t 108) (.t 109)), none⟩, []),
                        (⟨some 111, .op (.ld1 (.t 110)), none⟩, []),
                        (⟨some 112, .op (.mv (.t 14)), none⟩, []),
                        (⟨some 113, .op (.mv (.t 15)), none⟩, []),
                        (⟨some 114, .op (.idxAddr 1 (.t 112) (.t 113)), none⟩, []),
                        (⟨some 115, .op (.ld1 (.t 114)), none⟩, []),
                        (⟨some 116, .op (.bin .neq (.t 111) (.t 115)), none⟩, [])]) (
                      .cond (.t 116) (
                       .seq (
                        .reg [6] [
                          ⟨some 6, .op (.mv (.c (.bool false))), none⟩]) (
                        .ret)) (
                       .skip))))) (
                   .reg [13, 14, 104, 105] [
                     ⟨some 117, .op (.bin .add (.t 105) (.c (.int .i64 1))), none⟩,
                     ⟨some 105, .op (.mv (.t 117)), none⟩]))))))) (
             .seq (
              .reg [6] [
                ⟨some 6, .op (.mv (.c (.bool true))), none⟩]) (
              .ret))))) (
          .seq (
           .reg [0, 1, 5, 118] [
             ⟨some 119, .op (.bin .eql (.t 47) (.c (.int .u8 6))), none⟩,
             ⟨some 118, .op (.mv (.t 119)), none⟩]) (
           .cond (.t 118) (
            .seq (
             .reg [1, 16, 17] [
               ⟨some 121, .op (.mv (.t 0)), none⟩,
               ⟨some 122, .call (.c (.fn 18 [] [])) [(.t 121)], none⟩,
               ⟨some 120, .op (.mv (.t 122)), none⟩,
               ⟨some 123, .op (.extract (.t 120) 0), none⟩,
               ⟨some 124, .op (.extract (.t 120) 1), none⟩,
               ⟨some 16, .op (.mv (.t 123)), none⟩,
               ⟨some 17, .op (.mv (.t 124)), none⟩]) (
             .seq (
              .reg [16, 17, 18, 19] [
                ⟨some 126, .op (.mv (.t 1)), none⟩,
                ⟨some 127, .call (.c (.fn 32 [] [])) [(.t 126)], none⟩,
                ⟨some 125, .op (.mv (.t 127)), none⟩,
                ⟨some 128, .op (.extract (.t 125) 0), none⟩,
                ⟨some 129, .op (.extract (.t 125) 1), none⟩,
                ⟨some 18, .op (.mv (.t 128)), none⟩,
                ⟨some 19, .op (.mv (.t 129)), none⟩]) (
              .seq (
               .reg [6] [
                 ⟨some 130, .op (.mv (.t 16)), none⟩,
                 ⟨some 131, .op (.mv (.t 18)), none⟩,
                 ⟨some 132, .op (.bin .eql (.t 130) (.t 131)), none⟩,
                 ⟨some 133, .op (.mv (.t 132)), none⟩,
                 ⟨some 134, .op (.mv (.t 17)), some (133, true)⟩,
                 ⟨some 135, .op (.mv (.t 19)), some (133, true)⟩,
                 ⟨some 136, .op (.bin .eql (.t 134) (.t 135)), some (133, true)⟩,
                 ⟨some 137, .pick (.t 133) (.t 136) (.c (.bool false)), none⟩,
                 ⟨some 6, .op (.mv (.t 137)), none⟩]) (
               .ret)))) (
            .skip))))))))) (
    .seq (
     .dreg [6] [
       (⟨some 138, .op (.mv (.t 0)), none⟩, []),
       (⟨some 139, .op (.fieldAddr 2 (.t 5)), none⟩, []),
       (⟨some 140, .op (.ld1 (.t 139)), none⟩, []),
       (⟨some 141, .op (.fieldAddr 3 (.t 5)), none⟩, []),
       (⟨some 142, .op (.ld1 (.t 141)), none⟩, []),
       (⟨some 144, .op (.mv (.t 1)), none⟩, []),
       (⟨some 145, .op (.fieldAddr 2 (.t 5)), none⟩, []),
       (⟨some 146, .op (.ld1 (.t 145)), none⟩, []),
       (⟨some 147, .op (.fieldAddr 3 (.t 5)), none⟩, []),
       (⟨some 148, .op (.ld1 (.t 147)), none⟩, []),
       (⟨some 143, .call (.c (.fn 12 [] [])) [(.t 138), (.t 140), (.t 142)], none⟩, [7, 9]),
       (⟨some 149, .call (.c (.fn 34 [] [])) [(.t 144), (.t 146), (.t 148)], none⟩, []),
       (⟨some 150, .call (.c (.fn 33 [] [])) [(.t 143), (.t 149)], none⟩, []),
       (⟨some 6, .op (.mv (.t 150)), none⟩, [])]) (
     .ret))))
theorem cf22 : compF Try.prog Try.f22 h22 = some (ac22, rs22) := by kernel_rfl

/-! mailcoach/mailcoachlaw11.shows params 2 -/
def h23 : Hints := ⟨[(17, [4]), (16, [0, 1, 6, 8, 33, 34]), (15, [0, 1, 6, 8, 9, 33, 34, 52, 53]), (14, [4]), (13, [0, 1, 6, 8, 9, 33, 34, 52, 53, 70]), (12, [0, 1, 6, 8, 9, 10, 33, 34, 52, 53]), (11, [0, 1, 6, 8, 9, 33, 34, 52, 53, 54]), (10, [0, 1, 6, 8, 9, 33, 34, 52, 53]), (9, [4]), (8, [0, 1, 6, 8, 9, 33, 34, 47]), (7, [0, 1, 6, 8, 9, 33, 34]), (6, [0, 1, 6, 8, 33, 34, 35]), (5, [0, 1, 6, 8, 33, 34]), (4, [4]), (3, [0, 1, 6, 8, 31]), (2, [0, 1, 5, 6, 7, 8]), (1, [0, 1, 5, 6]), (0, [0, 1])], [(11, [0, 1, 6, 8, 9, 33, 34, 52, 53]), (6, [0, 1, 6, 8, 33, 34])], [(8, [(0, []), (1, []), (2, []), (3, []), (4, []), (5, []), (6, []), (7, []), (8, []), (9, []), (10, [])]), (13, [(0, []), (1, []), (2, []), (3, []), (4, []), (5, []), (6, []), (7, []), (8, []), (9, []), (10, []), (11, []), (12, []), (13, []), (14, [])]), (17, [(0, []), (2, []), (3, []), (4, []), (5, []), (6, []), (7, []), (1, [4, 5]), (8, []), (9, []), (10, []), (12, []), (13, []), (14, []), (15, []), (16, []), (11, [14]), (17, []), (18, []), (19, [])])]⟩
def rs23 : List ARes := [.t 4]
def ac23 : ACode :=
 .seq (
  .reg [0, 1] [
    ⟨some 4, .op (.mv (.c (.bool false))), none⟩]) (
  .seq (
   .reg [0, 1, 5, 6] [
     ⟨some 12, .op (.mv (.t 0)), none⟩,
     ⟨some 13, .call (.c (.fn 19 [] [])) [(.t 12)], none⟩,
     ⟨some 11, .op (.mv (.t 13)), none⟩,
     ⟨some 14, .op (.extract (.t 11) 0), none⟩,
     ⟨some 15, .op (.extract (.t 11) 1), none⟩,
     ⟨some 5, .op (.mv (.t 14)), none⟩,
     ⟨some 6, .op (.mv (.t 15)), none⟩]) (
   .seq (
    .reg [0, 1, 5, 6, 7, 8] [
      ⟨some 17, .op (.mv (.t 1)), none⟩,
      ⟨some 18, .call (.c (.fn 35 [] [])) [(.t 17)], none⟩,
      ⟨some 16, .op (.mv (.t 18)), none⟩,
      ⟨some 19, .op (.extract (.t 16) 0), none⟩,
      ⟨some 20, .op (.extract (.t 16) 1), none⟩,
      ⟨some 7, .op (.mv (.t 19)), none⟩,
      ⟨some 8, .op (.mv (.t 20)), none⟩]) (
    .seq (
     .seq (
      .reg [0, 1, 6, 8, 31] [
        ⟨some 21, .op (.mv (.t 5)), none⟩,
        ⟨some 22, .op (.mv (.t 7)), none⟩,
        ⟨some 23, .call (.c (.fn 33 [] [])) [(.t 21), (.t 22)], none⟩,
        ⟨some 24, .op (.un .not (.t 23)), none⟩,
        ⟨some 25, .op (.mv (.t 24)), none⟩,
        ⟨some 26, .op (.mv (.t 6)), some (25, false)⟩,
        ⟨some 27, .op (.len 1 (.t 26)), some (25, false)⟩,
        ⟨some 28, .op (.mv (.t 8)), some (25, false)⟩,
        ⟨some 29, .op (.len 1 (.t 28)), some (25, false)⟩,
        ⟨some 30, .op (.bin .neq (.t 27) (.t 29)), some (25, false)⟩,
        ⟨some 31, .pick (.t 25) (.c (.bool true)) (.t 30), none⟩]) (
      .cond (.t 31) (
       .seq (
        .reg [4] [
          ⟨some 4, .op (.mv (.c (.bool false))), none⟩]) (
        .ret)) (
       .skip))) (
     .seq (
      .seq (
       .reg [0, 1, 6, 8, 33, 34] [
         ⟨some 32, .op (.mv (.t 6)), none⟩,
         ⟨some 33, .op (.len 1 (.t 32)), none⟩,
         ⟨some 34, .op (.mv (.c (.int .i64 0))), none⟩]) (
       .block 0 (
        .loop [0, 1, 6, 8, 33, 34] (
         .seq (
          .reg [0, 1, 6, 8, 33, 34, 35] [
            ⟨some 35, .op (.bin .lss (.t 34) (.t 33)), none⟩]) (
          .seq (
           .cond (.t 35) (
            .skip) (
            .exit 0)) (
           .seq (
            .block 1 (
             .seq (
              .reg [0, 1, 6, 8, 9, 33, 34] [
                ⟨some 36, .op (.mv (.t 34)), none⟩,
                ⟨some 9, .op (.mv (.t 36)), none⟩]) (
              .seq (
               .seq (
                .dreg [0, 1, 6, 8, 9, 33, 34, 47] [
                  (⟨some 37, .op (.mv (.t 6)), none⟩, []),
                  (⟨some 38, .op (.mv (.t 9)), none⟩, []),
                  (⟨some 39, .op (.idxAddr 1 (.t 37) (.t 38)), none⟩, []),
                  (⟨some 40, .op (.ld1 (.t 39)), none⟩, []),
                  (⟨some 41, .op (.len 1 (.t 40)), none⟩, []),
                  (⟨some 42, .op (.mv (.t 8)), none⟩, []),
                  (⟨some 43, .op (.mv (.t 9)), none⟩, []),
                  (⟨some 44, .op (.idxAddr 1 (.t 42) (.t 43)), none⟩, []),
                  (⟨some 45, .op (.ld1 (.t 44)), none⟩, []),
                  (⟨some 46, .op (.len 1 (.t 45)), none⟩, []),
                  (⟨some 47, .op (.bin .neq (.t 41) (.t 46)), none⟩, [])]) (
                .cond (.t 47) (
                 .seq (
                  .reg [4] [
                    ⟨some 4, .op (.mv (.c (.bool false))), none⟩]) (
                  .ret)) (
                 .skip))) (
               .seq (
                .reg [0, 1, 6, 8, 9, 33, 34, 52, 53] [
                  ⟨some 48, .op (.mv (.t 6)), none⟩,
                  ⟨some 49, .op (.mv (.t 9)), none⟩,
                  ⟨some 50, .op (.idxAddr 1 (.t 48) (.t 49)), none⟩,
                  ⟨some 51, .op (.ld1 (.t 50)), none⟩,
                  ⟨some 52, .op (.len 1 (.t 51)), none⟩,
                  ⟨some 53, .op (.mv (.c (.int .i64 0))), none⟩]) (
                .block 2 (
                 .loop [0, 1, 6, 8, 9, 33, 34, 52, 53] (
                  .seq (
                   .reg [0, 1, 6, 8, 9, 33, 34, 52, 53, 54] [
                     ⟨some 54, .op (.bin .lss (.t 53) (.t 52)), none⟩]) (
                   .seq (
                    .cond (.t 54) (
                     .skip) (
                     .exit 2)) (
                    .seq (
                     .block 3 (
                      .seq (
                       .reg [0, 1, 6, 8, 9, 10, 33, 34, 52, 53] [
                         ⟨some 55, .op (.mv (.t 53)), none⟩,
                         ⟨some 10, .op (.mv (.t 55)), none⟩]) (
                       .seq (
                        .dreg [0, 1, 6, 8, 9, 33, 34, 52, 53, 70] [
                          (⟨some 56, .op (.mv (.t 6)), none⟩, []),
                          (⟨some 57, .op (.mv (.t 9)), none⟩, []),
                          (⟨some 58, .op (.idxAddr 1 (.t 56) (.t 57)), none⟩, []),
                          (⟨some 59, .op (.ld1 (.t 58)), none⟩, []),
                          (⟨some 60, .op (.mv (.t 10)), none⟩, []),
                          (⟨some 61, .op (.idxAddr 1 (.t 59) (.t 60)), none⟩, []),
                          (⟨some 62, .op (.ld1 (.t 61)), none⟩, []),
                          (⟨some 63, .op (.mv (.t 8)), none⟩, []),
                          (⟨some 64, .op (.mv (.t 9)), none⟩, []),
                          (⟨some 65, .op (.idxAddr 1 (.t 63) (.t 64)), none⟩, []),
                          (⟨some 66, .op (.ld1 (.t 65)), none⟩, []),
                          (⟨some 67, .op (.mv (.t 10)), none⟩, []),
                          (⟨some 68, .op (.idxAddr 1 (.t 66) (.t 67)), none⟩, []),
                          (⟨some 69, .op (.ld1 (.t 68)), none⟩, []),
                          (⟨some 70, .op (.bin .neq (.t 62) (.t 69)), none⟩, [])]) (
                        .cond (.t 70) (
                         .seq (
                          .reg [4] [
                            ⟨some 4, .op (.mv (.c (.bool false))), none⟩]) (
                          .ret)) (
                         .skip))))) (
                     .reg [0, 1, 6, 8, 9, 33, 34, 52, 53] [
                       ⟨some 71, .op (.bin .add (.t 53) (.c (.int .i64 1))), none⟩,
                       ⟨some 53, .op (.mv (.t 71)), none⟩])))))))))) (
            .reg [0, 1, 6, 8, 33, 34] [
              ⟨some 72, .op (.bin .add (.t 34) (.c (.int .i64 1))), none⟩,
              ⟨some 34, .op (.mv (.t 72)), none⟩]))))))) (
      .seq (
       .dreg [4] [
         (⟨some 73, .op (.mv (.t 0)), none⟩, []),
         (⟨some 75, .op (.mv (.t 1)), none⟩, []),
         (⟨some 76, .op (.nilCheck (.t 75)), none⟩, []),
         (⟨some 77, .op (.fieldAddr 3 (.t 76)), none⟩, []),
         (⟨some 78, .op (.ld1 (.t 77)), none⟩, []),
         (⟨some 79, .op (.len 1 (.t 78)), none⟩, []),
         (⟨some 80, .op (.toInt .u64 (.t 79)), none⟩, []),
         (⟨some 74, .call (.c (.fn 17 [] [])) [(.t 73)], none⟩, [4, 5]),
         (⟨some 81, .op (.bin .eql (.t 74) (.t 80)), none⟩, []),
         (⟨some 82, .op (.mv (.t 81)), none⟩, []),
         (⟨some 83, .op (.mv (.t 0)), some (82, true)⟩, []),
         (⟨some 85, .op (.mv (.t 1)), some (82, true)⟩, []),
         (⟨some 86, .op (.nilCheck (.t 85)), some (82, true)⟩, []),
         (⟨some 87, .op (.fieldAddr 5 (.t 86)), some (82, true)⟩, []),
         (⟨some 88, .op (.ld1 (.t 87)), some (82, true)⟩, []),
         (⟨some 89, .op (.toInt .u64 (.t 88)), some (82, true)⟩, []),
         (⟨some 84, .call (.c (.fn 16 [] [])) [(.t 83)], some (82, true)⟩, [14]),
         (⟨some 90, .op (.bin .eql (.t 84) (.t 89)), some (82, true)⟩, []),
         (⟨some 91, .pick (.t 82) (.t 90) (.c (.bool false)), none⟩, []),
         (⟨some 4, .op (.mv (.t 91)), none⟩, [])]) (
       .ret))))))
theorem cf23 : compF Try.prog Try.f23 h23 = some (ac23, rs23) := by kernel_rfl

/-! mailcoach/quorum.Check params 1 -/
def h24 : Hints := ⟨[(1, [2]), (0, [1])], [], []⟩
def rs24 : List ARes := [.t 2]
def ac24 : ACode :=
 .seq (
  .reg [1] [
    ⟨some 1, .op (.box (.t 0)), none⟩,
    ⟨some 2, .op (.mv (.c (.bool false))), none⟩]) (
  .seq (
   .reg [2] [
     ⟨some 3, .op (.fieldAddr 2 (.t 1)), none⟩,
     ⟨some 4, .op (.ld1 (.t 3)), none⟩,
     ⟨some 5, .op (.bin .leq (.c (.int .i64 1)) (.t 4)), none⟩,
     ⟨some 6, .op (.mv (.t 5)), none⟩,
     ⟨some 7, .op (.fieldAddr 2 (.t 1)), some (6, true)⟩,
     ⟨some 8, .op (.ld1 (.t 7)), some (6, true)⟩,
     ⟨some 9, .op (.fieldAddr 1 (.t 1)), some (6, true)⟩,
     ⟨some 10, .op (.ld1 (.t 9)), some (6, true)⟩,
     ⟨some 11, .op (.bin .leq (.t 8) (.t 10)), some (6, true)⟩,
     ⟨some 12, .pick (.t 6) (.t 11) (.c (.bool false)), none⟩,
     ⟨some 13, .op (.mv (.t 12)), none⟩,
     ⟨some 14, .op (.fieldAddr 1 (.t 1)), some (13, true)⟩,
     ⟨some 15, .op (.ld1 (.t 14)), some (13, true)⟩,
     ⟨some 16, .op (.fieldAddr 0 (.t 1)), some (13, true)⟩,
     ⟨some 17, .op (.ld1 (.t 16)), some (13, true)⟩,
     ⟨some 18, .op (.bin .leq (.t 15) (.t 17)), some (13, true)⟩,
     ⟨some 19, .pick (.t 13) (.t 18) (.c (.bool false)), none⟩,
     ⟨some 20, .op (.mv (.t 19)), none⟩,
     ⟨some 21, .op (.fieldAddr 0 (.t 1)), some (20, true)⟩,
     ⟨some 22, .op (.ld1 (.t 21)), some (20, true)⟩,
     ⟨some 23, .op (.bin .leq (.t 22) (.c (.int .i64 7))), some (20, true)⟩,
     ⟨some 24, .pick (.t 20) (.t 23) (.c (.bool false)), none⟩,
     ⟨some 2, .op (.mv (.t 24)), none⟩]) (
   .ret))
theorem cf24 : compF Try.prog Try.f24 h24 = some (ac24, rs24) := by kernel_rfl

/-! slices.Clone[[]byte,byte] params 1 -/
def h25 : Hints := ⟨[(3, [2]), (2, [2]), (1, [0, 4]), (0, [0])], [], []⟩
def rs25 : List ARes := [.t 2]
def ac25 : ACode :=
 .seq (
  .reg [0] [
    ⟨some 2, .op (.mv (.c (.nilsl))), none⟩]) (
  .seq (
   .seq (
    .reg [0, 4] [
      ⟨some 3, .op (.mv (.t 0)), none⟩,
      ⟨some 4, .op (.eqn 1 false (.t 3) (.c (.nilsl))), none⟩]) (
    .cond (.t 4) (
     .seq (
      .reg [2] [
        ⟨some 2, .op (.mv (.c (.nilsl))), none⟩]) (
      .ret)) (
     .skip))) (
   .seq (
    .reg [2] [
      ⟨some 5, .op (.buildSl 1 [.int .u8 0] 0 []), none⟩,
      ⟨some 6, .op (.mv (.t 0)), none⟩,
      ⟨some 7, .op (.append 1 1 (.t 5) (.t 6)), none⟩,
      ⟨some 2, .op (.mv (.t 7)), none⟩]) (
    .ret)))
theorem cf25 : compF Try.prog Try.f25 h25 = some (ac25, rs25) := by kernel_rfl

/-! slices.Contains[[]int,int] params 2 -/
def h26 : Hints := ⟨[(1, [4]), (0, [0, 1])], [], []⟩
def rs26 : List ARes := [.t 4]
def ac26 : ACode :=
 .seq (
  .reg [0, 1] [
    ⟨some 4, .op (.mv (.c (.bool false))), none⟩]) (
  .seq (
   .reg [4] [
     ⟨some 5, .op (.mv (.t 0)), none⟩,
     ⟨some 6, .op (.mv (.t 1)), none⟩,
     ⟨some 7, .call (.c (.fn 36 [] [])) [(.t 5), (.t 6)], none⟩,
     ⟨some 8, .op (.bin .geq (.t 7) (.c (.int .i64 0))), none⟩,
     ⟨some 4, .op (.mv (.t 8)), none⟩]) (
   .ret))
theorem cf26 : compF Try.prog Try.f26 h26 = some (ac26, rs26) := by kernel_rfl

/-! mailcoach/quorum.Set params 2 -/
def h27 : Hints := ⟨[(9, [4]), (8, [1, 2, 5, 11, 12]), (7, [1, 2, 5, 11, 12]), (6, [1, 2, 5, 6, 11, 12]), (5, [1, 2, 5, 11, 12, 13]), (4, [1, 2, 5, 11, 12]), (3, [1, 2, 5]), (2, [4]), (1, [1, 2, 9]), (0, [1, 2])], [(5, [1, 2, 5, 11, 12])], [(7, [(0, []), (1, []), (2, []), (3, []), (4, []), (5, []), (6, []), (7, []), (8, []), (9, []), (10, []), (11, []), (12, []), (13, []), (14, []), (15, []), (16, [])])]⟩
def rs27 : List ARes := [.t 4]
def ac27 : ACode :=
 .seq (
  .reg [1, 2] [
    ⟨some 2, .op (.box (.t 0)), none⟩,
    ⟨some 4, .op (.mv (.c (.nilsl))), none⟩]) (
  .seq (
   .seq (
    .reg [1, 2, 9] [
      ⟨some 7, .op (.ldn 3 (.t 2)), none⟩,
      ⟨some 8, .call (.c (.fn 24 [] [])) [(.t 7)], none⟩,
      ⟨some 9, .op (.un .not (.t 8)), none⟩]) (
    .cond (.t 9) (
     .seq (
      .reg [4] [
        ⟨some 4, .op (.mv (.c (.nilsl))), none⟩]) (
      .ret)) (
     .skip))) (
   .seq (
    .reg [1, 2, 5] [
      ⟨some 5, .op (.mv (.c (.nilsl))), none⟩]) (
    .seq (
     .seq (
      .reg [1, 2, 5, 11, 12] [
        ⟨some 10, .op (.fieldAddr 1 (.t 2)), none⟩,
        ⟨some 11, .op (.ld1 (.t 10)), none⟩,
        ⟨some 12, .op (.mv (.c (.int .i64 0))), none⟩]) (
      .block 0 (
       .loop [1, 2, 5, 11, 12] (
        .seq (
         .reg [1, 2, 5, 11, 12, 13] [
           ⟨some 13, .op (.bin .lss (.t 12) (.t 11)), none⟩]) (
         .seq (
          .cond (.t 13) (
           .skip) (
           .exit 0)) (
          .seq (
           .block 1 (
            .seq (
             .reg [1, 2, 5, 6, 11, 12] [
               ⟨some 14, .op (.mv (.t 12)), none⟩,
               ⟨some 6, .op (.mv (.t 14)), none⟩]) (
             .dreg [1, 2, 5, 11, 12] [
               (⟨some 15, .op (.mv (.t 5)), none⟩, []),
               (⟨some 16, .op (.mv (.t 1)), none⟩, []),
               (⟨some 17, .op (.fieldAddr 0 (.t 2)), none⟩, []),
               (⟨some 18, .op (.ld1 (.t 17)), none⟩, []),
               (⟨some 19, .op (.toInt .u64 (.t 18)), none⟩, []),
               (⟨some 20, .op (.bin .rem (.t 16) (.t 19)), none⟩, []),
               (⟨some 21, .op (.mv (.t 6)), none⟩, []),
               (⟨some 22, .op (.toInt .u64 (.t 21)), none⟩, []),
               (⟨some 23, .op (.bin .add (.t 20) (.t 22)), none⟩, []),
               (⟨some 24, .op (.fieldAddr 0 (.t 2)), none⟩, []),
               (⟨some 25, .op (.ld1 (.t 24)), none⟩, []),
               (⟨some 26, .op (.toInt .u64 (.t 25)), none⟩, []),
               (⟨some 27, .op (.bin .rem (.t 23) (.t 26)), none⟩, []),
               (⟨some 28, .op (.toInt .i64 (.t 27)), none⟩, []),
               (⟨some 29, .op (.buildSl 1 [.int .i64 0] 1 [(0, (.t 28))]), none⟩, []),
               (⟨some 30, .op (.append 1 8 (.t 15) (.t 29)), none⟩, []),
               (⟨some 5, .op (.mv (.t 30)), none⟩, [])]))) (
           .reg [1, 2, 5, 11, 12] [
             ⟨some 31, .op (.bin .add (.t 12) (.c (.int .i64 1))), none⟩,
             ⟨some 12, .op (.mv (.t 31)), none⟩]))))))) (
     .seq (
      .reg [4] [
        ⟨some 32, .op (.mv (.t 5)), none⟩,
        ⟨some 4, .op (.mv (.t 32)), none⟩]) (
      .ret)))))
theorem cf27 : compF Try.prog Try.f27 h27 = some (ac27, rs27) := by kernel_rfl

/-! mailcoach/quorum.Enough params 3 -/
def h28 : Hints := ⟨[(1, [6]), (0, [1, 2, 3])], [], [(1, [(0, []), (1, []), (2, []), (3, []), (4, []), (5, []), (7, []), (8, []), (6, [7]), (9, []), (10, []), (11, [])])]⟩
def rs28 : List ARes := [.t 6]
def ac28 : ACode :=
 .seq (
  .reg [1, 2, 3] [
    ⟨some 3, .op (.box (.t 0)), none⟩,
    ⟨some 6, .op (.mv (.c (.bool false))), none⟩]) (
  .seq (
   .dreg [6] [
     (⟨some 7, .op (.ldn 3 (.t 3)), none⟩, []),
     (⟨some 8, .call (.c (.fn 24 [] [])) [(.t 7)], none⟩, []),
     (⟨some 9, .op (.mv (.t 8)), none⟩, []),
     (⟨some 10, .op (.ldn 3 (.t 3)), some (9, true)⟩, []),
     (⟨some 11, .op (.mv (.t 1)), some (9, true)⟩, []),
     (⟨some 12, .op (.mv (.t 2)), some (9, true)⟩, []),
     (⟨some 14, .op (.fieldAddr 2 (.t 3)), some (9, true)⟩, []),
     (⟨some 15, .op (.ld1 (.t 14)), some (9, true)⟩, []),
     (⟨some 13, .call (.c (.fn 37 [] [])) [(.t 10), (.t 11), (.t 12)], some (9, true)⟩, [7]),
     (⟨some 16, .op (.bin .geq (.t 13) (.t 15)), some (9, true)⟩, []),
     (⟨some 17, .pick (.t 9) (.t 16) (.c (.bool false)), none⟩, []),
     (⟨some 6, .op (.mv (.t 17)), none⟩, [])]) (
   .ret))
theorem cf28 : compF Try.prog Try.f28 h28 = some (ac28, rs28) := by kernel_rfl

/-! mailcoach/mailcoachref10.Count params 3 -/
def h29 : Hints := ⟨[(7, [6]), (4, [1, 2, 3, 7, 8]), (6, [1, 2, 3, 7, 8]), (5, [1, 2, 3, 7, 8, 31]), (3, [1, 2, 3, 7, 8, 18]), (2, [1, 2, 3, 7, 8]), (1, [1, 2, 3, 7]), (0, [1, 2, 3])], [(3, [1, 2, 3, 7, 8])], []⟩
def rs29 : List ARes := [.t 6]
def ac29 : ACode :=
 .seq (
  .reg [1, 2, 3] [
    ⟨some 3, .op (.box (.t 0)), none⟩,
    ⟨some 6, .op (.mv (.c (.int .i64 0))), none⟩]) (
  .seq (
   .reg [1, 2, 3, 7] [
     ⟨some 7, .op (.mv (.c (.int .i64 0))), none⟩]) (
   .seq (
    .seq (
     .reg [1, 2, 3, 7, 8] [
       ⟨some 8, .op (.mv (.c (.int .i64 0))), none⟩]) (
     .block 0 (
      .loop [1, 2, 3, 7, 8] (
       .seq (
        .seq (
         .reg [1, 2, 3, 7, 8, 18] [
           ⟨some 9, .op (.mv (.t 8)), none⟩,
           ⟨some 10, .op (.fieldAddr 0 (.t 3)), none⟩,
           ⟨some 11, .op (.ld1 (.t 10)), none⟩,
           ⟨some 12, .op (.bin .lss (.t 9) (.t 11)), none⟩,
           ⟨some 13, .op (.mv (.t 12)), none⟩,
           ⟨some 14, .op (.mv (.t 8)), some (13, true)⟩,
           ⟨some 15, .op (.mv (.t 2)), some (13, true)⟩,
           ⟨some 16, .op (.len 1 (.t 15)), some (13, true)⟩,
           ⟨some 17, .op (.bin .lss (.t 14) (.t 16)), some (13, true)⟩,
           ⟨some 18, .pick (.t 13) (.t 17) (.c (.bool false)), none⟩]) (
         .cond (.t 18) (
          .skip) (
          .exit 0))) (
        .seq (
         .block 1 (
          .seq (
           .reg [1, 2, 3, 7, 8, 31] [
             ⟨some 21, .op (.mv (.t 2)), none⟩,
             ⟨some 22, .op (.mv (.t 8)), none⟩,
             ⟨some 23, .op (.idxAddr 1 (.t 21) (.t 22)), none⟩,
             ⟨some 24, .op (.ld1 (.t 23)), none⟩,
             ⟨some 25, .op (.mv (.t 24)), none⟩,
             ⟨some 26, .op (.ldn 3 (.t 3)), some (25, true)⟩,
             ⟨some 27, .op (.mv (.t 1)), some (25, true)⟩,
             ⟨some 28, .call (.c (.fn 14 [] [])) [(.t 26), (.t 27)], some (25, true)⟩,
             ⟨some 29, .op (.mv (.t 8)), some (25, true)⟩,
             ⟨some 30, .call (.c (.fn 13 [] [])) [(.t 28), (.t 29)], some (25, true)⟩,
             ⟨some 31, .pick (.t 25) (.t 30) (.c (.bool false)), none⟩]) (
           .cond (.t 31) (
            .reg [1, 2, 3, 7, 8] [
              ⟨some 32, .op (.mv (.t 7)), none⟩,
              ⟨some 33, .op (.bin .add (.t 32) (.c (.int .i64 1))), none⟩,
              ⟨some 7, .op (.mv (.t 33)), none⟩]) (
            .skip)))) (
         .reg [1, 2, 3, 7, 8] [
           ⟨some 19, .op (.mv (.t 8)), none⟩,
           ⟨some 20, .op (.bin .add (.t 19) (.c (.int .i64 1))), none⟩,
           ⟨some 8, .op (.mv (.t 20)), none⟩])))))) (
    .seq (
     .reg [6] [
       ⟨some 34, .op (.mv (.t 7)), none⟩,
       ⟨some 6, .op (.mv (.t 34)), none⟩]) (
     .ret))))
theorem cf29 : compF Try.prog Try.f29 h29 = some (ac29, rs29) := by kernel_rfl

/-! (*mailcoach/mailcoachref10.Writer).Add params 2 -/
def h30 : Hints := ⟨[(9, [4, 5]), (8, [0]), (7, [0]), (2, [4, 5]), (4, [4, 5]), (6, [4, 5]), (5, [0, 1, 15]), (3, [0, 1, 11]), (1, [0, 1, 6]), (0, [0, 1])], [], [(5, [(0, []), (1, []), (2, []), (3, []), (4, []), (5, []), (6, []), (7, []), (8, []), (9, []), (10, []), (11, [])]), (7, [(0, []), (1, []), (2, []), (3, []), (4, []), (5, []), (6, []), (7, [4]), (8, []), (9, []), (10, []), (11, []), (12, [])]), (8, [(0, []), (1, []), (2, []), (3, []), (4, []), (5, []), (6, []), (7, []), (8, []), (9, []), (10, []), (11, []), (12, []), (13, []), (14, []), (15, [])])]⟩
def rs30 : List ARes := [.t 4, .t 5]
def ac30 : ACode :=
 .seq (
  .reg [0, 1] [
    ⟨some 4, .op (.mv (.c (.int .u64 0))), none⟩,
    ⟨some 5, .op (.mv (.c (.int .i64 0))), none⟩]) (
  .seq (
   .block 0 (
    .seq (
     .reg [0, 1, 6] [
       ⟨some 7, .op (.mv (.t 0)), none⟩,
       ⟨some 8, .op (.nilCheck (.t 7)), none⟩,
       ⟨some 9, .op (.fieldAddr 6 (.t 8)), none⟩,
       ⟨some 10, .op (.ld1 (.t 9)), none⟩,
       ⟨some 6, .op (.mv (.t 10)), none⟩]) (
     .cond (.t 6) (
      .seq (
       .reg [4, 5] [
         ⟨some 4, .op (.mv (.c (.int .u64 0))), none⟩,
         ⟨some 5, .op (.mv (.c (.int .i64 24))), none⟩]) (
       .ret)) (
      .seq (
       .reg [0, 1, 11] [
         ⟨some 12, .op (.mv (.t 1)), none⟩,
         ⟨some 13, .op (.len 1 (.t 12)), none⟩,
         ⟨some 14, .op (.bin .gtr (.t 13) (.c (.int .i64 256))), none⟩,
         ⟨some 11, .op (.mv (.t 14)), none⟩]) (
       .cond (.t 11) (
        .seq (
         .reg [4, 5] [
           ⟨some 4, .op (.mv (.c (.int .u64 0))), none⟩,
           ⟨some 5, .op (.mv (.c (.int .i64 3))), none⟩]) (
         .ret)) (
        .seq (
         .dreg [0, 1, 15] [
           (⟨some 16, .op (.mv (.t 0)), none⟩, []),
           (⟨some 17, .op (.nilCheck (.t 16)), none⟩, []),
           (⟨some 18, .op (.fieldAddr 3 (.t 17)), none⟩, []),
           (⟨some 19, .op (.ld1 (.t 18)), none⟩, []),
           (⟨some 20, .op (.len 1 (.t 19)), none⟩, []),
           (⟨some 21, .op (.mv (.t 0)), none⟩, []),
           (⟨some 22, .op (.nilCheck (.t 21)), none⟩, []),
           (⟨some 23, .op (.fieldAddr 5 (.t 22)), none⟩, []),
           (⟨some 24, .op (.ld1 (.t 23)), none⟩, []),
           (⟨some 25, .op (.bin .sub (.t 20) (.t 24)), none⟩, []),
           (⟨some 26, .op (.bin .geq (.t 25) (.c (.int .i64 64))), none⟩, []),
           (⟨some 15, .op (.mv (.t 26)), none⟩, [])]) (
         .cond (.t 15) (
          .seq (
           .reg [4, 5] [
             ⟨some 4, .op (.mv (.c (.int .u64 0))), none⟩,
             ⟨some 5, .op (.mv (.c (.int .i64 14))), none⟩]) (
           .ret)) (
          .skip)))))))) (
   .seq (
    .dreg [0] [
      (⟨some 27, .op (.mv (.t 0)), none⟩, []),
      (⟨some 28, .op (.mv (.t 0)), none⟩, []),
      (⟨some 29, .op (.nilCheck (.t 28)), none⟩, []),
      (⟨some 30, .op (.fieldAddr 3 (.t 29)), none⟩, []),
      (⟨some 31, .op (.ld1 (.t 30)), none⟩, []),
      (⟨some 32, .op (.buildSl 1 [.int .u8 0] 0 []), none⟩, []),
      (⟨some 33, .op (.mv (.t 1)), none⟩, []),
      (⟨some 34, .op (.append 1 1 (.t 32) (.t 33)), none⟩, [4]),
      (⟨some 35, .op (.buildSl 1 [.nilsl] 1 [(0, (.t 34))]), none⟩, []),
      (⟨some 36, .op (.append 1 24 (.t 31) (.t 35)), none⟩, []),
      (⟨some 37, .op (.nilCheck (.t 27)), none⟩, []),
      (⟨some 38, .op (.fieldAddr 3 (.t 37)), none⟩, []),
      (⟨none, .op (.st 1 (.t 38) (.t 36)), none⟩, [])]) (
    .seq (
     .dreg [0] [
       (⟨some 39, .op (.mv (.t 0)), none⟩, []),
       (⟨some 40, .op (.mv (.t 0)), none⟩, []),
       (⟨some 41, .op (.nilCheck (.t 40)), none⟩, []),
       (⟨some 42, .op (.fieldAddr 4 (.t 41)), none⟩, []),
       (⟨some 43, .op (.ld1 (.t 42)), none⟩, []),
       (⟨some 44, .op (.mv (.t 0)), none⟩, []),
       (⟨some 45, .op (.nilCheck (.t 44)), none⟩, []),
       (⟨some 46, .op (.fieldAddr 0 (.t 45)), none⟩, []),
       (⟨some 47, .op (.fieldAddr 0 (.t 46)), none⟩, []),
       (⟨some 48, .op (.ld1 (.t 47)), none⟩, []),
       (⟨some 49, .op (.mkslice 1 1 [.bool false] (.t 48) (.t 48)), none⟩, []),
       (⟨some 50, .op (.buildSl 1 [.nilsl] 1 [(0, (.t 49))]), none⟩, []),
       (⟨some 51, .op (.append 1 24 (.t 43) (.t 50)), none⟩, []),
       (⟨some 52, .op (.nilCheck (.t 39)), none⟩, []),
       (⟨some 53, .op (.fieldAddr 4 (.t 52)), none⟩, []),
       (⟨none, .op (.st 1 (.t 53) (.t 51)), none⟩, [])]) (
     .seq (
      .reg [4, 5] [
        ⟨some 54, .op (.mv (.t 0)), none⟩,
        ⟨some 55, .op (.nilCheck (.t 54)), none⟩,
        ⟨some 56, .op (.fieldAddr 3 (.t 55)), none⟩,
        ⟨some 57, .op (.ld1 (.t 56)), none⟩,
        ⟨some 58, .op (.len 1 (.t 57)), none⟩,
        ⟨some 59, .op (.bin .sub (.t 58) (.c (.int .i64 1))), none⟩,
        ⟨some 60, .op (.toInt .u64 (.t 59)), none⟩,
        ⟨some 4, .op (.mv (.t 60)), none⟩,
        ⟨some 5, .op (.mv (.c (.int .i64 0))), none⟩]) (
      .ret)))))
theorem cf30 : compF Try.prog Try.f30 h30 = some (ac30, rs30) := by kernel_rfl

/-! (*mailcoach/mailcoachref10.Writer).Replace params 2 -/
def h31 : Hints := ⟨[(8, [4]), (4, [0, 1, 5, 6]), (7, [0, 1, 5, 6]), (6, [0, 1, 5, 6]), (5, [0, 1, 5, 6, 28]), (3, [0, 1, 5, 6, 17]), (2, [0, 1, 5, 6]), (1, [0, 1, 5]), (0, [0, 1])], [(3, [0, 1, 5, 6])], []⟩
def rs31 : List ARes := [.t 4]
def ac31 : ACode :=
 .seq (
  .reg [0, 1] [
    ⟨some 4, .op (.mv (.c (.nilsl))), none⟩]) (
  .seq (
   .reg [0, 1, 5] [
     ⟨some 5, .op (.mv (.c (.nilsl))), none⟩]) (
   .seq (
    .seq (
     .reg [0, 1, 5, 6] [
       ⟨some 7, .op (.mv (.t 0)), none⟩,
       ⟨some 8, .op (.nilCheck (.t 7)), none⟩,
       ⟨some 9, .op (.fieldAddr 5 (.t 8)), none⟩,
       ⟨some 10, .op (.ld1 (.t 9)), none⟩,
       ⟨some 6, .op (.mv (.t 10)), none⟩]) (
     .block 0 (
      .loop [0, 1, 5, 6] (
       .seq (
        .seq (
         .reg [0, 1, 5, 6, 17] [
           ⟨some 11, .op (.mv (.t 6)), none⟩,
           ⟨some 12, .op (.mv (.t 0)), none⟩,
           ⟨some 13, .op (.nilCheck (.t 12)), none⟩,
           ⟨some 14, .op (.fieldAddr 3 (.t 13)), none⟩,
           ⟨some 15, .op (.ld1 (.t 14)), none⟩,
           ⟨some 16, .op (.len 1 (.t 15)), none⟩,
           ⟨some 17, .op (.bin .lss (.t 11) (.t 16)), none⟩]) (
         .cond (.t 17) (
          .skip) (
          .exit 0))) (
        .seq (
         .block 1 (
          .seq (
           .reg [0, 1, 5, 6, 28] [
             ⟨some 20, .op (.mv (.t 0)), none⟩,
             ⟨some 21, .op (.nilCheck (.t 20)), none⟩,
             ⟨some 22, .op (.fieldAddr 0 (.t 21)), none⟩,
             ⟨some 23, .op (.ldn 3 (.t 22)), none⟩,
             ⟨some 24, .op (.mv (.t 6)), none⟩,
             ⟨some 25, .op (.toInt .u64 (.t 24)), none⟩,
             ⟨some 26, .call (.c (.fn 14 [] [])) [(.t 23), (.t 25)], none⟩,
             ⟨some 27, .op (.mv (.t 1)), none⟩,
             ⟨some 28, .call (.c (.fn 13 [] [])) [(.t 26), (.t 27)], none⟩]) (
           .cond (.t 28) (
            .seq (
             .reg [0, 1, 5, 6] [
               ⟨some 29, .op (.mv (.t 0)), none⟩,
               ⟨some 30, .op (.nilCheck (.t 29)), none⟩,
               ⟨some 31, .op (.fieldAddr 4 (.t 30)), none⟩,
               ⟨some 32, .op (.ld1 (.t 31)), none⟩,
               ⟨some 33, .op (.mv (.t 6)), none⟩,
               ⟨some 34, .op (.idxAddr 1 (.t 32) (.t 33)), none⟩,
               ⟨some 35, .op (.ld1 (.t 34)), none⟩,
               ⟨some 36, .op (.mv (.t 1)), none⟩,
               ⟨some 37, .op (.idxAddr 1 (.t 35) (.t 36)), none⟩,
               ⟨none, .op (.st 1 (.t 37) (.c (.bool false))), none⟩]) (
             .reg [0, 1, 5, 6] [
               ⟨some 38, .op (.mv (.t 5)), none⟩,
               ⟨some 39, .op (.mv (.t 6)), none⟩,
               ⟨some 40, .op (.toInt .u64 (.t 39)), none⟩,
               ⟨some 41, .op (.buildSl 1 [.int .u64 0] 1 [(0, (.t 40))]), none⟩,
               ⟨some 42, .op (.append 1 8 (.t 38) (.t 41)), none⟩,
               ⟨some 5, .op (.mv (.t 42)), none⟩])) (
            .skip)))) (
         .reg [0, 1, 5, 6] [
           ⟨some 18, .op (.mv (.t 6)), none⟩,
           ⟨some 19, .op (.bin .add (.t 18) (.c (.int .i64 1))), none⟩,
           ⟨some 6, .op (.mv (.t 19)), none⟩])))))) (
    .seq (
     .reg [4] [
       ⟨some 43, .op (.mv (.t 5)), none⟩,
       ⟨some 4, .op (.mv (.t 43)), none⟩]) (
     .ret))))
theorem cf31 : compF Try.prog Try.f31 h31 = some (ac31, rs31) := by kernel_rfl

/-! (*mailcoach/mailcoachref10.Writer).Close params 1 -/
def h32 : Hints := ⟨[(4, [2, 3]), (3, [0]), (2, [2, 3]), (1, [0, 13]), (0, [0])], [], [(1, [(0, []), (1, []), (2, []), (3, []), (4, []), (5, []), (6, []), (7, []), (8, []), (9, [])])]⟩
def rs32 : List ARes := [.t 2, .t 3]
def ac32 : ACode :=
 .seq (
  .reg [0] [
    ⟨some 2, .op (.mv (.c (.int .u64 0))), none⟩,
    ⟨some 3, .op (.mv (.c (.int .i64 0))), none⟩]) (
  .seq (
   .seq (
    .dreg [0, 13] [
      (⟨some 4, .op (.mv (.t 0)), none⟩, []),
      (⟨some 5, .op (.nilCheck (.t 4)), none⟩, []),
      (⟨some 6, .op (.fieldAddr 5 (.t 5)), none⟩, []),
      (⟨some 7, .op (.ld1 (.t 6)), none⟩, []),
      (⟨some 8, .op (.mv (.t 0)), none⟩, []),
      (⟨some 9, .op (.nilCheck (.t 8)), none⟩, []),
      (⟨some 10, .op (.fieldAddr 3 (.t 9)), none⟩, []),
      (⟨some 11, .op (.ld1 (.t 10)), none⟩, []),
      (⟨some 12, .op (.len 1 (.t 11)), none⟩, []),
      (⟨some 13, .op (.bin .lss (.t 7) (.t 12)), none⟩, [])]) (
    .cond (.t 13) (
     .seq (
      .reg [2, 3] [
        ⟨some 2, .op (.mv (.c (.int .u64 0))), none⟩,
        ⟨some 3, .op (.mv (.c (.int .i64 23))), none⟩]) (
      .ret)) (
     .skip))) (
   .seq (
    .reg [0] [
      ⟨some 14, .op (.mv (.t 0)), none⟩,
      ⟨some 15, .op (.nilCheck (.t 14)), none⟩,
      ⟨some 16, .op (.fieldAddr 6 (.t 15)), none⟩,
      ⟨none, .op (.st 1 (.t 16) (.c (.bool true))), none⟩]) (
    .seq (
     .reg [2, 3] [
       ⟨some 17, .op (.mv (.t 0)), none⟩,
       ⟨some 18, .op (.nilCheck (.t 17)), none⟩,
       ⟨some 19, .op (.fieldAddr 5 (.t 18)), none⟩,
       ⟨some 20, .op (.ld1 (.t 19)), none⟩,
       ⟨some 21, .op (.toInt .u64 (.t 20)), none⟩,
       ⟨some 2, .op (.mv (.t 21)), none⟩,
       ⟨some 3, .op (.mv (.c (.int .i64 0))), none⟩]) (
     .ret))))
theorem cf32 : compF Try.prog Try.f32 h32 = some (ac32, rs32) := by kernel_rfl

/-! mailcoach/mailcoachref06.SameItems params 2 -/
def h33 : Hints := ⟨[(8, [4]), (5, [0, 1, 5]), (7, [4]), (6, [0, 1, 5, 42]), (4, [0, 1, 5, 14]), (3, [0, 1, 5]), (2, [4]), (1, [0, 1, 10]), (0, [0, 1])], [(4, [0, 1, 5])], [(6, [(0, []), (1, []), (2, []), (3, []), (4, []), (5, []), (6, []), (7, []), (8, []), (9, []), (10, []), (11, []), (12, []), (13, []), (14, []), (15, []), (16, []), (17, []), (18, []), (19, []), (20, []), (21, []), (22, []), (23, []), (24, []), (25, [])])]⟩
def rs33 : List ARes := [.t 4]
def ac33 : ACode :=
 .seq (
  .reg [0, 1] [
    ⟨some 4, .op (.mv (.c (.bool false))), none⟩]) (
  .seq (
   .seq (
    .reg [0, 1, 10] [
      ⟨some 6, .op (.mv (.t 0)), none⟩,
      ⟨some 7, .op (.len 1 (.t 6)), none⟩,
      ⟨some 8, .op (.mv (.t 1)), none⟩,
      ⟨some 9, .op (.len 1 (.t 8)), none⟩,
      ⟨some 10, .op (.bin .neq (.t 7) (.t 9)), none⟩]) (
    .cond (.t 10) (
     .seq (
      .reg [4] [
        ⟨some 4, .op (.mv (.c (.bool false))), none⟩]) (
      .ret)) (
     .skip))) (
   .seq (
    .seq (
     .reg [0, 1, 5] [
       ⟨some 5, .op (.mv (.c (.int .i64 0))), none⟩]) (
     .block 0 (
      .loop [0, 1, 5] (
       .seq (
        .seq (
         .reg [0, 1, 5, 14] [
           ⟨some 11, .op (.mv (.t 5)), none⟩,
           ⟨some 12, .op (.mv (.t 0)), none⟩,
           ⟨some 13, .op (.len 1 (.t 12)), none⟩,
           ⟨some 14, .op (.bin .lss (.t 11) (.t 13)), none⟩]) (
         .cond (.t 14) (
          .skip) (
          .exit 0))) (
        .seq (
         .block 1 (
          .seq (
           .dreg [0, 1, 5, 42] [
             (⟨some 17, .op (.mv (.t 0)), none⟩, []),
             (⟨some 18, .op (.mv (.t 5)), none⟩, []),
             (⟨some 19, .op (.idxAddr 2 (.t 17) (.t 18)), none⟩, []),
             (⟨some 20, .op (.fieldAddr 0 (.t 19)), none⟩, []),
             (⟨some 21, .op (.ld1 (.t 20)), none⟩, []),
             (⟨some 22, .op (.mv (.t 1)), none⟩, []),
             (⟨some 23, .op (.mv (.t 5)), none⟩, []),
             (⟨some 24, .op (.idxAddr 2 (.t 22) (.t 23)), none⟩, []),
             (⟨some 25, .op (.fieldAddr 0 (.t 24)), none⟩, []),
             (⟨some 26, .op (.ld1 (.t 25)), none⟩, []),
             (⟨some 27, .op (.bin .neq (.t 21) (.t 26)), none⟩, []),
             (⟨some 28, .op (.mv (.t 27)), none⟩, []),
             (⟨some 29, .op (.mv (.t 0)), some (28, false)⟩, []),
             (⟨some 30, .op (.mv (.t 5)), some (28, false)⟩, []),
             (⟨some 31, .op (.idxAddr 2 (.t 29) (.t 30)), some (28, false)⟩, []),
             (⟨some 32, .op (.fieldAddr 1 (.t 31)), some (28, false)⟩, []),
             (⟨some 33, .op (.ld1 (.t 32)), some (28, false)⟩, []),
             (⟨some 34, .op (.bytesStr (.t 33)), some (28, false)⟩, []),
             (⟨some 35, .op (.mv (.t 1)), some (28, false)⟩, []),
             (⟨some 36, .op (.mv (.t 5)), some (28, false)⟩, []),
             (⟨some 37, .op (.idxAddr 2 (.t 35) (.t 36)), some (28, false)⟩, []),
             (⟨some 38, .op (.fieldAddr 1 (.t 37)), some (28, false)⟩, []),
             (⟨some 39, .op (.ld1 (.t 38)), some (28, false)⟩, []),
             (⟨some 40, .op (.bytesStr (.t 39)), some (28, false)⟩, []),
             (⟨some 41, .op (.bin .neq (.t 34) (.t 40)), some (28, false)⟩, []),
             (⟨some 42, .pick (.t 28) (.c (.bool true)) (.t 41), none⟩, [])]) (
           .cond (.t 42) (
            .seq (
             .reg [4] [
               ⟨some 4, .op (.mv (.c (.bool false))), none⟩]) (
             .ret)) (
            .skip)))) (
         .reg [0, 1, 5] [
           ⟨some 15, .op (.mv (.t 5)), none⟩,
           ⟨some 16, .op (.bin .add (.t 15) (.c (.int .i64 1))), none⟩,
           ⟨some 5, .op (.mv (.t 16)), none⟩])))))) (
    .seq (
     .reg [4] [
       ⟨some 4, .op (.mv (.c (.bool true))), none⟩]) (
     .ret))))
theorem cf33 : compF Try.prog Try.f33 h33 = some (ac33, rs33) := by kernel_rfl

/-! (*mailcoach/mailcoachref10.Writer).Ack params 3 -/
def h34 : Hints := ⟨[(8, [6]), (7, [0, 7]), (6, [0, 7]), (5, [0, 7, 76]), (4, [0, 7]), (3, [0]), (2, [6]), (1, [0, 1, 2, 35]), (0, [0, 1, 2])], [(5, [0, 7])], [(5, [(0, []), (1, []), (2, []), (3, []), (4, []), (5, []), (6, []), (7, []), (8, []), (9, []), (10, []), (11, []), (12, []), (13, []), (14, []), (15, []), (16, []), (17, []), (18, []), (19, []), (20, []), (21, []), (22, []), (23, []), (24, []), (25, []), (26, []), (27, []), (28, []), (29, []), (30, []), (31, [])]), (6, [(0, []), (1, []), (2, []), (3, []), (4, []), (5, []), (6, []), (7, []), (8, []), (9, []), (10, []), (11, []), (12, []), (13, []), (14, []), (15, []), (16, []), (17, []), (18, []), (19, [])])]⟩
def rs34 : List ARes := [.t 6]
def ac34 : ACode :=
 .seq (
  .reg [0, 1, 2] [
    ⟨some 6, .op (.mv (.c (.nilsl))), none⟩]) (
  .seq (
   .seq (
    .reg [0, 1, 2, 35] [
      ⟨some 8, .op (.mv (.t 2)), none⟩,
      ⟨some 9, .op (.mv (.t 0)), none⟩,
      ⟨some 10, .op (.nilCheck (.t 9)), none⟩,
      ⟨some 11, .op (.fieldAddr 5 (.t 10)), none⟩,
      ⟨some 12, .op (.ld1 (.t 11)), none⟩,
      ⟨some 13, .op (.toInt .u64 (.t 12)), none⟩,
      ⟨some 14, .op (.bin .lss (.t 8) (.t 13)), none⟩,
      ⟨some 15, .op (.mv (.t 14)), none⟩,
      ⟨some 16, .op (.mv (.t 2)), some (15, false)⟩,
      ⟨some 17, .op (.mv (.t 0)), some (15, false)⟩,
      ⟨some 18, .op (.nilCheck (.t 17)), some (15, false)⟩,
      ⟨some 19, .op (.fieldAddr 3 (.t 18)), some (15, false)⟩,
      ⟨some 20, .op (.ld1 (.t 19)), some (15, false)⟩,
      ⟨some 21, .op (.len 1 (.t 20)), some (15, false)⟩,
      ⟨some 22, .op (.toInt .u64 (.t 21)), some (15, false)⟩,
      ⟨some 23, .op (.bin .geq (.t 16) (.t 22)), some (15, false)⟩,
      ⟨some 24, .pick (.t 15) (.c (.bool true)) (.t 23), none⟩,
      ⟨some 25, .op (.mv (.t 24)), none⟩,
      ⟨some 26, .op (.mv (.t 0)), some (25, false)⟩,
      ⟨some 27, .op (.nilCheck (.t 26)), some (25, false)⟩,
      ⟨some 28, .op (.fieldAddr 0 (.t 27)), some (25, false)⟩,
      ⟨some 29, .op (.ldn 3 (.t 28)), some (25, false)⟩,
      ⟨some 30, .op (.mv (.t 2)), some (25, false)⟩,
      ⟨some 31, .call (.c (.fn 14 [] [])) [(.t 29), (.t 30)], some (25, false)⟩,
      ⟨some 32, .op (.mv (.t 1)), some (25, false)⟩,
      ⟨some 33, .call (.c (.fn 13 [] [])) [(.t 31), (.t 32)], some (25, false)⟩,
      ⟨some 34, .op (.un .not (.t 33)), some (25, false)⟩,
      ⟨some 35, .pick (.t 25) (.c (.bool true)) (.t 34), none⟩]) (
    .cond (.t 35) (
     .seq (
      .reg [6] [
        ⟨some 6, .op (.mv (.c (.nilsl))), none⟩]) (
      .ret)) (
     .skip))) (
   .seq (
    .reg [0] [
      ⟨some 36, .op (.mv (.t 0)), none⟩,
      ⟨some 37, .op (.nilCheck (.t 36)), none⟩,
      ⟨some 38, .op (.fieldAddr 4 (.t 37)), none⟩,
      ⟨some 39, .op (.ld1 (.t 38)), none⟩,
      ⟨some 40, .op (.mv (.t 2)), none⟩,
      ⟨some 41, .op (.idxAddr 1 (.t 39) (.t 40)), none⟩,
      ⟨some 42, .op (.ld1 (.t 41)), none⟩,
      ⟨some 43, .op (.mv (.t 1)), none⟩,
      ⟨some 44, .op (.idxAddr 1 (.t 42) (.t 43)), none⟩,
      ⟨none, .op (.st 1 (.t 44) (.c (.bool true))), none⟩]) (
    .seq (
     .reg [0, 7] [
       ⟨some 7, .op (.mv (.c (.nilsl))), none⟩]) (
     .seq (
      .block 0 (
       .loop [0, 7] (
        .seq (
         .seq (
          .dreg [0, 7, 76] [
            (⟨some 45, .op (.mv (.t 0)), none⟩, []),
            (⟨some 46, .op (.nilCheck (.t 45)), none⟩, []),
            (⟨some 47, .op (.fieldAddr 5 (.t 46)), none⟩, []),
            (⟨some 48, .op (.ld1 (.t 47)), none⟩, []),
            (⟨some 49, .op (.mv (.t 0)), none⟩, []),
            (⟨some 50, .op (.nilCheck (.t 49)), none⟩, []),
            (⟨some 51, .op (.fieldAddr 3 (.t 50)), none⟩, []),
            (⟨some 52, .op (.ld1 (.t 51)), none⟩, []),
            (⟨some 53, .op (.len 1 (.t 52)), none⟩, []),
            (⟨some 54, .op (.bin .lss (.t 48) (.t 53)), none⟩, []),
            (⟨some 55, .op (.mv (.t 54)), none⟩, []),
            (⟨some 56, .op (.mv (.t 0)), some (55, true)⟩, []),
            (⟨some 57, .op (.nilCheck (.t 56)), some (55, true)⟩, []),
            (⟨some 58, .op (.fieldAddr 0 (.t 57)), some (55, true)⟩, []),
            (⟨some 59, .op (.ldn 3 (.t 58)), some (55, true)⟩, []),
            (⟨some 60, .op (.mv (.t 0)), some (55, true)⟩, []),
            (⟨some 61, .op (.nilCheck (.t 60)), some (55, true)⟩, []),
            (⟨some 62, .op (.fieldAddr 5 (.t 61)), some (55, true)⟩, []),
            (⟨some 63, .op (.ld1 (.t 62)), some (55, true)⟩, []),
            (⟨some 64, .op (.toInt .u64 (.t 63)), some (55, true)⟩, []),
            (⟨some 65, .op (.mv (.t 0)), some (55, true)⟩, []),
            (⟨some 66, .op (.nilCheck (.t 65)), some (55, true)⟩, []),
            (⟨some 67, .op (.fieldAddr 4 (.t 66)), some (55, true)⟩, []),
            (⟨some 68, .op (.ld1 (.t 67)), some (55, true)⟩, []),
            (⟨some 69, .op (.mv (.t 0)), some (55, true)⟩, []),
            (⟨some 70, .op (.nilCheck (.t 69)), some (55, true)⟩, []),
            (⟨some 71, .op (.fieldAddr 5 (.t 70)), some (55, true)⟩, []),
            (⟨some 72, .op (.ld1 (.t 71)), some (55, true)⟩, []),
            (⟨some 73, .op (.idxAddr 1 (.t 68) (.t 72)), some (55, true)⟩, []),
            (⟨some 74, .op (.ld1 (.t 73)), some (55, true)⟩, []),
            (⟨some 75, .call (.c (.fn 15 [] [])) [(.t 59), (.t 64), (.t 74)], some (55, true)⟩, []),
            (⟨some 76, .pick (.t 55) (.t 75) (.c (.bool false)), none⟩, [])]) (
          .cond (.t 76) (
           .skip) (
           .exit 0))) (
         .block 1 (
          .seq (
           .dreg [0, 7] [
             (⟨some 77, .op (.mv (.t 7)), none⟩, []),
             (⟨some 78, .op (.mv (.t 0)), none⟩, []),
             (⟨some 79, .op (.nilCheck (.t 78)), none⟩, []),
             (⟨some 80, .op (.fieldAddr 5 (.t 79)), none⟩, []),
             (⟨some 81, .op (.ld1 (.t 80)), none⟩, []),
             (⟨some 82, .op (.toInt .u64 (.t 81)), none⟩, []),
             (⟨some 83, .op (.mv (.t 0)), none⟩, []),
             (⟨some 84, .op (.nilCheck (.t 83)), none⟩, []),
             (⟨some 85, .op (.fieldAddr 3 (.t 84)), none⟩, []),
             (⟨some 86, .op (.ld1 (.t 85)), none⟩, []),
             (⟨some 87, .op (.mv (.t 0)), none⟩, []),
             (⟨some 88, .op (.nilCheck (.t 87)), none⟩, []),
             (⟨some 89, .op (.fieldAddr 5 (.t 88)), none⟩, []),
             (⟨some 90, .op (.ld1 (.t 89)), none⟩, []),
             (⟨some 91, .op (.idxAddr 1 (.t 86) (.t 90)), none⟩, []),
             (⟨some 92, .op (.ld1 (.t 91)), none⟩, []),
             (⟨some 93, .op (.build [.int .u64 0, .nilsl] [(0, 1, (.t 82)), (1, 1, (.t 92))]), none⟩, []),
             (⟨some 94, .op (.buildSl 2 [.int .u64 0, .nilsl] 1 [(0, (.t 93))]), none⟩, []),
             (⟨some 95, .op (.append 2 32 (.t 77) (.t 94)), none⟩, []),
             (⟨some 7, .op (.mv (.t 95)), none⟩, [])]) (
           .reg [0, 7] [
             ⟨some 96, .op (.mv (.t 0)), none⟩,
             ⟨some 97, .op (.mv (.t 0)), none⟩,
             ⟨some 98, .op (.nilCheck (.t 97)), none⟩,
             ⟨some 99, .op (.fieldAddr 5 (.t 98)), none⟩,
             ⟨some 100, .op (.ld1 (.t 99)), none⟩,
             ⟨some 101, .op (.bin .add (.t 100) (.c (.int .i64 1))), none⟩,
             ⟨some 102, .op (.nilCheck (.t 96)), none⟩,
             ⟨some 103, .op (.fieldAddr 5 (.t 102)), none⟩,
             ⟨none, .op (.st 1 (.t 103) (.t 101)), none⟩])))))) (
      .seq (
       .reg [6] [
         ⟨some 104, .op (.mv (.t 7)), none⟩,
         ⟨some 6, .op (.mv (.t 104)), none⟩]) (
       .ret))))))
theorem cf34 : compF Try.prog Try.f34 h34 = some (ac34, rs34) := by kernel_rfl

/-! (*mailcoach/mailcoachref10.Writer).Waiting params 1 -/
def h35 : Hints := ⟨[(15, [2, 3]), (5, [0, 4, 5, 6]), (14, [0, 4, 5, 6]), (11, [0, 4, 5, 6, 7, 8, 9]), (13, [0, 4, 5, 6, 7, 8, 9]), (12, [0, 4, 5, 6, 7, 8, 9, 62]), (10, [0, 4, 5, 6, 7, 8, 9, 46]), (9, [0, 4, 5, 6, 7, 8, 9]), (8, [0, 4, 5, 6, 7, 8]), (7, [0, 4, 5, 6, 7]), (6, [0, 4, 5, 6]), (4, [0, 4, 5, 6, 20]), (3, [0, 4, 5, 6]), (2, [0, 4, 5]), (1, [0, 4]), (0, [0])], [(10, [0, 4, 5, 6, 7, 8, 9]), (4, [0, 4, 5, 6])], [(12, [(0, []), (1, []), (2, []), (3, []), (4, []), (5, []), (6, []), (7, []), (8, []), (9, []), (10, []), (11, []), (12, []), (13, [])])]⟩
def rs35 : List ARes := [.t 2, .t 3]
def ac35 : ACode :=
 .seq (
  .reg [0] [
    ⟨some 2, .op (.mv (.c (.nilsl))), none⟩,
    ⟨some 3, .op (.mv (.c (.nilsl))), none⟩]) (
  .seq (
   .reg [0, 4] [
     ⟨some 4, .op (.mv (.c (.nilsl))), none⟩]) (
   .seq (
    .reg [0, 4, 5] [
      ⟨some 5, .op (.mv (.c (.nilsl))), none⟩]) (
    .seq (
     .seq (
      .reg [0, 4, 5, 6] [
        ⟨some 10, .op (.mv (.t 0)), none⟩,
        ⟨some 11, .op (.nilCheck (.t 10)), none⟩,
        ⟨some 12, .op (.fieldAddr 5 (.t 11)), none⟩,
        ⟨some 13, .op (.ld1 (.t 12)), none⟩,
        ⟨some 6, .op (.mv (.t 13)), none⟩]) (
      .block 0 (
       .loop [0, 4, 5, 6] (
        .seq (
         .seq (
          .reg [0, 4, 5, 6, 20] [
            ⟨some 14, .op (.mv (.t 6)), none⟩,
            ⟨some 15, .op (.mv (.t 0)), none⟩,
            ⟨some 16, .op (.nilCheck (.t 15)), none⟩,
            ⟨some 17, .op (.fieldAddr 3 (.t 16)), none⟩,
            ⟨some 18, .op (.ld1 (.t 17)), none⟩,
            ⟨some 19, .op (.len 1 (.t 18)), none⟩,
            ⟨some 20, .op (.bin .lss (.t 14) (.t 19)), none⟩]) (
          .cond (.t 20) (
           .skip) (
           .exit 0))) (
         .seq (
          .block 1 (
           .seq (
            .reg [0, 4, 5, 6] [
              ⟨some 23, .op (.mv (.t 4)), none⟩,
              ⟨some 24, .op (.mv (.t 6)), none⟩,
              ⟨some 25, .op (.toInt .u64 (.t 24)), none⟩,
              ⟨some 26, .op (.mv (.t 0)), none⟩,
              ⟨some 27, .op (.nilCheck (.t 26)), none⟩,
              ⟨some 28, .op (.fieldAddr 3 (.t 27)), none⟩,
              ⟨some 29, .op (.ld1 (.t 28)), none⟩,
              ⟨some 30, .op (.mv (.t 6)), none⟩,
              ⟨some 31, .op (.idxAddr 1 (.t 29) (.t 30)), none⟩,
              ⟨some 32, .op (.ld1 (.t 31)), none⟩,
              ⟨some 33, .op (.build [.int .u64 0, .nilsl] [(0, 1, (.t 25)), (1, 1, (.t 32))]), none⟩,
              ⟨some 34, .op (.buildSl 2 [.int .u64 0, .nilsl] 1 [(0, (.t 33))]), none⟩,
              ⟨some 35, .op (.append 2 32 (.t 23) (.t 34)), none⟩,
              ⟨some 4, .op (.mv (.t 35)), none⟩]) (
            .seq (
             .reg [0, 4, 5, 6, 7] [
               ⟨some 7, .op (.mv (.c (.nilsl))), none⟩]) (
             .seq (
              .reg [0, 4, 5, 6, 7, 8] [
                ⟨some 36, .op (.mv (.t 0)), none⟩,
                ⟨some 37, .op (.nilCheck (.t 36)), none⟩,
                ⟨some 38, .op (.fieldAddr 0 (.t 37)), none⟩,
                ⟨some 39, .op (.ldn 3 (.t 38)), none⟩,
                ⟨some 40, .op (.mv (.t 6)), none⟩,
                ⟨some 41, .op (.toInt .u64 (.t 40)), none⟩,
                ⟨some 42, .call (.c (.fn 14 [] [])) [(.t 39), (.t 41)], none⟩,
                ⟨some 8, .op (.mv (.t 42)), none⟩]) (
              .seq (
               .seq (
                .reg [0, 4, 5, 6, 7, 8, 9] [
                  ⟨some 9, .op (.mv (.c (.int .i64 0))), none⟩]) (
                .block 2 (
                 .loop [0, 4, 5, 6, 7, 8, 9] (
                  .seq (
                   .seq (
                    .reg [0, 4, 5, 6, 7, 8, 9, 46] [
                      ⟨some 43, .op (.mv (.t 9)), none⟩,
                      ⟨some 44, .op (.mv (.t 8)), none⟩,
                      ⟨some 45, .op (.len 1 (.t 44)), none⟩,
                      ⟨some 46, .op (.bin .lss (.t 43) (.t 45)), none⟩]) (
                    .cond (.t 46) (
                     .skip) (
                     .exit 2))) (
                   .seq (
                    .block 3 (
                     .seq (
                      .dreg [0, 4, 5, 6, 7, 8, 9, 62] [
                        (⟨some 49, .op (.mv (.t 0)), none⟩, []),
                        (⟨some 50, .op (.nilCheck (.t 49)), none⟩, []),
                        (⟨some 51, .op (.fieldAddr 4 (.t 50)), none⟩, []),
                        (⟨some 52, .op (.ld1 (.t 51)), none⟩, []),
                        (⟨some 53, .op (.mv (.t 6)), none⟩, []),
                        (⟨some 54, .op (.idxAddr 1 (.t 52) (.t 53)), none⟩, []),
                        (⟨some 55, .op (.ld1 (.t 54)), none⟩, []),
                        (⟨some 56, .op (.mv (.t 8)), none⟩, []),
                        (⟨some 57, .op (.mv (.t 9)), none⟩, []),
                        (⟨some 58, .op (.idxAddr 1 (.t 56) (.t 57)), none⟩, []),
                        (⟨some 59, .op (.ld1 (.t 58)), none⟩, []),
                        (⟨some 60, .op (.idxAddr 1 (.t 55) (.t 59)), none⟩, []),
                        (⟨some 61, .op (.ld1 (.t 60)), none⟩, []),
                        (⟨some 62, .op (.un .not (.t 61)), none⟩, [])]) (
                      .cond (.t 62) (
                       .reg [0, 4, 5, 6, 7, 8, 9] [
                         ⟨some 63, .op (.mv (.t 7)), none⟩,
                         ⟨some 64, .op (.mv (.t 8)), none⟩,
                         ⟨some 65, .op (.mv (.t 9)), none⟩,
                         ⟨some 66, .op (.idxAddr 1 (.t 64) (.t 65)), none⟩,
                         ⟨some 67, .op (.ld1 (.t 66)), none⟩,
                         ⟨some 68, .op (.buildSl 1 [.int .i64 0] 1 [(0, (.t 67))]), none⟩,
                         ⟨some 69, .op (.append 1 8 (.t 63) (.t 68)), none⟩,
                         ⟨some 7, .op (.mv (.t 69)), none⟩]) (
                       .skip)))) (
                    .reg [0, 4, 5, 6, 7, 8, 9] [
                      ⟨some 47, .op (.mv (.t 9)), none⟩,
                      ⟨some 48, .op (.bin .add (.t 47) (.c (.int .i64 1))), none⟩,
                      ⟨some 9, .op (.mv (.t 48)), none⟩])))))) (
               .reg [0, 4, 5, 6] [
                 ⟨some 70, .op (.mv (.t 5)), none⟩,
                 ⟨some 71, .op (.mv (.t 7)), none⟩,
                 ⟨some 72, .op (.buildSl 1 [.nilsl] 1 [(0, (.t 71))]), none⟩,
                 ⟨some 73, .op (.append 1 24 (.t 70) (.t 72)), none⟩,
                 ⟨some 5, .op (.mv (.t 73)), none⟩])))))) (
          .reg [0, 4, 5, 6] [
            ⟨some 21, .op (.mv (.t 6)), none⟩,
            ⟨some 22, .op (.bin .add (.t 21) (.c (.int .i64 1))), none⟩,
            ⟨some 6, .op (.mv (.t 22)), none⟩])))))) (
     .seq (
      .reg [2, 3] [
        ⟨some 74, .op (.mv (.t 4)), none⟩,
        ⟨some 75, .op (.mv (.t 5)), none⟩,
        ⟨some 2, .op (.mv (.t 74)), none⟩,
        ⟨some 3, .op (.mv (.t 75)), none⟩]) (
      .ret)))))
theorem cf35 : compF Try.prog Try.f35 h35 = some (ac35, rs35) := by kernel_rfl

/-! slices.Index[[]int,int] params 2 -/
def h36 : Hints := ⟨[(7, [4]), (6, [0, 1, 7, 8]), (5, [4]), (4, [0, 1, 5, 7, 8, 16]), (3, [0, 1, 5, 7, 8]), (2, [0, 1, 7, 8, 9]), (1, [0, 1, 7, 8]), (0, [0, 1])], [(2, [0, 1, 7, 8])], []⟩
def rs36 : List ARes := [.t 4]
def ac36 : ACode :=
 .seq (
  .reg [0, 1] [
    ⟨some 4, .op (.mv (.c (.int .i64 0))), none⟩]) (
  .seq (
   .seq (
    .reg [0, 1, 7, 8] [
      ⟨some 6, .op (.mv (.t 0)), none⟩,
      ⟨some 7, .op (.len 1 (.t 6)), none⟩,
      ⟨some 8, .op (.mv (.c (.int .i64 0))), none⟩]) (
    .block 0 (
     .loop [0, 1, 7, 8] (
      .seq (
       .reg [0, 1, 7, 8, 9] [
         ⟨some 9, .op (.bin .lss (.t 8) (.t 7)), none⟩]) (
       .seq (
        .cond (.t 9) (
         .skip) (
         .exit 0)) (
        .seq (
         .block 1 (
          .seq (
           .reg [0, 1, 5, 7, 8] [
             ⟨some 10, .op (.mv (.t 8)), none⟩,
             ⟨some 5, .op (.mv (.t 10)), none⟩]) (
           .seq (
            .reg [0, 1, 5, 7, 8, 16] [
              ⟨some 11, .op (.mv (.t 1)), none⟩,
              ⟨some 12, .op (.mv (.t 0)), none⟩,
              ⟨some 13, .op (.mv (.t 5)), none⟩,
              ⟨some 14, .op (.idxAddr 1 (.t 12) (.t 13)), none⟩,
              ⟨some 15, .op (.ld1 (.t 14)), none⟩,
              ⟨some 16, .op (.bin .eql (.t 11) (.t 15)), none⟩]) (
            .cond (.t 16) (
             .seq (
              .reg [4] [
                ⟨some 17, .op (.mv (.t 5)), none⟩,
                ⟨some 4, .op (.mv (.t 17)), none⟩]) (
              .ret)) (
             .skip))))) (
         .reg [0, 1, 7, 8] [
           ⟨some 18, .op (.bin .add (.t 8) (.c (.int .i64 1))), none⟩,
           ⟨some 8, .op (.mv (.t 18)), none⟩]))))))) (
   .seq (
    .reg [4] [
      ⟨some 4, .op (.mv (.c (.int .i64 (-1)))), none⟩]) (
    .ret)))
theorem cf36 : compF Try.prog Try.f36 h36 = some (ac36, rs36) := by kernel_rfl

/-! mailcoach/quorum.count params 3 -/
def h37 : Hints := ⟨[(8, [6]), (7, [2, 7, 12, 13, 14]), (6, [2, 7, 12, 13, 14]), (5, [2, 7, 12, 13, 14, 27]), (4, [2, 7, 9, 12, 13, 14]), (3, [2, 7, 12, 13, 14, 15]), (2, [2, 7, 12, 13, 14]), (1, [1, 2, 3, 7]), (0, [1, 2, 3])], [(3, [2, 7, 12, 13, 14])], []⟩
def rs37 : List ARes := [.t 6]
def ac37 : ACode :=
 .seq (
  .reg [1, 2, 3] [
    ⟨some 3, .op (.box (.t 0)), none⟩,
    ⟨some 6, .op (.mv (.c (.int .i64 0))), none⟩]) (
  .seq (
   .reg [1, 2, 3, 7] [
     ⟨some 7, .op (.mv (.c (.int .i64 0))), none⟩]) (
   .seq (
    .seq (
     .reg [2, 7, 12, 13, 14] [
       ⟨some 10, .op (.ldn 3 (.t 3)), none⟩,
       ⟨some 11, .op (.mv (.t 1)), none⟩,
       ⟨some 12, .call (.c (.fn 27 [] [])) [(.t 10), (.t 11)], none⟩,
       ⟨some 13, .op (.len 1 (.t 12)), none⟩,
       ⟨some 14, .op (.mv (.c (.int .i64 0))), none⟩]) (
     .block 0 (
      .loop [2, 7, 12, 13, 14] (
       .seq (
        .reg [2, 7, 12, 13, 14, 15] [
          ⟨some 15, .op (.bin .lss (.t 14) (.t 13)), none⟩]) (
        .seq (
         .cond (.t 15) (
          .skip) (
          .exit 0)) (
         .seq (
          .block 1 (
           .seq (
            .reg [2, 7, 9, 12, 13, 14] [
              ⟨some 16, .op (.idxAddr 1 (.t 12) (.t 14)), none⟩,
              ⟨some 17, .op (.ld1 (.t 16)), none⟩,
              ⟨some 9, .op (.mv (.t 17)), none⟩]) (
            .seq (
             .reg [2, 7, 12, 13, 14, 27] [
               ⟨some 18, .op (.mv (.t 9)), none⟩,
               ⟨some 19, .op (.mv (.t 2)), none⟩,
               ⟨some 20, .op (.len 1 (.t 19)), none⟩,
               ⟨some 21, .op (.bin .lss (.t 18) (.t 20)), none⟩,
               ⟨some 22, .op (.mv (.t 21)), none⟩,
               ⟨some 23, .op (.mv (.t 2)), some (22, true)⟩,
               ⟨some 24, .op (.mv (.t 9)), some (22, true)⟩,
               ⟨some 25, .op (.idxAddr 1 (.t 23) (.t 24)), some (22, true)⟩,
               ⟨some 26, .op (.ld1 (.t 25)), some (22, true)⟩,
               ⟨some 27, .pick (.t 22) (.t 26) (.c (.bool false)), none⟩]) (
             .cond (.t 27) (
              .reg [2, 7, 12, 13, 14] [
                ⟨some 28, .op (.mv (.t 7)), none⟩,
                ⟨some 29, .op (.bin .add (.t 28) (.c (.int .i64 1))), none⟩,
                ⟨some 7, .op (.mv (.t 29)), none⟩]) (
              .skip))))) (
          .reg [2, 7, 12, 13, 14] [
            ⟨some 30, .op (.bin .add (.t 14) (.c (.int .i64 1))), none⟩,
            ⟨some 14, .op (.mv (.t 30)), none⟩]))))))) (
    .seq (
     .reg [6] [
       ⟨some 31, .op (.mv (.t 7)), none⟩,
       ⟨some 6, .op (.mv (.t 31)), none⟩]) (
     .ret))))
theorem cf37 : compF Try.prog Try.f37 h37 = some (ac37, rs37) := by kernel_rfl


end Go.Proofs.Ytkfofdeceicfkaa.AM
