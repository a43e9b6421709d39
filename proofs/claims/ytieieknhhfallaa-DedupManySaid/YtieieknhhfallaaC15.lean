/- The code of chapter 15, told as the abstract machine's. -/
import Derived.Test.YtieieknhhfallaaAm2
import Derived.Test.YtieieknhhfallaaProg
import Derived.KernelRfl
namespace Go.Proofs.Ytieieknhhfallaa.AM
set_option maxRecDepth 100000
set_option maxHeartbeats 4000000
theorem hmx : Try.prog.follows .mixedOrders = true := by kernel_rfl

/-! gosem.cut.init params 0 -/
def h2 : Hints := ⟨[(0, [])], [], []⟩
def rs2 : List ARes := []
def ac2 : ACode :=
 .reg [] [
   ⟨some 0, .call (.c (.fn 1 [] [])) [], none⟩]
theorem cf2 : compF Try.prog Try.f2 h2 = some (ac2, rs2) := by kernel_rfl

/-! mailcoach/mailcoachlaw15.DedupMany params 2 -/
def h3 : Hints := ⟨[(19, [4]), (18, [0, 6, 9, 10]), (17, [0, 1, 5, 6, 9]), (16, [0, 1, 5, 6, 9]), (15, [0, 1, 5, 6, 22]), (14, [0, 1, 5, 6, 22]), (13, [0, 1, 5, 6, 8, 22, 38]), (12, [4]), (11, [0, 1, 5, 6, 7, 8, 22, 33]), (10, [0, 1, 5, 6, 7, 8, 22]), (9, [0, 1, 5, 6, 7, 22]), (8, [0, 1, 5, 6, 22, 23]), (7, [0, 1, 5, 6, 22]), (6, [0, 1, 5, 6]), (5, [0, 1, 5]), (4, [4]), (3, [0, 1, 20]), (2, [4]), (1, [0, 1, 12]), (0, [0, 1])], [(8, [0, 1, 5, 6, 22])], []⟩
def rs3 : List ARes := [.t 4]
def ac3 : ACode :=
 .seq (
  .reg [0, 1] [
    ⟨some 4, .op (.mv (.c (.bool false))), none⟩]) (
  .seq (
   .seq (
    .reg [0, 1, 12] [
      ⟨some 11, .call (.c (.fn 6 [] [])) [], none⟩,
      ⟨some 12, .op (.un .not (.t 11)), none⟩]) (
    .cond (.t 12) (
     .seq (
      .reg [4] [
        ⟨some 4, .op (.mv (.c (.bool false))), none⟩]) (
      .ret)) (
     .skip))) (
   .seq (
    .seq (
     .reg [0, 1, 20] [
       ⟨some 13, .op (.mv (.t 1)), none⟩,
       ⟨some 14, .op (.len 9 (.t 13)), none⟩,
       ⟨some 15, .op (.bin .lss (.t 14) (.c (.int .i64 2))), none⟩,
       ⟨some 16, .op (.mv (.t 15)), none⟩,
       ⟨some 17, .op (.mv (.t 1)), some (16, false)⟩,
       ⟨some 18, .op (.len 9 (.t 17)), some (16, false)⟩,
       ⟨some 19, .op (.bin .gtr (.t 18) (.c (.int .i64 64))), some (16, false)⟩,
       ⟨some 20, .pick (.t 16) (.c (.bool true)) (.t 19), none⟩]) (
     .cond (.t 20) (
      .seq (
       .reg [4] [
         ⟨some 4, .op (.mv (.c (.bool true))), none⟩]) (
       .ret)) (
      .skip))) (
    .seq (
     .reg [0, 1, 5] [
       ⟨some 21, .call (.c (.fn 7 [] [])) [], none⟩,
       ⟨some 5, .op (.mv (.t 21)), none⟩]) (
     .seq (
      .reg [0, 1, 5, 6] [
        ⟨some 6, .op (.mv (.c (.bool true))), none⟩]) (
      .seq (
       .seq (
        .reg [0, 1, 5, 6, 22] [
          ⟨some 22, .op (.mv (.c (.int .i64 0))), none⟩]) (
        .block 0 (
         .loop [0, 1, 5, 6, 22] (
          .seq (
           .reg [0, 1, 5, 6, 22, 23] [
             ⟨some 23, .op (.bin .lss (.t 22) (.c (.int .i64 16))), none⟩]) (
           .seq (
            .cond (.t 23) (
             .skip) (
             .exit 0)) (
            .seq (
             .block 1 (
              .seq (
               .reg [0, 1, 5, 6, 7, 22] [
                 ⟨some 24, .op (.mv (.t 22)), none⟩,
                 ⟨some 7, .op (.mv (.t 24)), none⟩]) (
               .seq (
                .reg [0, 1, 5, 6, 7, 8, 22] [
                  ⟨some 25, .op (.mv (.t 7)), none⟩,
                  ⟨some 26, .op (.bin .add (.c (.int .i64 97)) (.t 25)), none⟩,
                  ⟨some 27, .op (.toInt .u8 (.t 26)), none⟩,
                  ⟨some 28, .op (.buildSl 1 [.int .u8 0] 1 [(0, (.t 27))]), none⟩,
                  ⟨some 29, .op (.bytesStr (.t 28)), none⟩,
                  ⟨some 8, .op (.mv (.t 29)), none⟩]) (
                .seq (
                 .seq (
                  .reg [0, 1, 5, 6, 7, 8, 22, 33] [
                    ⟨some 30, .op (.mv (.t 5)), none⟩,
                    ⟨some 31, .op (.mv (.t 8)), none⟩,
                    ⟨some 32, .call (.c (.fn 8 [] [])) [(.t 30), (.t 31), (.c (.int .u64 1))], none⟩,
                    ⟨some 33, .op (.bin .neq (.t 32) (.c (.int .i64 0))), none⟩]) (
                  .cond (.t 33) (
                   .seq (
                    .reg [4] [
                      ⟨some 4, .op (.mv (.c (.bool false))), none⟩]) (
                    .ret)) (
                   .skip))) (
                 .seq (
                  .reg [0, 1, 5, 6, 8, 22, 38] [
                    ⟨some 34, .op (.mv (.t 0)), none⟩,
                    ⟨some 35, .op (.mv (.t 7)), none⟩,
                    ⟨some 36, .op (.bin .shr (.t 34) (.t 35)), none⟩,
                    ⟨some 37, .op (.bin .and (.t 36) (.c (.int .u16 1))), none⟩,
                    ⟨some 38, .op (.bin .eql (.t 37) (.c (.int .u16 1))), none⟩]) (
                  .cond (.t 38) (
                   .reg [0, 1, 5, 6, 22] [
                     ⟨some 39, .op (.mv (.t 6)), none⟩,
                     ⟨some 40, .op (.mv (.t 39)), none⟩,
                     ⟨some 41, .op (.mv (.t 5)), some (40, true)⟩,
                     ⟨some 42, .op (.mv (.t 8)), some (40, true)⟩,
                     ⟨some 43, .op (.build [.int .u64 0, .int .u64 0] []), some (40, true)⟩,
                     ⟨some 44, .call (.c (.fn 9 [] [])) [(.t 41), (.t 42), (.c (.int .u64 1)), (.t 43)], some (40, true)⟩,
                     ⟨some 45, .op (.bin .eql (.t 44) (.c (.int .i64 0))), some (40, true)⟩,
                     ⟨some 46, .pick (.t 40) (.t 45) (.c (.bool false)), none⟩,
                     ⟨some 6, .op (.mv (.t 46)), none⟩]) (
                   .skip))))))) (
             .reg [0, 1, 5, 6, 22] [
               ⟨some 47, .op (.bin .add (.t 22) (.c (.int .i64 1))), none⟩,
               ⟨some 22, .op (.mv (.t 47)), none⟩]))))))) (
       .seq (
        .reg [0, 1, 5, 6, 9] [
          ⟨some 48, .op (.mv (.t 5)), none⟩,
          ⟨some 49, .op (.mv (.t 1)), none⟩,
          ⟨some 50, .call (.c (.fn 8 [] [])) [(.t 48), (.t 49), (.c (.int .u64 1))], none⟩,
          ⟨some 9, .op (.mv (.t 50)), none⟩]) (
        .seq (
         .reg [0, 1, 5, 6, 9] [
           ⟨some 51, .op (.mv (.t 5)), none⟩,
           ⟨some 52, .call (.c (.fn 10 [] [])) [(.t 51)], none⟩]) (
         .seq (
          .reg [0, 6, 9, 10] [
            ⟨some 53, .op (.mv (.t 5)), none⟩,
            ⟨some 54, .op (.mv (.t 1)), none⟩,
            ⟨some 55, .call (.c (.fn 8 [] [])) [(.t 53), (.t 54), (.c (.int .u64 1))], none⟩,
            ⟨some 10, .op (.mv (.t 55)), none⟩]) (
          .seq (
           .reg [4] [
             ⟨some 56, .op (.mv (.t 6)), none⟩,
             ⟨some 57, .op (.mv (.t 56)), none⟩,
             ⟨some 58, .op (.mv (.t 9)), some (57, true)⟩,
             ⟨some 59, .op (.bin .eql (.t 58) (.c (.int .i64 14))), some (57, true)⟩,
             ⟨some 60, .pick (.t 57) (.t 59) (.c (.bool false)), none⟩,
             ⟨some 61, .op (.mv (.t 60)), none⟩,
             ⟨some 62, .op (.mv (.t 10)), some (61, true)⟩,
             ⟨some 63, .op (.bin .eql (.t 62) (.c (.int .i64 0))), some (61, true)⟩,
             ⟨some 64, .op (.mv (.t 0)), some (61, true)⟩,
             ⟨some 65, .op (.bin .neq (.t 64) (.c (.int .u16 65535))), some (61, true)⟩,
             ⟨some 66, .op (.eqb false (.t 63) (.t 65)), some (61, true)⟩,
             ⟨some 67, .pick (.t 61) (.t 66) (.c (.bool false)), none⟩,
             ⟨some 4, .op (.mv (.t 67)), none⟩]) (
           .ret))))))))))
theorem cf3 : compF Try.prog Try.f3 h3 = some (ac3, rs3) := by kernel_rfl

/-! mailcoach/mailcoachlaw15.DedupNil params 1 -/
def h4 : Hints := ⟨[(7, [2]), (6, [1, 3, 4, 5, 6]), (5, [1, 3, 4, 5]), (4, [1, 3, 4, 5]), (3, [1, 3]), (2, [2]), (1, [1, 8]), (0, [1])], [], []⟩
def rs4 : List ARes := [.t 2]
def ac4 : ACode :=
 .seq (
  .reg [1] [
    ⟨some 1, .op (.box (.t 0)), none⟩,
    ⟨some 2, .op (.mv (.c (.bool false))), none⟩]) (
  .seq (
   .seq (
    .reg [1, 8] [
      ⟨some 7, .call (.c (.fn 6 [] [])) [], none⟩,
      ⟨some 8, .op (.un .not (.t 7)), none⟩]) (
    .cond (.t 8) (
     .seq (
      .reg [2] [
        ⟨some 2, .op (.mv (.c (.bool false))), none⟩]) (
      .ret)) (
     .skip))) (
   .seq (
    .reg [1, 3] [
      ⟨some 3, .op (.mv (.c (.nilp))), none⟩]) (
    .seq (
     .reg [1, 3, 4, 5] [
       ⟨some 10, .op (.mv (.t 3)), none⟩,
       ⟨some 11, .op (.fieldAddr 1 (.t 1)), none⟩,
       ⟨some 12, .op (.ld1 (.t 11)), none⟩,
       ⟨some 13, .call (.c (.fn 11 [] [])) [(.t 10), (.t 12)], none⟩,
       ⟨some 9, .op (.mv (.t 13)), none⟩,
       ⟨some 14, .op (.extract (.t 9) 0), none⟩,
       ⟨some 15, .op (.extract (.t 9) 1), none⟩,
       ⟨some 4, .op (.alloc [.str ⟨#[]⟩, .int .u64 0, .int .u64 0, .int .u64 0, .int .u64 0]), none⟩,
       ⟨none, .op (.st 5 (.t 4) (.t 14)), none⟩,
       ⟨some 5, .op (.mv (.t 15)), none⟩]) (
     .seq (
      .reg [1, 3, 4, 5] [
        ⟨some 16, .op (.mv (.t 3)), none⟩,
        ⟨some 17, .call (.c (.fn 10 [] [])) [(.t 16)], none⟩]) (
      .seq (
       .reg [1, 3, 4, 5, 6] [
         ⟨some 18, .op (.build [.nilsl] []), none⟩,
         ⟨some 19, .op (.box (.t 18)), none⟩,
         ⟨some 6, .op (.mv (.t 19)), none⟩]) (
       .seq (
        .reg [2] [
          ⟨some 20, .op (.mv (.t 3)), none⟩,
          ⟨some 21, .op (.fieldAddr 1 (.t 1)), none⟩,
          ⟨some 22, .op (.ld1 (.t 21)), none⟩,
          ⟨some 23, .op (.fieldAddr 2 (.t 1)), none⟩,
          ⟨some 24, .op (.ld1 (.t 23)), none⟩,
          ⟨some 25, .call (.c (.fn 8 [] [])) [(.t 20), (.t 22), (.t 24)], none⟩,
          ⟨some 26, .op (.bin .eql (.t 25) (.c (.int .i64 1))), none⟩,
          ⟨some 27, .op (.mv (.t 26)), none⟩,
          ⟨some 28, .op (.mv (.t 3)), some (27, true)⟩,
          ⟨some 29, .op (.fieldAddr 1 (.t 1)), some (27, true)⟩,
          ⟨some 30, .op (.ld1 (.t 29)), some (27, true)⟩,
          ⟨some 31, .op (.fieldAddr 2 (.t 1)), some (27, true)⟩,
          ⟨some 32, .op (.ld1 (.t 31)), some (27, true)⟩,
          ⟨some 33, .op (.fieldAddr 3 (.t 1)), some (27, true)⟩,
          ⟨some 34, .op (.ldn 2 (.t 33)), some (27, true)⟩,
          ⟨some 35, .call (.c (.fn 9 [] [])) [(.t 28), (.t 30), (.t 32), (.t 34)], some (27, true)⟩,
          ⟨some 36, .op (.bin .eql (.t 35) (.c (.int .i64 1))), some (27, true)⟩,
          ⟨some 37, .pick (.t 27) (.t 36) (.c (.bool false)), none⟩,
          ⟨some 38, .op (.mv (.t 37)), none⟩,
          ⟨some 39, .op (.mv (.t 5)), some (38, true)⟩,
          ⟨some 40, .op (.un .not (.t 39)), some (38, true)⟩,
          ⟨some 41, .pick (.t 38) (.t 40) (.c (.bool false)), none⟩,
          ⟨some 42, .op (.mv (.t 41)), none⟩,
          ⟨some 43, .op (.ldn 5 (.t 4)), some (42, true)⟩,
          ⟨some 44, .op (.build [.str ⟨#[]⟩, .int .u64 0, .int .u64 0, .int .u64 0, .int .u64 0] []), some (42, true)⟩,
          ⟨some 45, .op (.eqs false [2, 1, 1, 1, 1] (.t 43) (.t 44)), some (42, true)⟩,
          ⟨some 46, .pick (.t 42) (.t 45) (.c (.bool false)), none⟩,
          ⟨some 47, .op (.mv (.t 46)), none⟩,
          ⟨some 48, .op (.mv (.t 3)), some (47, true)⟩,
          ⟨some 49, .call (.c (.fn 12 [] [])) [(.t 48)], some (47, true)⟩,
          ⟨some 50, .op (.len 1 (.t 49)), some (47, true)⟩,
          ⟨some 51, .op (.bin .eql (.t 50) (.c (.int .i64 0))), some (47, true)⟩,
          ⟨some 52, .pick (.t 47) (.t 51) (.c (.bool false)), none⟩,
          ⟨some 53, .op (.mv (.t 52)), none⟩,
          ⟨some 54, .op (.mv (.t 6)), some (53, true)⟩,
          ⟨some 55, .call (.c (.fn 13 [] [])) [(.t 54)], some (53, true)⟩,
          ⟨some 56, .op (.len 1 (.t 55)), some (53, true)⟩,
          ⟨some 57, .op (.bin .eql (.t 56) (.c (.int .i64 0))), some (53, true)⟩,
          ⟨some 58, .pick (.t 53) (.t 57) (.c (.bool false)), none⟩,
          ⟨some 2, .op (.mv (.t 58)), none⟩]) (
        .ret)))))))
theorem cf4 : compF Try.prog Try.f4 h4 = some (ac4, rs4) := by kernel_rfl

/-! mailcoach/mailcoachlaw15.DedupPlays params 1 -/
def h5 : Hints := ⟨[(25, [2]), (24, [3, 4, 14, 15, 16]), (23, [2]), (22, [3, 4, 14, 15, 16, 123]), (21, [3, 4, 6, 7, 8, 14, 15, 16]), (16, [2]), (15, [3, 4, 6, 14, 15, 16, 54]), (20, [2]), (19, [3, 4, 6, 14, 15, 16, 74]), (11, [3, 4, 6, 14, 15, 16]), (10, [3, 4, 6, 14, 15, 16]), (18, [3, 4, 6, 14, 15, 16, 55]), (17, [3, 4, 6, 14, 15, 16, 33, 55]), (14, [3, 4, 6, 14, 15, 16, 33, 38]), (13, [3, 4, 6, 14, 15, 16, 33, 38]), (12, [3, 4, 6, 14, 15, 16, 33, 38]), (9, [3, 4, 6, 14, 15, 16, 33]), (8, [3, 4, 6, 14, 15, 16]), (7, [3, 4, 6, 14, 15, 16, 28]), (6, [3, 4, 5, 6, 14, 15, 16]), (5, [3, 4, 14, 15, 16, 17]), (4, [3, 4, 14, 15, 16]), (3, [0, 3, 4]), (2, [2]), (1, [0, 10]), (0, [0])], [(5, [3, 4, 14, 15, 16])], [(15, [(0, []), (1, []), (2, []), (3, []), (4, []), (6, []), (7, []), (8, []), (9, []), (10, []), (5, [7, 9]), (11, []), (12, [])]), (19, [(0, []), (1, []), (2, []), (3, []), (4, []), (5, []), (6, []), (8, []), (9, []), (10, []), (11, []), (12, []), (13, []), (14, []), (7, [9, 11, 13]), (15, []), (16, [])]), (22, [(0, []), (2, []), (1, []), (3, []), (4, []), (5, []), (6, []), (7, []), (10, []), (8, []), (9, []), (11, [10]), (12, []), (13, []), (14, []), (15, []), (16, []), (17, []), (18, []), (19, []), (20, []), (21, []), (22, []), (23, []), (24, []), (25, []), (26, []), (27, []), (28, []), (29, []), (30, []), (31, []), (32, []), (33, []), (34, []), (35, []), (36, []), (37, []), (38, []), (39, []), (40, []), (41, [])])]⟩
def rs5 : List ARes := [.t 2]
def ac5 : ACode :=
 .seq (
  .reg [0] [
    ⟨some 2, .op (.mv (.c (.bool false))), none⟩]) (
  .seq (
   .seq (
    .reg [0, 10] [
      ⟨some 9, .call (.c (.fn 6 [] [])) [], none⟩,
      ⟨some 10, .op (.un .not (.t 9)), none⟩]) (
    .cond (.t 10) (
     .seq (
      .reg [2] [
        ⟨some 2, .op (.mv (.c (.bool false))), none⟩]) (
      .ret)) (
     .skip))) (
   .seq (
    .reg [0, 3, 4] [
      ⟨some 11, .call (.c (.fn 7 [] [])) [], none⟩,
      ⟨some 12, .op (.build [.nilsl] []), none⟩,
      ⟨some 13, .op (.box (.t 12)), none⟩,
      ⟨some 3, .op (.mv (.t 11)), none⟩,
      ⟨some 4, .op (.mv (.t 13)), none⟩]) (
    .seq (
     .seq (
      .reg [3, 4, 14, 15, 16] [
        ⟨some 14, .op (.mv (.t 0)), none⟩,
        ⟨some 15, .op (.len 1 (.t 14)), none⟩,
        ⟨some 16, .op (.mv (.c (.int .i64 0))), none⟩]) (
      .block 0 (
       .loop [3, 4, 14, 15, 16] (
        .seq (
         .reg [3, 4, 14, 15, 16, 17] [
           ⟨some 17, .op (.bin .lss (.t 16) (.t 15)), none⟩]) (
         .seq (
          .cond (.t 17) (
           .skip) (
           .exit 0)) (
          .seq (
           .block 1 (
            .seq (
             .reg [3, 4, 5, 6, 14, 15, 16] [
               ⟨some 18, .op (.mv (.t 16)), none⟩,
               ⟨some 19, .op (.idxAddr 6 (.t 14) (.t 16)), none⟩,
               ⟨some 20, .op (.ldn 6 (.t 19)), none⟩,
               ⟨some 6, .op (.alloc [.int .u8 0, .str ⟨#[]⟩, .int .u64 0, .int .u64 0, .int .u64 0, .bool false]), none⟩,
               ⟨some 5, .op (.mv (.t 18)), none⟩,
               ⟨none, .op (.st 6 (.t 6) (.t 20)), none⟩]) (
             .seq (
              .seq (
               .reg [3, 4, 6, 14, 15, 16, 28] [
                 ⟨some 21, .op (.mv (.t 5)), none⟩,
                 ⟨some 22, .op (.bin .gtr (.t 21) (.c (.int .i64 100))), none⟩,
                 ⟨some 23, .op (.mv (.t 22)), none⟩,
                 ⟨some 24, .op (.fieldAddr 1 (.t 6)), some (23, false)⟩,
                 ⟨some 25, .op (.ld1 (.t 24)), some (23, false)⟩,
                 ⟨some 26, .op (.len 9 (.t 25)), some (23, false)⟩,
                 ⟨some 27, .op (.bin .gtr (.t 26) (.c (.int .i64 200))), some (23, false)⟩,
                 ⟨some 28, .pick (.t 23) (.c (.bool true)) (.t 27), none⟩]) (
               .cond (.t 28) (
                .exit 0) (
                .skip))) (
              .seq (
               .reg [3, 4, 6, 14, 15, 16] [
                 ⟨some 29, .op (.ldn 6 (.t 6)), none⟩,
                 ⟨some 30, .call (.c (.fn 14 [] [])) [(.t 29)], none⟩,
                 ⟨none, .op (.st 6 (.t 6) (.t 30)), none⟩]) (
               .seq (
                .seq (
                 .reg [3, 4, 6, 14, 15, 16, 33] [
                   ⟨some 31, .op (.fieldAddr 0 (.t 6)), none⟩,
                   ⟨some 32, .op (.ld1 (.t 31)), none⟩,
                   ⟨some 33, .op (.bin .rem (.t 32) (.c (.int .u8 6))), none⟩]) (
                 .block 2 (
                  .seq (
                   .seq (
                    .reg [3, 4, 6, 14, 15, 16, 33, 38] [
                      ⟨some 39, .op (.bin .eql (.t 33) (.c (.int .u8 0))), none⟩,
                      ⟨some 38, .op (.mv (.t 39)), none⟩]) (
                    .cond (.t 38) (
                     .skip) (
                     .seq (
                      .reg [3, 4, 6, 14, 15, 16, 33, 38] [
                        ⟨some 40, .op (.bin .eql (.t 33) (.c (.int .u8 1))), none⟩,
                        ⟨some 38, .op (.mv (.t 40)), none⟩]) (
                      .cond (.t 38) (
                       .skip) (
                       .reg [3, 4, 6, 14, 15, 16, 33, 38] [
                         ⟨some 41, .op (.bin .eql (.t 33) (.c (.int .u8 2))), none⟩,
                         ⟨some 38, .op (.mv (.t 41)), none⟩]))))) (
                   .cond (.t 38) (
                    .seq (
                     .dreg [3, 4, 6, 14, 15, 16, 54] [
                       (⟨some 42, .op (.mv (.t 3)), none⟩, []),
                       (⟨some 43, .op (.fieldAddr 1 (.t 6)), none⟩, []),
                       (⟨some 44, .op (.ld1 (.t 43)), none⟩, []),
                       (⟨some 45, .op (.fieldAddr 2 (.t 6)), none⟩, []),
                       (⟨some 46, .op (.ld1 (.t 45)), none⟩, []),
                       (⟨some 48, .op (.mv (.t 4)), none⟩, []),
                       (⟨some 49, .op (.fieldAddr 1 (.t 6)), none⟩, []),
                       (⟨some 50, .op (.ld1 (.t 49)), none⟩, []),
                       (⟨some 51, .op (.fieldAddr 2 (.t 6)), none⟩, []),
                       (⟨some 52, .op (.ld1 (.t 51)), none⟩, []),
                       (⟨some 47, .call (.c (.fn 8 [] [])) [(.t 42), (.t 44), (.t 46)], none⟩, [7, 9]),
                       (⟨some 53, .call (.c (.fn 15 [] [])) [(.t 48), (.t 50), (.t 52)], none⟩, []),
                       (⟨some 54, .op (.bin .neq (.t 47) (.t 53)), none⟩, [])]) (
                     .cond (.t 54) (
                      .seq (
                       .reg [2] [
                         ⟨some 2, .op (.mv (.c (.bool false))), none⟩]) (
                       .ret)) (
                      .skip))) (
                    .seq (
                     .seq (
                      .reg [3, 4, 6, 14, 15, 16, 33, 55] [
                        ⟨some 56, .op (.bin .eql (.t 33) (.c (.int .u8 3))), none⟩,
                        ⟨some 55, .op (.mv (.t 56)), none⟩]) (
                      .cond (.t 55) (
                       .skip) (
                       .reg [3, 4, 6, 14, 15, 16, 55] [
                         ⟨some 57, .op (.bin .eql (.t 33) (.c (.int .u8 4))), none⟩,
                         ⟨some 55, .op (.mv (.t 57)), none⟩]))) (
                     .cond (.t 55) (
                      .seq (
                       .dreg [3, 4, 6, 14, 15, 16, 74] [
                         (⟨some 58, .op (.mv (.t 3)), none⟩, []),
                         (⟨some 59, .op (.fieldAddr 1 (.t 6)), none⟩, []),
                         (⟨some 60, .op (.ld1 (.t 59)), none⟩, []),
                         (⟨some 61, .op (.fieldAddr 2 (.t 6)), none⟩, []),
                         (⟨some 62, .op (.ld1 (.t 61)), none⟩, []),
                         (⟨some 63, .op (.fieldAddr 3 (.t 6)), none⟩, []),
                         (⟨some 64, .op (.ldn 2 (.t 63)), none⟩, []),
                         (⟨some 66, .op (.mv (.t 4)), none⟩, []),
                         (⟨some 67, .op (.fieldAddr 1 (.t 6)), none⟩, []),
                         (⟨some 68, .op (.ld1 (.t 67)), none⟩, []),
                         (⟨some 69, .op (.fieldAddr 2 (.t 6)), none⟩, []),
                         (⟨some 70, .op (.ld1 (.t 69)), none⟩, []),
                         (⟨some 71, .op (.fieldAddr 3 (.t 6)), none⟩, []),
                         (⟨some 72, .op (.ldn 2 (.t 71)), none⟩, []),
                         (⟨some 65, .call (.c (.fn 9 [] [])) [(.t 58), (.t 60), (.t 62), (.t 64)], none⟩, [9, 11, 13]),
                         (⟨some 73, .call (.c (.fn 16 [] [])) [(.t 66), (.t 68), (.t 70), (.t 72)], none⟩, []),
                         (⟨some 74, .op (.bin .neq (.t 65) (.t 73)), none⟩, [])]) (
                       .cond (.t 74) (
                        .seq (
                         .reg [2] [
                           ⟨some 2, .op (.mv (.c (.bool false))), none⟩]) (
                         .ret)) (
                        .skip))) (
                      .seq (
                       .reg [3, 4, 6, 14, 15, 16] [
                         ⟨some 34, .op (.mv (.t 3)), none⟩,
                         ⟨some 35, .call (.c (.fn 10 [] [])) [(.t 34)], none⟩]) (
                       .reg [3, 4, 6, 14, 15, 16] [
                         ⟨some 36, .op (.mv (.t 4)), none⟩,
                         ⟨some 37, .call (.c (.fn 17 [] [])) [(.t 36)], none⟩])))))))) (
                .seq (
                 .reg [3, 4, 6, 7, 8, 14, 15, 16] [
                   ⟨some 76, .op (.mv (.t 3)), none⟩,
                   ⟨some 77, .op (.fieldAddr 1 (.t 6)), none⟩,
                   ⟨some 78, .op (.ld1 (.t 77)), none⟩,
                   ⟨some 79, .call (.c (.fn 11 [] [])) [(.t 76), (.t 78)], none⟩,
                   ⟨some 75, .op (.mv (.t 79)), none⟩,
                   ⟨some 80, .op (.extract (.t 75) 0), none⟩,
                   ⟨some 81, .op (.extract (.t 75) 1), none⟩,
                   ⟨some 7, .op (.alloc [.str ⟨#[]⟩, .int .u64 0, .int .u64 0, .int .u64 0, .int .u64 0]), none⟩,
                   ⟨none, .op (.st 5 (.t 7) (.t 80)), none⟩,
                   ⟨some 8, .op (.mv (.t 81)), none⟩]) (
                 .seq (
                  .dreg [3, 4, 14, 15, 16, 123] [
                    (⟨some 82, .op (.mv (.t 3)), none⟩, []),
                    (⟨some 84, .op (.mv (.t 4)), none⟩, []),
                    (⟨some 83, .call (.c (.fn 12 [] [])) [(.t 82)], none⟩, []),
                    (⟨some 85, .call (.c (.fn 19 [] [])) [(.t 84)], none⟩, []),
                    (⟨some 86, .call (.c (.fn 18 [] [])) [(.t 83), (.t 85)], none⟩, []),
                    (⟨some 87, .op (.un .not (.t 86)), none⟩, []),
                    (⟨some 88, .op (.mv (.t 87)), none⟩, []),
                    (⟨some 89, .op (.mv (.t 3)), some (88, false)⟩, []),
                    (⟨some 92, .op (.mv (.t 4)), some (88, false)⟩, []),
                    (⟨some 90, .call (.c (.fn 20 [] [])) [(.t 89)], some (88, false)⟩, []),
                    (⟨some 91, .op (.bytesStr (.t 90)), some (88, false)⟩, []),
                    (⟨some 93, .call (.c (.fn 21 [] [])) [(.t 92), (.c (.nilsl))], some (88, false)⟩, [10]),
                    (⟨some 94, .op (.bytesStr (.t 93)), some (88, false)⟩, []),
                    (⟨some 95, .op (.bin .neq (.t 91) (.t 94)), some (88, false)⟩, []),
                    (⟨some 96, .pick (.t 88) (.c (.bool true)) (.t 95), none⟩, []),
                    (⟨some 97, .op (.mv (.t 96)), none⟩, []),
                    (⟨some 98, .op (.mv (.t 8)), some (97, false)⟩, []),
                    (⟨some 99, .op (.mv (.t 4)), some (97, false)⟩, []),
                    (⟨some 100, .op (.fieldAddr 1 (.t 6)), some (97, false)⟩, []),
                    (⟨some 101, .op (.ld1 (.t 100)), some (97, false)⟩, []),
                    (⟨some 102, .call (.c (.fn 22 [] [])) [(.t 99), (.t 101)], some (97, false)⟩, []),
                    (⟨some 103, .op (.eqb true (.t 98) (.t 102)), some (97, false)⟩, []),
                    (⟨some 104, .pick (.t 97) (.c (.bool true)) (.t 103), none⟩, []),
                    (⟨some 105, .op (.mv (.t 104)), none⟩, []),
                    (⟨some 106, .op (.mv (.t 8)), some (105, false)⟩, []),
                    (⟨some 107, .op (.mv (.t 106)), some (105, false)⟩, []),
                    (⟨some 108, .op (.fieldAddr 0 (.t 7)), some (107, true)⟩, []),
                    (⟨some 109, .op (.ld1 (.t 108)), some (107, true)⟩, []),
                    (⟨some 110, .op (.fieldAddr 1 (.t 6)), some (107, true)⟩, []),
                    (⟨some 111, .op (.ld1 (.t 110)), some (107, true)⟩, []),
                    (⟨some 112, .op (.bin .neq (.t 109) (.t 111)), some (107, true)⟩, []),
                    (⟨some 113, .pick (.t 107) (.t 112) (.c (.bool false)), some (105, false)⟩, []),
                    (⟨some 114, .pick (.t 105) (.c (.bool true)) (.t 113), none⟩, []),
                    (⟨some 115, .op (.mv (.t 114)), none⟩, []),
                    (⟨some 116, .op (.mv (.t 8)), some (115, false)⟩, []),
                    (⟨some 117, .op (.un .not (.t 116)), some (115, false)⟩, []),
                    (⟨some 118, .op (.mv (.t 117)), some (115, false)⟩, []),
                    (⟨some 119, .op (.ldn 5 (.t 7)), some (118, true)⟩, []),
                    (⟨some 120, .op (.build [.str ⟨#[]⟩, .int .u64 0, .int .u64 0, .int .u64 0, .int .u64 0] []), some (118, true)⟩, []),
                    (⟨some 121, .op (.eqs true [2, 1, 1, 1, 1] (.t 119) (.t 120)), some (118, true)⟩, []),
                    (⟨some 122, .pick (.t 118) (.t 121) (.c (.bool false)), some (115, false)⟩, []),
                    (⟨some 123, .pick (.t 115) (.c (.bool true)) (.t 122), none⟩, [])]) (
                  .cond (.t 123) (
                   .seq (
                    .reg [2] [
                      ⟨some 2, .op (.mv (.c (.bool false))), none⟩]) (
                    .ret)) (
                   .skip))))))))) (
           .reg [3, 4, 14, 15, 16] [
             ⟨some 124, .op (.bin .add (.t 16) (.c (.int .i64 1))), none⟩,
             ⟨some 16, .op (.mv (.t 124)), none⟩]))))))) (
     .seq (
      .reg [2] [
        ⟨some 2, .op (.mv (.c (.bool true))), none⟩]) (
      .ret)))))
theorem cf5 : compF Try.prog Try.f5 h5 = some (ac5, rs5) := by kernel_rfl

/-! mailcoach/mailcoachlaw15.Awake params 0 -/
def h6 : Hints := ⟨[(7, [0]), (6, [2, 3, 4, 5, 6, 7, 8]), (5, [1, 2, 3, 4, 5, 6]), (4, [1, 2, 3, 4, 5, 6]), (3, [1, 2, 3, 4]), (2, [1, 2, 3]), (1, [1]), (0, [])], [], []⟩
def rs6 : List ARes := [.t 0]
def ac6 : ACode :=
 .seq (
  .reg [] [
    ⟨some 0, .op (.mv (.c (.bool false))), none⟩]) (
  .seq (
   .reg [1] [
     ⟨some 9, .call (.c (.fn 7 [] [])) [], none⟩,
     ⟨some 1, .op (.mv (.t 9)), none⟩]) (
   .seq (
    .reg [1, 2, 3] [
      ⟨some 10, .op (.mv (.t 1)), none⟩,
      ⟨some 11, .call (.c (.fn 8 [] [])) [(.t 10), (.c (.str ⟨#[97]⟩)), (.c (.int .u64 3))], none⟩,
      ⟨some 12, .op (.mv (.t 1)), none⟩,
      ⟨some 13, .call (.c (.fn 8 [] [])) [(.t 12), (.c (.str ⟨#[97]⟩)), (.c (.int .u64 3))], none⟩,
      ⟨some 2, .op (.mv (.t 11)), none⟩,
      ⟨some 3, .op (.mv (.t 13)), none⟩]) (
    .seq (
     .reg [1, 2, 3, 4] [
       ⟨some 14, .op (.mv (.t 1)), none⟩,
       ⟨some 15, .op (.build [.int .u64 0, .int .u64 0] [(0, 1, (.c (.int .u64 1)))]), none⟩,
       ⟨some 16, .call (.c (.fn 9 [] [])) [(.t 14), (.c (.str ⟨#[97]⟩)), (.c (.int .u64 3)), (.t 15)], none⟩,
       ⟨some 4, .op (.mv (.t 16)), none⟩]) (
     .seq (
      .reg [1, 2, 3, 4, 5, 6] [
        ⟨some 17, .op (.mv (.t 1)), none⟩,
        ⟨some 18, .call (.c (.fn 8 [] [])) [(.t 17), (.c (.str ⟨#[97]⟩)), (.c (.int .u64 2))], none⟩,
        ⟨some 19, .op (.mv (.t 1)), none⟩,
        ⟨some 20, .call (.c (.fn 8 [] [])) [(.t 19), (.c (.str ⟨#[97]⟩)), (.c (.int .u64 5))], none⟩,
        ⟨some 5, .op (.mv (.t 18)), none⟩,
        ⟨some 6, .op (.mv (.t 20)), none⟩]) (
      .seq (
       .reg [1, 2, 3, 4, 5, 6] [
         ⟨some 21, .op (.mv (.t 1)), none⟩,
         ⟨some 22, .call (.c (.fn 10 [] [])) [(.t 21)], none⟩]) (
       .seq (
        .reg [2, 3, 4, 5, 6, 7, 8] [
          ⟨some 24, .op (.mv (.t 1)), none⟩,
          ⟨some 25, .call (.c (.fn 11 [] [])) [(.t 24), (.c (.str ⟨#[97]⟩))], none⟩,
          ⟨some 23, .op (.mv (.t 25)), none⟩,
          ⟨some 26, .op (.extract (.t 23) 0), none⟩,
          ⟨some 27, .op (.extract (.t 23) 1), none⟩,
          ⟨some 7, .op (.alloc [.str ⟨#[]⟩, .int .u64 0, .int .u64 0, .int .u64 0, .int .u64 0]), none⟩,
          ⟨none, .op (.st 5 (.t 7) (.t 26)), none⟩,
          ⟨some 8, .op (.mv (.t 27)), none⟩]) (
        .seq (
         .reg [0] [
           ⟨some 28, .op (.mv (.t 2)), none⟩,
           ⟨some 29, .op (.bin .eql (.t 28) (.c (.int .i64 0))), none⟩,
           ⟨some 30, .op (.mv (.t 29)), none⟩,
           ⟨some 31, .op (.mv (.t 3)), some (30, true)⟩,
           ⟨some 32, .op (.bin .eql (.t 31) (.c (.int .i64 41))), some (30, true)⟩,
           ⟨some 33, .pick (.t 30) (.t 32) (.c (.bool false)), none⟩,
           ⟨some 34, .op (.mv (.t 33)), none⟩,
           ⟨some 35, .op (.mv (.t 4)), some (34, true)⟩,
           ⟨some 36, .op (.bin .eql (.t 35) (.c (.int .i64 0))), some (34, true)⟩,
           ⟨some 37, .pick (.t 34) (.t 36) (.c (.bool false)), none⟩,
           ⟨some 38, .op (.mv (.t 37)), none⟩,
           ⟨some 39, .op (.mv (.t 5)), some (38, true)⟩,
           ⟨some 40, .op (.bin .eql (.t 39) (.c (.int .i64 40))), some (38, true)⟩,
           ⟨some 41, .pick (.t 38) (.t 40) (.c (.bool false)), none⟩,
           ⟨some 42, .op (.mv (.t 41)), none⟩,
           ⟨some 43, .op (.mv (.t 6)), some (42, true)⟩,
           ⟨some 44, .op (.bin .eql (.t 43) (.c (.int .i64 0))), some (42, true)⟩,
           ⟨some 45, .pick (.t 42) (.t 44) (.c (.bool false)), none⟩,
           ⟨some 46, .op (.mv (.t 45)), none⟩,
           ⟨some 47, .op (.mv (.t 8)), some (46, true)⟩,
           ⟨some 48, .pick (.t 46) (.t 47) (.c (.bool false)), none⟩,
           ⟨some 49, .op (.mv (.t 48)), none⟩,
           ⟨some 50, .op (.fieldAddr 1 (.t 7)), some (49, true)⟩,
           ⟨some 51, .op (.ld1 (.t 50)), some (49, true)⟩,
           ⟨some 52, .op (.bin .eql (.t 51) (.c (.int .u64 3))), some (49, true)⟩,
           ⟨some 53, .pick (.t 49) (.t 52) (.c (.bool false)), none⟩,
           ⟨some 0, .op (.mv (.t 53)), none⟩]) (
         .ret))))))))
theorem cf6 : compF Try.prog Try.f6 h6 = some (ac6, rs6) := by kernel_rfl

/-! mailcoach/dedup.New params 0 -/
def h7 : Hints := ⟨[(1, [0]), (0, [])], [], []⟩
def rs7 : List ARes := [.t 0]
def ac7 : ACode :=
 .seq (
  .reg [] [
    ⟨some 0, .op (.mv (.c (.nilp))), none⟩]) (
  .seq (
   .reg [0] [
     ⟨some 1, .op (.mkmap), none⟩,
     ⟨some 2, .op (.build [.nilmap] [(0, 1, (.t 1))]), none⟩,
     ⟨some 3, .op (.box (.t 2)), none⟩,
     ⟨some 0, .op (.mv (.t 3)), none⟩]) (
   .ret))
theorem cf7 : compF Try.prog Try.f7 h7 = some (ac7, rs7) := by kernel_rfl

/-! (*mailcoach/dedup.Table).Begin params 3 -/
def h8 : Hints := ⟨[(16, [6]), (15, []), (14, [0, 1, 7]), (5, [6]), (7, [6]), (9, [6]), (11, [6]), (13, [6]), (12, [0, 1, 2, 7, 47]), (10, [0, 1, 2, 7, 8, 39]), (8, [0, 1, 2, 7, 8, 31]), (6, [0, 1, 2, 7, 8, 28]), (4, [0, 1, 2, 7, 8, 20]), (3, [0, 1, 2, 7, 8]), (2, [6]), (1, [0, 1, 2, 10]), (0, [0, 1, 2])], [], [(15, [(0, []), (1, []), (2, []), (3, []), (4, []), (5, []), (6, [])])]⟩
def rs8 : List ARes := [.t 6]
def ac8 : ACode :=
 .seq (
  .reg [0, 1, 2] [
    ⟨some 6, .op (.mv (.c (.int .i64 0))), none⟩]) (
  .seq (
   .seq (
    .reg [0, 1, 2, 10] [
      ⟨some 9, .op (.mv (.t 0)), none⟩,
      ⟨some 10, .op (.eqn 0 false (.t 9) (.c (.nilp))), none⟩]) (
    .cond (.t 10) (
     .seq (
      .reg [6] [
        ⟨some 6, .op (.mv (.c (.int .i64 1))), none⟩]) (
      .ret)) (
     .skip))) (
   .seq (
    .reg [0, 1, 2, 7, 8] [
      ⟨some 12, .op (.mv (.t 0)), none⟩,
      ⟨some 13, .op (.nilCheck (.t 12)), none⟩,
      ⟨some 14, .op (.fieldAddr 0 (.t 13)), none⟩,
      ⟨some 15, .op (.ld1 (.t 14)), none⟩,
      ⟨some 16, .op (.mv (.t 1)), none⟩,
      ⟨some 17, .op (.lookup (.agg [.str ⟨#[]⟩, .int .u64 0, .int .u64 0, .int .u64 0, .int .u64 0]) false [2] (.t 15) (.t 16) true), none⟩,
      ⟨some 11, .op (.mv (.t 17)), none⟩,
      ⟨some 18, .op (.extract (.t 11) 0), none⟩,
      ⟨some 19, .op (.extract (.t 11) 1), none⟩,
      ⟨some 7, .op (.alloc [.str ⟨#[]⟩, .int .u64 0, .int .u64 0, .int .u64 0, .int .u64 0]), none⟩,
      ⟨none, .op (.st 5 (.t 7) (.t 18)), none⟩,
      ⟨some 8, .op (.mv (.t 19)), none⟩]) (
    .seq (
     .block 0 (
      .seq (
       .reg [0, 1, 2, 7, 8, 20] [
         ⟨some 21, .op (.mv (.t 1)), none⟩,
         ⟨some 22, .op (.bin .eql (.t 21) (.c (.str ⟨#[]⟩))), none⟩,
         ⟨some 23, .op (.mv (.t 22)), none⟩,
         ⟨some 24, .op (.mv (.t 1)), some (23, false)⟩,
         ⟨some 25, .op (.len 9 (.t 24)), some (23, false)⟩,
         ⟨some 26, .op (.bin .gtr (.t 25) (.c (.int .i64 64))), some (23, false)⟩,
         ⟨some 27, .pick (.t 23) (.c (.bool true)) (.t 26), none⟩,
         ⟨some 20, .op (.mv (.t 27)), none⟩]) (
       .cond (.t 20) (
        .seq (
         .reg [6] [
           ⟨some 6, .op (.mv (.c (.int .i64 10))), none⟩]) (
         .ret)) (
        .seq (
         .reg [0, 1, 2, 7, 8, 28] [
           ⟨some 29, .op (.mv (.t 2)), none⟩,
           ⟨some 30, .op (.bin .eql (.t 29) (.c (.int .u64 0))), none⟩,
           ⟨some 28, .op (.mv (.t 30)), none⟩]) (
         .cond (.t 28) (
          .seq (
           .reg [6] [
             ⟨some 6, .op (.mv (.c (.int .i64 2))), none⟩]) (
           .ret)) (
          .seq (
           .reg [0, 1, 2, 7, 8, 31] [
             ⟨some 32, .op (.mv (.t 8)), none⟩,
             ⟨some 33, .op (.mv (.t 32)), none⟩,
             ⟨some 34, .op (.mv (.t 2)), some (33, true)⟩,
             ⟨some 35, .op (.fieldAddr 2 (.t 7)), some (33, true)⟩,
             ⟨some 36, .op (.ld1 (.t 35)), some (33, true)⟩,
             ⟨some 37, .op (.bin .leq (.t 34) (.t 36)), some (33, true)⟩,
             ⟨some 38, .pick (.t 33) (.t 37) (.c (.bool false)), none⟩,
             ⟨some 31, .op (.mv (.t 38)), none⟩]) (
           .cond (.t 31) (
            .seq (
             .reg [6] [
               ⟨some 6, .op (.mv (.c (.int .i64 40))), none⟩]) (
             .ret)) (
            .seq (
             .reg [0, 1, 2, 7, 8, 39] [
               ⟨some 40, .op (.mv (.t 8)), none⟩,
               ⟨some 41, .op (.mv (.t 40)), none⟩,
               ⟨some 42, .op (.mv (.t 2)), some (41, true)⟩,
               ⟨some 43, .op (.fieldAddr 1 (.t 7)), some (41, true)⟩,
               ⟨some 44, .op (.ld1 (.t 43)), some (41, true)⟩,
               ⟨some 45, .op (.bin .leq (.t 42) (.t 44)), some (41, true)⟩,
               ⟨some 46, .pick (.t 41) (.t 45) (.c (.bool false)), none⟩,
               ⟨some 39, .op (.mv (.t 46)), none⟩]) (
             .cond (.t 39) (
              .seq (
               .reg [6] [
                 ⟨some 6, .op (.mv (.c (.int .i64 41))), none⟩]) (
               .ret)) (
              .seq (
               .reg [0, 1, 2, 7, 47] [
                 ⟨some 48, .op (.mv (.t 8)), none⟩,
                 ⟨some 49, .op (.un .not (.t 48)), none⟩,
                 ⟨some 50, .op (.mv (.t 49)), none⟩,
                 ⟨some 51, .op (.mv (.t 0)), some (50, true)⟩,
                 ⟨some 52, .op (.nilCheck (.t 51)), some (50, true)⟩,
                 ⟨some 53, .op (.fieldAddr 0 (.t 52)), some (50, true)⟩,
                 ⟨some 54, .op (.ld1 (.t 53)), some (50, true)⟩,
                 ⟨some 55, .op (.len 2 (.t 54)), some (50, true)⟩,
                 ⟨some 56, .op (.bin .geq (.t 55) (.c (.int .i64 16))), some (50, true)⟩,
                 ⟨some 57, .pick (.t 50) (.t 56) (.c (.bool false)), none⟩,
                 ⟨some 47, .op (.mv (.t 57)), none⟩]) (
               .cond (.t 47) (
                .seq (
                 .reg [6] [
                   ⟨some 6, .op (.mv (.c (.int .i64 14))), none⟩]) (
                 .ret)) (
                .skip)))))))))))) (
     .seq (
      .reg [0, 1, 7] [
        ⟨some 58, .op (.mv (.t 1)), none⟩,
        ⟨some 59, .op (.mv (.t 2)), none⟩,
        ⟨some 60, .op (.fieldAddr 0 (.t 7)), none⟩,
        ⟨none, .op (.st 1 (.t 60) (.t 58)), none⟩,
        ⟨some 61, .op (.fieldAddr 1 (.t 7)), none⟩,
        ⟨none, .op (.st 1 (.t 61) (.t 59)), none⟩]) (
      .seq (
       .dreg [] [
         (⟨some 62, .op (.mv (.t 0)), none⟩, []),
         (⟨some 63, .op (.nilCheck (.t 62)), none⟩, []),
         (⟨some 64, .op (.fieldAddr 0 (.t 63)), none⟩, []),
         (⟨some 65, .op (.ld1 (.t 64)), none⟩, []),
         (⟨some 66, .op (.mv (.t 1)), none⟩, []),
         (⟨some 67, .op (.ldn 5 (.t 7)), none⟩, []),
         (⟨none, .op (.mapSet false [2] (.t 65) (.t 66) (.t 67)), none⟩, [])]) (
       .seq (
        .reg [6] [
          ⟨some 6, .op (.mv (.c (.int .i64 0))), none⟩]) (
        .ret)))))))
theorem cf8 : compF Try.prog Try.f8 h8 = some (ac8, rs8) := by kernel_rfl

/-! (*mailcoach/dedup.Table).Done params 4 -/
def h9 : Hints := ⟨[(10, [8]), (9, []), (8, [0, 1, 9]), (5, [8]), (7, [8]), (6, [0, 1, 2, 7, 9, 31]), (4, [0, 1, 2, 7, 9, 22]), (3, [0, 1, 2, 7, 9, 10]), (2, [8]), (1, [0, 1, 2, 7, 12]), (0, [0, 1, 2, 7])], [], [(8, [(0, []), (1, []), (2, []), (3, [1]), (4, []), (5, [])]), (9, [(0, []), (1, []), (2, []), (3, []), (4, []), (5, []), (6, [])])]⟩
def rs9 : List ARes := [.t 8]
def ac9 : ACode :=
 .seq (
  .reg [0, 1, 2, 7] [
    ⟨some 7, .op (.box (.t 3)), none⟩,
    ⟨some 8, .op (.mv (.c (.int .i64 0))), none⟩]) (
  .seq (
   .seq (
    .reg [0, 1, 2, 7, 12] [
      ⟨some 11, .op (.mv (.t 0)), none⟩,
      ⟨some 12, .op (.eqn 0 false (.t 11) (.c (.nilp))), none⟩]) (
    .cond (.t 12) (
     .seq (
      .reg [8] [
        ⟨some 8, .op (.mv (.c (.int .i64 1))), none⟩]) (
      .ret)) (
     .skip))) (
   .seq (
    .reg [0, 1, 2, 7, 9, 10] [
      ⟨some 14, .op (.mv (.t 0)), none⟩,
      ⟨some 15, .op (.nilCheck (.t 14)), none⟩,
      ⟨some 16, .op (.fieldAddr 0 (.t 15)), none⟩,
      ⟨some 17, .op (.ld1 (.t 16)), none⟩,
      ⟨some 18, .op (.mv (.t 1)), none⟩,
      ⟨some 19, .op (.lookup (.agg [.str ⟨#[]⟩, .int .u64 0, .int .u64 0, .int .u64 0, .int .u64 0]) false [2] (.t 17) (.t 18) true), none⟩,
      ⟨some 13, .op (.mv (.t 19)), none⟩,
      ⟨some 20, .op (.extract (.t 13) 0), none⟩,
      ⟨some 21, .op (.extract (.t 13) 1), none⟩,
      ⟨some 9, .op (.alloc [.str ⟨#[]⟩, .int .u64 0, .int .u64 0, .int .u64 0, .int .u64 0]), none⟩,
      ⟨none, .op (.st 5 (.t 9) (.t 20)), none⟩,
      ⟨some 10, .op (.mv (.t 21)), none⟩]) (
    .seq (
     .block 0 (
      .seq (
       .reg [0, 1, 2, 7, 9, 22] [
         ⟨some 23, .op (.mv (.t 10)), none⟩,
         ⟨some 24, .op (.un .not (.t 23)), none⟩,
         ⟨some 25, .op (.mv (.t 24)), none⟩,
         ⟨some 26, .op (.mv (.t 2)), some (25, false)⟩,
         ⟨some 27, .op (.fieldAddr 1 (.t 9)), some (25, false)⟩,
         ⟨some 28, .op (.ld1 (.t 27)), some (25, false)⟩,
         ⟨some 29, .op (.bin .gtr (.t 26) (.t 28)), some (25, false)⟩,
         ⟨some 30, .pick (.t 25) (.c (.bool true)) (.t 29), none⟩,
         ⟨some 22, .op (.mv (.t 30)), none⟩]) (
       .cond (.t 22) (
        .seq (
         .reg [8] [
           ⟨some 8, .op (.mv (.c (.int .i64 11))), none⟩]) (
         .ret)) (
        .seq (
         .reg [0, 1, 2, 7, 9, 31] [
           ⟨some 32, .op (.mv (.t 2)), none⟩,
           ⟨some 33, .op (.fieldAddr 2 (.t 9)), none⟩,
           ⟨some 34, .op (.ld1 (.t 33)), none⟩,
           ⟨some 35, .op (.bin .leq (.t 32) (.t 34)), none⟩,
           ⟨some 31, .op (.mv (.t 35)), none⟩]) (
         .cond (.t 31) (
          .seq (
           .reg [8] [
             ⟨some 8, .op (.mv (.c (.int .i64 40))), none⟩]) (
           .ret)) (
          .skip)))))) (
     .seq (
      .dreg [0, 1, 9] [
        (⟨some 36, .op (.mv (.t 2)), none⟩, []),
        (⟨some 37, .op (.ldn 2 (.t 7)), none⟩, []),
        (⟨some 38, .op (.fieldAddr 2 (.t 9)), none⟩, []),
        (⟨none, .op (.st 1 (.t 38) (.t 36)), none⟩, [1]),
        (⟨some 39, .op (.fieldAddr 3 (.t 9)), none⟩, []),
        (⟨none, .op (.st 2 (.t 39) (.t 37)), none⟩, [])]) (
      .seq (
       .dreg [] [
         (⟨some 40, .op (.mv (.t 0)), none⟩, []),
         (⟨some 41, .op (.nilCheck (.t 40)), none⟩, []),
         (⟨some 42, .op (.fieldAddr 0 (.t 41)), none⟩, []),
         (⟨some 43, .op (.ld1 (.t 42)), none⟩, []),
         (⟨some 44, .op (.mv (.t 1)), none⟩, []),
         (⟨some 45, .op (.ldn 5 (.t 9)), none⟩, []),
         (⟨none, .op (.mapSet false [2] (.t 43) (.t 44) (.t 45)), none⟩, [])]) (
       .seq (
        .reg [8] [
          ⟨some 8, .op (.mv (.c (.int .i64 0))), none⟩]) (
        .ret)))))))
theorem cf9 : compF Try.prog Try.f9 h9 = some (ac9, rs9) := by kernel_rfl

/-! (*mailcoach/dedup.Table).Forget params 1 -/
def h10 : Hints := ⟨[(7, [0, 10]), (6, [0, 2, 10, 27]), (5, [0, 2, 3, 10]), (4, [0, 2, 3, 10]), (3, [0, 2, 3, 10]), (2, [0, 10, 12]), (1, [0, 10]), (0, [0, 5])], [(2, [0, 10])], [(5, [(0, []), (1, []), (2, []), (3, []), (4, []), (5, []), (6, [])])]⟩
def rs10 : List ARes := []
def ac10 : ACode :=
 .seq (
  .seq (
   .reg [0, 5] [
     ⟨some 4, .op (.mv (.t 0)), none⟩,
     ⟨some 5, .op (.eqn 0 false (.t 4) (.c (.nilp))), none⟩]) (
   .cond (.t 5) (
    .ret) (
    .skip))) (
  .seq (
   .reg [0, 10] [
     ⟨some 6, .op (.mv (.t 0)), none⟩,
     ⟨some 7, .op (.nilCheck (.t 6)), none⟩,
     ⟨some 8, .op (.fieldAddr 0 (.t 7)), none⟩,
     ⟨some 9, .op (.ld1 (.t 8)), none⟩,
     ⟨some 10, .op (.rangeM (.t 9)), none⟩]) (
   .block 0 (
    .loop [0, 10] (
     .seq (
      .reg [0, 10, 12] [
        ⟨some 11, .next (.t 10), none⟩,
        ⟨some 12, .op (.extract (.t 11) 0), none⟩]) (
      .seq (
       .cond (.t 12) (
        .skip) (
        .exit 0)) (
       .block 1 (
        .seq (
         .reg [0, 2, 3, 10] [
           ⟨some 13, .op (.entryM (.t 10)), none⟩,
           ⟨some 14, .op (.extract (.t 13) 0), none⟩,
           ⟨some 15, .op (.extract (.t 13) 1), none⟩,
           ⟨some 3, .op (.alloc [.str ⟨#[]⟩, .int .u64 0, .int .u64 0, .int .u64 0, .int .u64 0]), none⟩,
           ⟨some 2, .op (.mv (.t 14)), none⟩,
           ⟨none, .op (.st 5 (.t 3) (.t 15)), none⟩]) (
         .seq (
          .reg [0, 2, 3, 10] [
            ⟨some 16, .op (.fieldAddr 2 (.t 3)), none⟩,
            ⟨some 17, .op (.ld1 (.t 16)), none⟩,
            ⟨some 18, .op (.fieldAddr 1 (.t 3)), none⟩,
            ⟨none, .op (.st 1 (.t 18) (.t 17)), none⟩]) (
          .seq (
           .dreg [0, 2, 3, 10] [
             (⟨some 19, .op (.mv (.t 0)), none⟩, []),
             (⟨some 20, .op (.nilCheck (.t 19)), none⟩, []),
             (⟨some 21, .op (.fieldAddr 0 (.t 20)), none⟩, []),
             (⟨some 22, .op (.ld1 (.t 21)), none⟩, []),
             (⟨some 23, .op (.mv (.t 2)), none⟩, []),
             (⟨some 24, .op (.ldn 5 (.t 3)), none⟩, []),
             (⟨none, .op (.mapSet false [2] (.t 22) (.t 23) (.t 24)), none⟩, [])]) (
           .seq (
            .reg [0, 2, 10, 27] [
              ⟨some 25, .op (.fieldAddr 2 (.t 3)), none⟩,
              ⟨some 26, .op (.ld1 (.t 25)), none⟩,
              ⟨some 27, .op (.bin .eql (.t 26) (.c (.int .u64 0))), none⟩]) (
            .cond (.t 27) (
             .reg [0, 10] [
               ⟨some 28, .op (.mv (.t 0)), none⟩,
               ⟨some 29, .op (.nilCheck (.t 28)), none⟩,
               ⟨some 30, .op (.fieldAddr 0 (.t 29)), none⟩,
               ⟨some 31, .op (.ld1 (.t 30)), none⟩,
               ⟨some 32, .op (.mv (.t 2)), none⟩,
               ⟨none, .op (.delete false [2] (.t 31) (.t 32)), none⟩]) (
             .skip))))))))))))
theorem cf10 : compF Try.prog Try.f10 h10 = some (ac10, rs10) := by kernel_rfl

/-! (*mailcoach/dedup.Table).Last params 2 -/
def h11 : Hints := ⟨[(4, [4, 5]), (3, [4, 6, 7]), (2, [4, 5]), (1, [0, 1, 4, 9]), (0, [0, 1, 4])], [], []⟩
def rs11 : List ARes := [.cn 4 5, .t 5]
def ac11 : ACode :=
 .seq (
  .reg [0, 1, 4] [
    ⟨some 4, .op (.alloc [.str ⟨#[]⟩, .int .u64 0, .int .u64 0, .int .u64 0, .int .u64 0]), none⟩,
    ⟨some 5, .op (.mv (.c (.bool false))), none⟩]) (
  .seq (
   .seq (
    .reg [0, 1, 4, 9] [
      ⟨some 8, .op (.mv (.t 0)), none⟩,
      ⟨some 9, .op (.eqn 0 false (.t 8) (.c (.nilp))), none⟩]) (
    .cond (.t 9) (
     .seq (
      .reg [4, 5] [
        ⟨some 10, .op (.build [.str ⟨#[]⟩, .int .u64 0, .int .u64 0, .int .u64 0, .int .u64 0] []), none⟩,
        ⟨none, .op (.st 5 (.t 4) (.t 10)), none⟩,
        ⟨some 5, .op (.mv (.c (.bool false))), none⟩]) (
      .ret)) (
     .skip))) (
   .seq (
    .reg [4, 6, 7] [
      ⟨some 12, .op (.mv (.t 0)), none⟩,
      ⟨some 13, .op (.nilCheck (.t 12)), none⟩,
      ⟨some 14, .op (.fieldAddr 0 (.t 13)), none⟩,
      ⟨some 15, .op (.ld1 (.t 14)), none⟩,
      ⟨some 16, .op (.mv (.t 1)), none⟩,
      ⟨some 17, .op (.lookup (.agg [.str ⟨#[]⟩, .int .u64 0, .int .u64 0, .int .u64 0, .int .u64 0]) false [2] (.t 15) (.t 16) true), none⟩,
      ⟨some 11, .op (.mv (.t 17)), none⟩,
      ⟨some 18, .op (.extract (.t 11) 0), none⟩,
      ⟨some 19, .op (.extract (.t 11) 1), none⟩,
      ⟨some 6, .op (.alloc [.str ⟨#[]⟩, .int .u64 0, .int .u64 0, .int .u64 0, .int .u64 0]), none⟩,
      ⟨none, .op (.st 5 (.t 6) (.t 18)), none⟩,
      ⟨some 7, .op (.mv (.t 19)), none⟩]) (
    .seq (
     .reg [4, 5] [
       ⟨some 20, .op (.ldn 5 (.t 6)), none⟩,
       ⟨some 21, .op (.mv (.t 7)), none⟩,
       ⟨none, .op (.st 5 (.t 4) (.t 20)), none⟩,
       ⟨some 5, .op (.mv (.t 21)), none⟩]) (
     .ret))))
theorem cf11 : compF Try.prog Try.f11 h11 = some (ac11, rs11) := by kernel_rfl

/-! (*mailcoach/dedup.Table).All params 1 -/
def h12 : Hints := ⟨[(3, [2]), (2, [2]), (1, [0, 4]), (0, [0])], [], []⟩
def rs12 : List ARes := [.t 2]
def ac12 : ACode :=
 .seq (
  .reg [0] [
    ⟨some 2, .op (.mv (.c (.nilsl))), none⟩]) (
  .seq (
   .seq (
    .reg [0, 4] [
      ⟨some 3, .op (.mv (.t 0)), none⟩,
      ⟨some 4, .op (.eqn 0 false (.t 3) (.c (.nilp))), none⟩]) (
    .cond (.t 4) (
     .seq (
      .reg [2] [
        ⟨some 2, .op (.mv (.c (.nilsl))), none⟩]) (
      .ret)) (
     .skip))) (
   .seq (
    .reg [2] [
      ⟨some 5, .op (.mv (.t 0)), none⟩,
      ⟨some 6, .op (.nilCheck (.t 5)), none⟩,
      ⟨some 7, .op (.fieldAddr 0 (.t 6)), none⟩,
      ⟨some 8, .op (.ld1 (.t 7)), none⟩,
      ⟨some 9, .call (.c (.fn 24 [] [])) [(.t 8)], none⟩,
      ⟨some 10, .call (.c (.fn 23 [] [])) [(.t 9), (.c (.fn 25 [] []))], none⟩,
      ⟨some 2, .op (.mv (.t 10)), none⟩]) (
    .ret)))
theorem cf12 : compF Try.prog Try.f12 h12 = some (ac12, rs12) := by kernel_rfl

/-! (*mailcoach/pack.Writer).Done params 1 -/
def h13 : Hints := ⟨[(3, [2]), (2, [2]), (1, [0, 4]), (0, [0])], [], []⟩
def rs13 : List ARes := [.t 2]
def ac13 : ACode :=
 .seq (
  .reg [0] [
    ⟨some 2, .op (.mv (.c (.nilsl))), none⟩]) (
  .seq (
   .seq (
    .reg [0, 4] [
      ⟨some 3, .op (.mv (.t 0)), none⟩,
      ⟨some 4, .op (.eqn 0 false (.t 3) (.c (.nilp))), none⟩]) (
    .cond (.t 4) (
     .seq (
      .reg [2] [
        ⟨some 2, .op (.mv (.c (.nilsl))), none⟩]) (
      .ret)) (
     .skip))) (
   .seq (
    .reg [2] [
      ⟨some 5, .op (.mv (.t 0)), none⟩,
      ⟨some 6, .op (.nilCheck (.t 5)), none⟩,
      ⟨some 7, .op (.fieldAddr 0 (.t 6)), none⟩,
      ⟨some 8, .op (.ld1 (.t 7)), none⟩,
      ⟨some 9, .call (.c (.fn 27 [] [])) [(.t 8)], none⟩,
      ⟨some 2, .op (.mv (.t 9)), none⟩]) (
    .ret)))
theorem cf13 : compF Try.prog Try.f13 h13 = some (ac13, rs13) := by kernel_rfl

/-! mailcoach/mailcoachlaw15.few params 1 -/
def h14 : Hints := ⟨[(4, [2]), (3, [1, 2]), (2, [1, 2]), (1, [1, 2, 5]), (0, [1, 2])], [], []⟩
def rs14 : List ARes := [.cn 2 6]
def ac14 : ACode :=
 .seq (
  .reg [1, 2] [
    ⟨some 1, .op (.box (.t 0)), none⟩,
    ⟨some 2, .op (.alloc [.int .u8 0, .str ⟨#[]⟩, .int .u64 0, .int .u64 0, .int .u64 0, .bool false]), none⟩]) (
  .seq (
   .seq (
    .reg [1, 2, 5] [
      ⟨some 3, .op (.fieldAddr 5 (.t 1)), none⟩,
      ⟨some 4, .op (.ld1 (.t 3)), none⟩,
      ⟨some 5, .op (.un .not (.t 4)), none⟩]) (
    .cond (.t 5) (
     .seq (
      .reg [1, 2] [
        ⟨some 6, .op (.fieldAddr 2 (.t 1)), none⟩,
        ⟨some 7, .op (.ld1 (.t 6)), none⟩,
        ⟨some 8, .op (.bin .rem (.t 7) (.c (.int .u64 9))), none⟩,
        ⟨some 9, .op (.fieldAddr 2 (.t 1)), none⟩,
        ⟨none, .op (.st 1 (.t 9) (.t 8)), none⟩]) (
      .reg [1, 2] [
        ⟨some 10, .op (.fieldAddr 1 (.t 1)), none⟩,
        ⟨some 11, .op (.ld1 (.t 10)), none⟩,
        ⟨some 12, .op (.len 9 (.t 11)), none⟩,
        ⟨some 13, .op (.bin .rem (.t 12) (.c (.int .i64 3))), none⟩,
        ⟨some 14, .op (.bin .add (.c (.int .i64 97)) (.t 13)), none⟩,
        ⟨some 15, .op (.toInt .u8 (.t 14)), none⟩,
        ⟨some 16, .op (.buildSl 1 [.int .u8 0] 1 [(0, (.t 15))]), none⟩,
        ⟨some 17, .op (.bytesStr (.t 16)), none⟩,
        ⟨some 18, .op (.bin .add (.c (.str ⟨#[112]⟩)) (.t 17)), none⟩,
        ⟨some 19, .op (.fieldAddr 1 (.t 1)), none⟩,
        ⟨none, .op (.st 1 (.t 19) (.t 18)), none⟩])) (
     .skip))) (
   .seq (
    .reg [2] [
      ⟨some 20, .op (.ldn 6 (.t 1)), none⟩,
      ⟨none, .op (.st 6 (.t 2) (.t 20)), none⟩]) (
    .ret)))
theorem cf14 : compF Try.prog Try.f14 h14 = some (ac14, rs14) := by kernel_rfl

/-! (*mailcoach/mailcoachref15.Table).Begin params 3 -/
def h15 : Hints := ⟨[(16, [6]), (15, []), (14, [6]), (13, []), (12, [0, 1, 2, 7, 65]), (3, [6]), (5, [6]), (7, [6]), (9, [6]), (11, [6]), (10, [0, 1, 2, 7, 53]), (8, [0, 1, 2, 7, 38]), (6, [0, 1, 2, 7, 23]), (4, [0, 1, 2, 7, 20]), (2, [0, 1, 2, 7, 11]), (1, [0, 1, 2, 7]), (0, [0, 1, 2])], [], []⟩
def rs15 : List ARes := [.t 6]
def ac15 : ACode :=
 .seq (
  .reg [0, 1, 2] [
    ⟨some 6, .op (.mv (.c (.int .i64 0))), none⟩]) (
  .seq (
   .reg [0, 1, 2, 7] [
     ⟨some 8, .op (.mv (.t 0)), none⟩,
     ⟨some 9, .op (.mv (.t 1)), none⟩,
     ⟨some 10, .call (.c (.fn 28 [] [])) [(.t 8), (.t 9)], none⟩,
     ⟨some 7, .op (.mv (.t 10)), none⟩]) (
   .seq (
    .block 0 (
     .seq (
      .reg [0, 1, 2, 7, 11] [
        ⟨some 12, .op (.mv (.t 1)), none⟩,
        ⟨some 13, .op (.len 9 (.t 12)), none⟩,
        ⟨some 14, .op (.bin .lss (.t 13) (.c (.int .i64 1))), none⟩,
        ⟨some 15, .op (.mv (.t 14)), none⟩,
        ⟨some 16, .op (.mv (.t 1)), some (15, false)⟩,
        ⟨some 17, .op (.len 9 (.t 16)), some (15, false)⟩,
        ⟨some 18, .op (.bin .gtr (.t 17) (.c (.int .i64 64))), some (15, false)⟩,
        ⟨some 19, .pick (.t 15) (.c (.bool true)) (.t 18), none⟩,
        ⟨some 11, .op (.mv (.t 19)), none⟩]) (
      .cond (.t 11) (
       .seq (
        .reg [6] [
          ⟨some 6, .op (.mv (.c (.int .i64 10))), none⟩]) (
        .ret)) (
       .seq (
        .reg [0, 1, 2, 7, 20] [
          ⟨some 21, .op (.mv (.t 2)), none⟩,
          ⟨some 22, .op (.bin .eql (.t 21) (.c (.int .u64 0))), none⟩,
          ⟨some 20, .op (.mv (.t 22)), none⟩]) (
        .cond (.t 20) (
         .seq (
          .reg [6] [
            ⟨some 6, .op (.mv (.c (.int .i64 2))), none⟩]) (
          .ret)) (
         .seq (
          .reg [0, 1, 2, 7, 23] [
            ⟨some 24, .op (.mv (.t 7)), none⟩,
            ⟨some 25, .op (.bin .geq (.t 24) (.c (.int .i64 0))), none⟩,
            ⟨some 26, .op (.mv (.t 25)), none⟩,
            ⟨some 27, .op (.mv (.t 0)), some (26, true)⟩,
            ⟨some 28, .op (.nilCheck (.t 27)), some (26, true)⟩,
            ⟨some 29, .op (.fieldAddr 0 (.t 28)), some (26, true)⟩,
            ⟨some 30, .op (.ld1 (.t 29)), some (26, true)⟩,
            ⟨some 31, .op (.mv (.t 7)), some (26, true)⟩,
            ⟨some 32, .op (.idxAddr 5 (.t 30) (.t 31)), some (26, true)⟩,
            ⟨some 33, .op (.fieldAddr 2 (.t 32)), some (26, true)⟩,
            ⟨some 34, .op (.ld1 (.t 33)), some (26, true)⟩,
            ⟨some 35, .op (.mv (.t 2)), some (26, true)⟩,
            ⟨some 36, .op (.bin .geq (.t 34) (.t 35)), some (26, true)⟩,
            ⟨some 37, .pick (.t 26) (.t 36) (.c (.bool false)), none⟩,
            ⟨some 23, .op (.mv (.t 37)), none⟩]) (
          .cond (.t 23) (
           .seq (
            .reg [6] [
              ⟨some 6, .op (.mv (.c (.int .i64 40))), none⟩]) (
            .ret)) (
           .seq (
            .reg [0, 1, 2, 7, 38] [
              ⟨some 39, .op (.mv (.t 7)), none⟩,
              ⟨some 40, .op (.bin .geq (.t 39) (.c (.int .i64 0))), none⟩,
              ⟨some 41, .op (.mv (.t 40)), none⟩,
              ⟨some 42, .op (.mv (.t 0)), some (41, true)⟩,
              ⟨some 43, .op (.nilCheck (.t 42)), some (41, true)⟩,
              ⟨some 44, .op (.fieldAddr 0 (.t 43)), some (41, true)⟩,
              ⟨some 45, .op (.ld1 (.t 44)), some (41, true)⟩,
              ⟨some 46, .op (.mv (.t 7)), some (41, true)⟩,
              ⟨some 47, .op (.idxAddr 5 (.t 45) (.t 46)), some (41, true)⟩,
              ⟨some 48, .op (.fieldAddr 1 (.t 47)), some (41, true)⟩,
              ⟨some 49, .op (.ld1 (.t 48)), some (41, true)⟩,
              ⟨some 50, .op (.mv (.t 2)), some (41, true)⟩,
              ⟨some 51, .op (.bin .geq (.t 49) (.t 50)), some (41, true)⟩,
              ⟨some 52, .pick (.t 41) (.t 51) (.c (.bool false)), none⟩,
              ⟨some 38, .op (.mv (.t 52)), none⟩]) (
            .cond (.t 38) (
             .seq (
              .reg [6] [
                ⟨some 6, .op (.mv (.c (.int .i64 41))), none⟩]) (
              .ret)) (
             .seq (
              .reg [0, 1, 2, 7, 53] [
                ⟨some 54, .op (.mv (.t 7)), none⟩,
                ⟨some 55, .op (.bin .lss (.t 54) (.c (.int .i64 0))), none⟩,
                ⟨some 56, .op (.mv (.t 55)), none⟩,
                ⟨some 57, .op (.mv (.t 0)), some (56, true)⟩,
                ⟨some 58, .op (.nilCheck (.t 57)), some (56, true)⟩,
                ⟨some 59, .op (.fieldAddr 0 (.t 58)), some (56, true)⟩,
                ⟨some 60, .op (.ld1 (.t 59)), some (56, true)⟩,
                ⟨some 61, .op (.len 1 (.t 60)), some (56, true)⟩,
                ⟨some 62, .op (.bin .eql (.t 61) (.c (.int .i64 16))), some (56, true)⟩,
                ⟨some 63, .pick (.t 56) (.t 62) (.c (.bool false)), none⟩,
                ⟨some 53, .op (.mv (.t 63)), none⟩]) (
              .cond (.t 53) (
               .seq (
                .reg [6] [
                  ⟨some 6, .op (.mv (.c (.int .i64 14))), none⟩]) (
                .ret)) (
               .skip)))))))))))) (
    .seq (
     .seq (
      .reg [0, 1, 2, 7, 65] [
        ⟨some 64, .op (.mv (.t 7)), none⟩,
        ⟨some 65, .op (.bin .lss (.t 64) (.c (.int .i64 0))), none⟩]) (
      .cond (.t 65) (
       .seq (
        .reg [] [
          ⟨some 66, .op (.mv (.t 0)), none⟩,
          ⟨some 67, .op (.mv (.t 0)), none⟩,
          ⟨some 68, .op (.nilCheck (.t 67)), none⟩,
          ⟨some 69, .op (.fieldAddr 0 (.t 68)), none⟩,
          ⟨some 70, .op (.ld1 (.t 69)), none⟩,
          ⟨some 71, .op (.mv (.t 1)), none⟩,
          ⟨some 72, .op (.mv (.t 2)), none⟩,
          ⟨some 73, .op (.build [.str ⟨#[]⟩, .int .u64 0, .int .u64 0, .int .u64 0, .int .u64 0] [(0, 1, (.t 71)), (1, 1, (.t 72))]), none⟩,
          ⟨some 74, .op (.buildSl 5 [.str ⟨#[]⟩, .int .u64 0, .int .u64 0, .int .u64 0, .int .u64 0] 1 [(0, (.t 73))]), none⟩,
          ⟨some 75, .op (.append 5 48 (.t 70) (.t 74)), none⟩,
          ⟨some 76, .op (.nilCheck (.t 66)), none⟩,
          ⟨some 77, .op (.fieldAddr 0 (.t 76)), none⟩,
          ⟨none, .op (.st 1 (.t 77) (.t 75)), none⟩]) (
        .seq (
         .reg [6] [
           ⟨some 6, .op (.mv (.c (.int .i64 0))), none⟩]) (
         .ret))) (
       .skip))) (
     .seq (
      .reg [] [
        ⟨some 78, .op (.mv (.t 0)), none⟩,
        ⟨some 79, .op (.nilCheck (.t 78)), none⟩,
        ⟨some 80, .op (.fieldAddr 0 (.t 79)), none⟩,
        ⟨some 81, .op (.ld1 (.t 80)), none⟩,
        ⟨some 82, .op (.mv (.t 7)), none⟩,
        ⟨some 83, .op (.mv (.t 2)), none⟩,
        ⟨some 84, .op (.idxAddr 5 (.t 81) (.t 82)), none⟩,
        ⟨some 85, .op (.fieldAddr 1 (.t 84)), none⟩,
        ⟨none, .op (.st 1 (.t 85) (.t 83)), none⟩]) (
      .seq (
       .reg [6] [
         ⟨some 6, .op (.mv (.c (.int .i64 0))), none⟩]) (
       .ret))))))
theorem cf15 : compF Try.prog Try.f15 h15 = some (ac15, rs15) := by kernel_rfl

/-! (*mailcoach/mailcoachref15.Table).Done params 4 -/
def h16 : Hints := ⟨[(8, [8]), (7, []), (6, [0, 7, 9]), (5, [8]), (4, [0, 2, 7, 9, 36]), (3, [8]), (2, [0, 2, 7, 9, 26]), (1, [0, 2, 7, 9]), (0, [0, 1, 2, 7])], [], [(7, [(0, []), (1, []), (2, []), (3, []), (4, []), (5, []), (6, []), (7, []), (8, [])])]⟩
def rs16 : List ARes := [.t 8]
def ac16 : ACode :=
 .seq (
  .reg [0, 1, 2, 7] [
    ⟨some 7, .op (.box (.t 3)), none⟩,
    ⟨some 8, .op (.mv (.c (.int .i64 0))), none⟩]) (
  .seq (
   .reg [0, 2, 7, 9] [
     ⟨some 10, .op (.mv (.t 0)), none⟩,
     ⟨some 11, .op (.mv (.t 1)), none⟩,
     ⟨some 12, .call (.c (.fn 28 [] [])) [(.t 10), (.t 11)], none⟩,
     ⟨some 9, .op (.mv (.t 12)), none⟩]) (
   .seq (
    .seq (
     .reg [0, 2, 7, 9, 26] [
       ⟨some 13, .op (.mv (.t 9)), none⟩,
       ⟨some 14, .op (.bin .lss (.t 13) (.c (.int .i64 0))), none⟩,
       ⟨some 15, .op (.mv (.t 14)), none⟩,
       ⟨some 16, .op (.mv (.t 2)), some (15, false)⟩,
       ⟨some 17, .op (.mv (.t 0)), some (15, false)⟩,
       ⟨some 18, .op (.nilCheck (.t 17)), some (15, false)⟩,
       ⟨some 19, .op (.fieldAddr 0 (.t 18)), some (15, false)⟩,
       ⟨some 20, .op (.ld1 (.t 19)), some (15, false)⟩,
       ⟨some 21, .op (.mv (.t 9)), some (15, false)⟩,
       ⟨some 22, .op (.idxAddr 5 (.t 20) (.t 21)), some (15, false)⟩,
       ⟨some 23, .op (.fieldAddr 1 (.t 22)), some (15, false)⟩,
       ⟨some 24, .op (.ld1 (.t 23)), some (15, false)⟩,
       ⟨some 25, .op (.bin .gtr (.t 16) (.t 24)), some (15, false)⟩,
       ⟨some 26, .pick (.t 15) (.c (.bool true)) (.t 25), none⟩]) (
     .cond (.t 26) (
      .seq (
       .reg [8] [
         ⟨some 8, .op (.mv (.c (.int .i64 11))), none⟩]) (
       .ret)) (
      .skip))) (
    .seq (
     .seq (
      .reg [0, 2, 7, 9, 36] [
        ⟨some 27, .op (.mv (.t 2)), none⟩,
        ⟨some 28, .op (.mv (.t 0)), none⟩,
        ⟨some 29, .op (.nilCheck (.t 28)), none⟩,
        ⟨some 30, .op (.fieldAddr 0 (.t 29)), none⟩,
        ⟨some 31, .op (.ld1 (.t 30)), none⟩,
        ⟨some 32, .op (.mv (.t 9)), none⟩,
        ⟨some 33, .op (.idxAddr 5 (.t 31) (.t 32)), none⟩,
        ⟨some 34, .op (.fieldAddr 2 (.t 33)), none⟩,
        ⟨some 35, .op (.ld1 (.t 34)), none⟩,
        ⟨some 36, .op (.bin .leq (.t 27) (.t 35)), none⟩]) (
      .cond (.t 36) (
       .seq (
        .reg [8] [
          ⟨some 8, .op (.mv (.c (.int .i64 40))), none⟩]) (
        .ret)) (
       .skip))) (
     .seq (
      .reg [0, 7, 9] [
        ⟨some 37, .op (.mv (.t 0)), none⟩,
        ⟨some 38, .op (.nilCheck (.t 37)), none⟩,
        ⟨some 39, .op (.fieldAddr 0 (.t 38)), none⟩,
        ⟨some 40, .op (.ld1 (.t 39)), none⟩,
        ⟨some 41, .op (.mv (.t 9)), none⟩,
        ⟨some 42, .op (.mv (.t 2)), none⟩,
        ⟨some 43, .op (.idxAddr 5 (.t 40) (.t 41)), none⟩,
        ⟨some 44, .op (.fieldAddr 2 (.t 43)), none⟩,
        ⟨none, .op (.st 1 (.t 44) (.t 42)), none⟩]) (
      .seq (
       .dreg [] [
         (⟨some 45, .op (.mv (.t 0)), none⟩, []),
         (⟨some 46, .op (.nilCheck (.t 45)), none⟩, []),
         (⟨some 47, .op (.fieldAddr 0 (.t 46)), none⟩, []),
         (⟨some 48, .op (.ld1 (.t 47)), none⟩, []),
         (⟨some 49, .op (.mv (.t 9)), none⟩, []),
         (⟨some 50, .op (.ldn 2 (.t 7)), none⟩, []),
         (⟨some 51, .op (.idxAddr 5 (.t 48) (.t 49)), none⟩, []),
         (⟨some 52, .op (.fieldAddr 3 (.t 51)), none⟩, []),
         (⟨none, .op (.st 2 (.t 52) (.t 50)), none⟩, [])]) (
       .seq (
        .reg [8] [
          ⟨some 8, .op (.mv (.c (.int .i64 0))), none⟩]) (
        .ret)))))))
theorem cf16 : compF Try.prog Try.f16 h16 = some (ac16, rs16) := by kernel_rfl

/-! (*mailcoach/mailcoachref15.Table).Forget params 1 -/
def h17 : Hints := ⟨[(8, []), (3, [0, 2, 3]), (7, [0, 2, 3]), (6, [0, 2, 3, 4, 26]), (5, [0, 2, 3, 4]), (4, [0, 2, 3, 4]), (2, [0, 2, 3, 11]), (1, [0, 2, 3]), (0, [0, 2])], [(2, [0, 2, 3])], []⟩
def rs17 : List ARes := []
def ac17 : ACode :=
 .seq (
  .reg [0, 2] [
    ⟨some 2, .op (.mv (.c (.nilsl))), none⟩]) (
  .seq (
   .seq (
    .reg [0, 2, 3] [
      ⟨some 3, .op (.mv (.c (.int .i64 0))), none⟩]) (
    .block 0 (
     .loop [0, 2, 3] (
      .seq (
       .seq (
        .reg [0, 2, 3, 11] [
          ⟨some 5, .op (.mv (.t 3)), none⟩,
          ⟨some 6, .op (.mv (.t 0)), none⟩,
          ⟨some 7, .op (.nilCheck (.t 6)), none⟩,
          ⟨some 8, .op (.fieldAddr 0 (.t 7)), none⟩,
          ⟨some 9, .op (.ld1 (.t 8)), none⟩,
          ⟨some 10, .op (.len 1 (.t 9)), none⟩,
          ⟨some 11, .op (.bin .lss (.t 5) (.t 10)), none⟩]) (
        .cond (.t 11) (
         .skip) (
         .exit 0))) (
       .seq (
        .block 1 (
         .seq (
          .reg [0, 2, 3, 4] [
            ⟨some 14, .op (.mv (.t 0)), none⟩,
            ⟨some 15, .op (.nilCheck (.t 14)), none⟩,
            ⟨some 16, .op (.fieldAddr 0 (.t 15)), none⟩,
            ⟨some 17, .op (.ld1 (.t 16)), none⟩,
            ⟨some 18, .op (.mv (.t 3)), none⟩,
            ⟨some 19, .op (.idxAddr 5 (.t 17) (.t 18)), none⟩,
            ⟨some 20, .op (.ldn 5 (.t 19)), none⟩,
            ⟨some 4, .op (.alloc [.str ⟨#[]⟩, .int .u64 0, .int .u64 0, .int .u64 0, .int .u64 0]), none⟩,
            ⟨none, .op (.st 5 (.t 4) (.t 20)), none⟩]) (
          .seq (
           .reg [0, 2, 3, 4] [
             ⟨some 21, .op (.fieldAddr 2 (.t 4)), none⟩,
             ⟨some 22, .op (.ld1 (.t 21)), none⟩,
             ⟨some 23, .op (.fieldAddr 1 (.t 4)), none⟩,
             ⟨none, .op (.st 1 (.t 23) (.t 22)), none⟩]) (
           .seq (
            .reg [0, 2, 3, 4, 26] [
              ⟨some 24, .op (.fieldAddr 2 (.t 4)), none⟩,
              ⟨some 25, .op (.ld1 (.t 24)), none⟩,
              ⟨some 26, .op (.bin .gtr (.t 25) (.c (.int .u64 0))), none⟩]) (
            .cond (.t 26) (
             .reg [0, 2, 3] [
               ⟨some 27, .op (.mv (.t 2)), none⟩,
               ⟨some 28, .op (.ldn 5 (.t 4)), none⟩,
               ⟨some 29, .op (.buildSl 5 [.str ⟨#[]⟩, .int .u64 0, .int .u64 0, .int .u64 0, .int .u64 0] 1 [(0, (.t 28))]), none⟩,
               ⟨some 30, .op (.append 5 48 (.t 27) (.t 29)), none⟩,
               ⟨some 2, .op (.mv (.t 30)), none⟩]) (
             .skip)))))) (
        .reg [0, 2, 3] [
          ⟨some 12, .op (.mv (.t 3)), none⟩,
          ⟨some 13, .op (.bin .add (.t 12) (.c (.int .i64 1))), none⟩,
          ⟨some 3, .op (.mv (.t 13)), none⟩])))))) (
   .reg [] [
     ⟨some 31, .op (.mv (.t 0)), none⟩,
     ⟨some 32, .op (.mv (.t 2)), none⟩,
     ⟨some 33, .op (.nilCheck (.t 31)), none⟩,
     ⟨some 34, .op (.fieldAddr 0 (.t 33)), none⟩,
     ⟨none, .op (.st 1 (.t 34) (.t 32)), none⟩]))
theorem cf17 : compF Try.prog Try.f17 h17 = some (ac17, rs17) := by kernel_rfl

/-! mailcoach/mailcoachref15.SameLines params 2 -/
def h18 : Hints := ⟨[(8, [4]), (5, [0, 1, 5]), (7, [4]), (6, [0, 1, 5, 25]), (4, [0, 1, 5, 14]), (3, [0, 1, 5]), (2, [4]), (1, [0, 1, 10]), (0, [0, 1])], [(4, [0, 1, 5])], [(6, [(0, []), (1, []), (2, []), (3, []), (4, []), (5, []), (6, []), (7, []), (8, [])])]⟩
def rs18 : List ARes := [.t 4]
def ac18 : ACode :=
 .seq (
  .reg [0, 1] [
    ⟨some 4, .op (.mv (.c (.bool false))), none⟩]) (
  .seq (
   .seq (
    .reg [0, 1, 10] [
      ⟨some 6, .op (.mv (.t 0)), none⟩,
      ⟨some 7, .op (.len 1 (.t 6)), none⟩,
      ⟨some 8, .op (.mv (.t 1)), none⟩,
      ⟨some 9, .op (.len 1 (.t 8)), none⟩,
      ⟨some 10, .op (.bin .neq (.t 7) (.t 9)), none⟩]) (
    .cond (.t 10) (
     .seq (
      .reg [4] [
        ⟨some 4, .op (.mv (.c (.bool false))), none⟩]) (
      .ret)) (
     .skip))) (
   .seq (
    .seq (
     .reg [0, 1, 5] [
       ⟨some 5, .op (.mv (.c (.int .i64 0))), none⟩]) (
     .block 0 (
      .loop [0, 1, 5] (
       .seq (
        .seq (
         .reg [0, 1, 5, 14] [
           ⟨some 11, .op (.mv (.t 5)), none⟩,
           ⟨some 12, .op (.mv (.t 0)), none⟩,
           ⟨some 13, .op (.len 1 (.t 12)), none⟩,
           ⟨some 14, .op (.bin .lss (.t 11) (.t 13)), none⟩]) (
         .cond (.t 14) (
          .skip) (
          .exit 0))) (
        .seq (
         .block 1 (
          .seq (
           .dreg [0, 1, 5, 25] [
             (⟨some 17, .op (.mv (.t 0)), none⟩, []),
             (⟨some 18, .op (.mv (.t 5)), none⟩, []),
             (⟨some 19, .op (.idxAddr 5 (.t 17) (.t 18)), none⟩, []),
             (⟨some 20, .op (.ldn 5 (.t 19)), none⟩, []),
             (⟨some 21, .op (.mv (.t 1)), none⟩, []),
             (⟨some 22, .op (.mv (.t 5)), none⟩, []),
             (⟨some 23, .op (.idxAddr 5 (.t 21) (.t 22)), none⟩, []),
             (⟨some 24, .op (.ldn 5 (.t 23)), none⟩, []),
             (⟨some 25, .op (.eqs true [2, 1, 1, 1, 1] (.t 20) (.t 24)), none⟩, [])]) (
           .cond (.t 25) (
            .seq (
             .reg [4] [
               ⟨some 4, .op (.mv (.c (.bool false))), none⟩]) (
             .ret)) (
            .skip)))) (
         .reg [0, 1, 5] [
           ⟨some 15, .op (.mv (.t 5)), none⟩,
           ⟨some 16, .op (.bin .add (.t 15) (.c (.int .i64 1))), none⟩,
           ⟨some 5, .op (.mv (.t 16)), none⟩])))))) (
    .seq (
     .reg [4] [
       ⟨some 4, .op (.mv (.c (.bool true))), none⟩]) (
     .ret))))
theorem cf18 : compF Try.prog Try.f18 h18 = some (ac18, rs18) := by kernel_rfl

/-! (*mailcoach/mailcoachref15.Table).All params 1 -/
def h19 : Hints := ⟨[(9, [2]), (4, [0, 3, 4]), (8, [0, 3, 4]), (7, [0, 3, 4, 5]), (6, [0, 3, 4, 5, 34]), (5, [0, 3, 4, 5]), (3, [0, 3, 4, 12]), (2, [0, 3, 4]), (1, [0, 3]), (0, [0])], [(6, [0, 3, 4, 5]), (3, [0, 3, 4])], [(6, [(0, []), (1, []), (2, []), (3, []), (4, []), (5, []), (6, []), (7, []), (8, []), (9, []), (10, []), (11, []), (12, []), (13, []), (14, []), (15, []), (16, []), (17, []), (18, []), (19, [])]), (8, [(0, []), (1, []), (2, []), (3, []), (4, []), (5, []), (6, []), (7, []), (8, []), (9, []), (10, []), (11, []), (12, []), (13, []), (14, []), (15, [3]), (16, []), (17, [])])]⟩
def rs19 : List ARes := [.t 2]
def ac19 : ACode :=
 .seq (
  .reg [0] [
    ⟨some 2, .op (.mv (.c (.nilsl))), none⟩]) (
  .seq (
   .reg [0, 3] [
     ⟨some 3, .op (.mv (.c (.nilsl))), none⟩]) (
   .seq (
    .seq (
     .reg [0, 3, 4] [
       ⟨some 4, .op (.mv (.c (.int .i64 0))), none⟩]) (
     .block 0 (
      .loop [0, 3, 4] (
       .seq (
        .seq (
         .reg [0, 3, 4, 12] [
           ⟨some 6, .op (.mv (.t 4)), none⟩,
           ⟨some 7, .op (.mv (.t 0)), none⟩,
           ⟨some 8, .op (.nilCheck (.t 7)), none⟩,
           ⟨some 9, .op (.fieldAddr 0 (.t 8)), none⟩,
           ⟨some 10, .op (.ld1 (.t 9)), none⟩,
           ⟨some 11, .op (.len 1 (.t 10)), none⟩,
           ⟨some 12, .op (.bin .lss (.t 6) (.t 11)), none⟩]) (
         .cond (.t 12) (
          .skip) (
          .exit 0))) (
        .seq (
         .block 1 (
          .seq (
           .reg [0, 3, 4, 5] [
             ⟨some 5, .op (.mv (.c (.int .i64 0))), none⟩]) (
           .seq (
            .block 2 (
             .loop [0, 3, 4, 5] (
              .seq (
               .seq (
                .dreg [0, 3, 4, 5, 34] [
                  (⟨some 15, .op (.mv (.t 5)), none⟩, []),
                  (⟨some 16, .op (.mv (.t 3)), none⟩, []),
                  (⟨some 17, .op (.len 1 (.t 16)), none⟩, []),
                  (⟨some 18, .op (.bin .lss (.t 15) (.t 17)), none⟩, []),
                  (⟨some 19, .op (.mv (.t 18)), none⟩, []),
                  (⟨some 20, .op (.mv (.t 3)), some (19, true)⟩, []),
                  (⟨some 21, .op (.mv (.t 5)), some (19, true)⟩, []),
                  (⟨some 22, .op (.idxAddr 5 (.t 20) (.t 21)), some (19, true)⟩, []),
                  (⟨some 23, .op (.fieldAddr 0 (.t 22)), some (19, true)⟩, []),
                  (⟨some 24, .op (.ld1 (.t 23)), some (19, true)⟩, []),
                  (⟨some 25, .op (.mv (.t 0)), some (19, true)⟩, []),
                  (⟨some 26, .op (.nilCheck (.t 25)), some (19, true)⟩, []),
                  (⟨some 27, .op (.fieldAddr 0 (.t 26)), some (19, true)⟩, []),
                  (⟨some 28, .op (.ld1 (.t 27)), some (19, true)⟩, []),
                  (⟨some 29, .op (.mv (.t 4)), some (19, true)⟩, []),
                  (⟨some 30, .op (.idxAddr 5 (.t 28) (.t 29)), some (19, true)⟩, []),
                  (⟨some 31, .op (.fieldAddr 0 (.t 30)), some (19, true)⟩, []),
                  (⟨some 32, .op (.ld1 (.t 31)), some (19, true)⟩, []),
                  (⟨some 33, .op (.bin .lss (.t 24) (.t 32)), some (19, true)⟩, []),
                  (⟨some 34, .pick (.t 19) (.t 33) (.c (.bool false)), none⟩, [])]) (
                .cond (.t 34) (
                 .skip) (
                 .exit 2))) (
               .block 3 (
                .reg [0, 3, 4, 5] [
                  ⟨some 35, .op (.mv (.t 5)), none⟩,
                  ⟨some 36, .op (.bin .add (.t 35) (.c (.int .i64 1))), none⟩,
                  ⟨some 5, .op (.mv (.t 36)), none⟩]))))) (
            .dreg [0, 3, 4] [
              (⟨some 37, .op (.mv (.t 3)), none⟩, []),
              (⟨some 38, .op (.mv (.t 5)), none⟩, []),
              (⟨some 39, .op (.mv (.t 5)), none⟩, []),
              (⟨some 40, .op (.slice 5 (.t 37) none (some (.t 38)) (some (.t 39))), none⟩, []),
              (⟨some 41, .op (.mv (.t 0)), none⟩, []),
              (⟨some 42, .op (.nilCheck (.t 41)), none⟩, []),
              (⟨some 43, .op (.fieldAddr 0 (.t 42)), none⟩, []),
              (⟨some 44, .op (.ld1 (.t 43)), none⟩, []),
              (⟨some 45, .op (.mv (.t 4)), none⟩, []),
              (⟨some 46, .op (.idxAddr 5 (.t 44) (.t 45)), none⟩, []),
              (⟨some 47, .op (.ldn 5 (.t 46)), none⟩, []),
              (⟨some 48, .op (.buildSl 5 [.str ⟨#[]⟩, .int .u64 0, .int .u64 0, .int .u64 0, .int .u64 0] 1 [(0, (.t 47))]), none⟩, []),
              (⟨some 49, .op (.mv (.t 3)), none⟩, []),
              (⟨some 50, .op (.mv (.t 5)), none⟩, []),
              (⟨some 51, .op (.slice 5 (.t 49) (some (.t 50)) none none), none⟩, []),
              (⟨some 52, .op (.append 5 48 (.t 48) (.t 51)), none⟩, [3]),
              (⟨some 53, .op (.append 5 48 (.t 40) (.t 52)), none⟩, []),
              (⟨some 3, .op (.mv (.t 53)), none⟩, [])])))) (
         .reg [0, 3, 4] [
           ⟨some 13, .op (.mv (.t 4)), none⟩,
           ⟨some 14, .op (.bin .add (.t 13) (.c (.int .i64 1))), none⟩,
           ⟨some 4, .op (.mv (.t 14)), none⟩])))))) (
    .seq (
     .reg [2] [
       ⟨some 54, .op (.mv (.t 3)), none⟩,
       ⟨some 2, .op (.mv (.t 54)), none⟩]) (
     .ret))))
theorem cf19 : compF Try.prog Try.f19 h19 = some (ac19, rs19) := by kernel_rfl

/-! mailcoach/mailcoachlaw15.bytes params 1 -/
def h20 : Hints := ⟨[(3, [2]), (2, [3]), (1, [0, 3]), (0, [0])], [], []⟩
def rs20 : List ARes := [.t 2]
def ac20 : ACode :=
 .seq (
  .reg [0] [
    ⟨some 2, .op (.mv (.c (.nilsl))), none⟩]) (
  .seq (
   .reg [0, 3] [
     ⟨some 4, .op (.build [.nilsl] []), none⟩,
     ⟨some 5, .op (.box (.t 4)), none⟩,
     ⟨some 3, .op (.mv (.t 5)), none⟩]) (
   .seq (
    .reg [3] [
      ⟨some 6, .op (.mv (.t 0)), none⟩,
      ⟨some 7, .op (.mv (.t 3)), none⟩,
      ⟨some 8, .call (.c (.fn 29 [] [])) [(.t 6), (.t 7)], none⟩]) (
    .seq (
     .reg [2] [
       ⟨some 9, .op (.mv (.t 3)), none⟩,
       ⟨some 10, .call (.c (.fn 13 [] [])) [(.t 9)], none⟩,
       ⟨some 2, .op (.mv (.t 10)), none⟩]) (
     .ret))))
theorem cf20 : compF Try.prog Try.f20 h20 = some (ac20, rs20) := by kernel_rfl

/-! (*mailcoach/mailcoachref15.Table).Bytes params 2 -/
def h21 : Hints := ⟨[(14, [4]), (11, [1, 5, 8]), (13, [1, 5, 8]), (12, [1, 5, 8]), (10, [1, 5, 8, 38]), (9, [1, 5, 8]), (8, [1, 5]), (5, [1, 5, 6, 7]), (7, [1, 5, 6, 7]), (6, [1, 5, 6, 7, 22]), (4, [1, 5, 6, 7, 14]), (3, [1, 5, 6, 7]), (2, [1, 5, 6]), (1, [0, 1, 5]), (0, [0, 1])], [(10, [1, 5, 8]), (4, [1, 5, 6, 7])], [(13, [(0, []), (1, []), (2, []), (3, []), (4, []), (5, []), (7, []), (8, []), (9, []), (10, []), (11, []), (12, []), (14, []), (15, []), (16, []), (17, []), (18, []), (19, []), (6, [11, 17]), (13, [17]), (20, []), (21, [])])]⟩
def rs21 : List ARes := [.t 4]
def ac21 : ACode :=
 .seq (
  .reg [0, 1] [
    ⟨some 4, .op (.mv (.c (.nilsl))), none⟩]) (
  .seq (
   .reg [0, 1, 5] [
     ⟨some 5, .op (.mv (.c (.nilsl))), none⟩]) (
   .seq (
    .reg [1, 5, 6] [
      ⟨some 9, .op (.mv (.t 0)), none⟩,
      ⟨some 10, .call (.c (.fn 19 [] [])) [(.t 9)], none⟩,
      ⟨some 6, .op (.mv (.t 10)), none⟩]) (
    .seq (
     .seq (
      .reg [1, 5, 6, 7] [
        ⟨some 7, .op (.mv (.c (.int .i64 0))), none⟩]) (
      .block 0 (
       .loop [1, 5, 6, 7] (
        .seq (
         .seq (
          .reg [1, 5, 6, 7, 14] [
            ⟨some 11, .op (.mv (.t 7)), none⟩,
            ⟨some 12, .op (.mv (.t 6)), none⟩,
            ⟨some 13, .op (.len 1 (.t 12)), none⟩,
            ⟨some 14, .op (.bin .lss (.t 11) (.t 13)), none⟩]) (
          .cond (.t 14) (
           .skip) (
           .exit 0))) (
         .seq (
          .block 1 (
           .seq (
            .reg [1, 5, 6, 7, 22] [
              ⟨some 17, .op (.mv (.t 6)), none⟩,
              ⟨some 18, .op (.mv (.t 7)), none⟩,
              ⟨some 19, .op (.idxAddr 5 (.t 17) (.t 18)), none⟩,
              ⟨some 20, .op (.fieldAddr 2 (.t 19)), none⟩,
              ⟨some 21, .op (.ld1 (.t 20)), none⟩,
              ⟨some 22, .op (.bin .gtr (.t 21) (.c (.int .u64 0))), none⟩]) (
            .cond (.t 22) (
             .reg [1, 5, 6, 7] [
               ⟨some 23, .op (.mv (.t 5)), none⟩,
               ⟨some 24, .op (.mv (.t 6)), none⟩,
               ⟨some 25, .op (.mv (.t 7)), none⟩,
               ⟨some 26, .op (.idxAddr 5 (.t 24) (.t 25)), none⟩,
               ⟨some 27, .op (.ldn 5 (.t 26)), none⟩,
               ⟨some 28, .op (.buildSl 5 [.str ⟨#[]⟩, .int .u64 0, .int .u64 0, .int .u64 0, .int .u64 0] 1 [(0, (.t 27))]), none⟩,
               ⟨some 29, .op (.append 5 48 (.t 23) (.t 28)), none⟩,
               ⟨some 5, .op (.mv (.t 29)), none⟩]) (
             .skip)))) (
          .reg [1, 5, 6, 7] [
            ⟨some 15, .op (.mv (.t 7)), none⟩,
            ⟨some 16, .op (.bin .add (.t 15) (.c (.int .i64 1))), none⟩,
            ⟨some 7, .op (.mv (.t 16)), none⟩])))))) (
     .seq (
      .reg [1, 5] [
        ⟨some 30, .op (.mv (.t 1)), none⟩,
        ⟨some 31, .op (.mv (.t 5)), none⟩,
        ⟨some 32, .op (.len 1 (.t 31)), none⟩,
        ⟨some 33, .op (.toInt .u64 (.t 32)), none⟩,
        ⟨some 34, .call (.c (.fn 30 [] [])) [(.t 30), (.t 33), (.c (.int .i64 1))], none⟩,
        ⟨some 1, .op (.mv (.t 34)), none⟩]) (
      .seq (
       .seq (
        .reg [1, 5, 8] [
          ⟨some 8, .op (.mv (.c (.int .i64 0))), none⟩]) (
        .block 2 (
         .loop [1, 5, 8] (
          .seq (
           .seq (
            .reg [1, 5, 8, 38] [
              ⟨some 35, .op (.mv (.t 8)), none⟩,
              ⟨some 36, .op (.mv (.t 5)), none⟩,
              ⟨some 37, .op (.len 1 (.t 36)), none⟩,
              ⟨some 38, .op (.bin .lss (.t 35) (.t 37)), none⟩]) (
            .cond (.t 38) (
             .skip) (
             .exit 2))) (
           .seq (
            .block 3 (
             .seq (
              .reg [1, 5, 8] [
                ⟨some 41, .op (.mv (.t 1)), none⟩,
                ⟨some 42, .op (.mv (.t 5)), none⟩,
                ⟨some 43, .op (.mv (.t 8)), none⟩,
                ⟨some 44, .op (.idxAddr 5 (.t 42) (.t 43)), none⟩,
                ⟨some 45, .op (.fieldAddr 0 (.t 44)), none⟩,
                ⟨some 46, .op (.ld1 (.t 45)), none⟩,
                ⟨some 47, .op (.strBytes (.t 46)), none⟩,
                ⟨some 48, .call (.c (.fn 31 [] [])) [(.t 41), (.t 47)], none⟩,
                ⟨some 1, .op (.mv (.t 48)), none⟩]) (
              .dreg [1, 5, 8] [
                (⟨some 49, .op (.mv (.t 1)), none⟩, []),
                (⟨some 50, .op (.mv (.t 5)), none⟩, []),
                (⟨some 51, .op (.mv (.t 8)), none⟩, []),
                (⟨some 52, .op (.idxAddr 5 (.t 50) (.t 51)), none⟩, []),
                (⟨some 53, .op (.fieldAddr 2 (.t 52)), none⟩, []),
                (⟨some 54, .op (.ld1 (.t 53)), none⟩, []),
                (⟨some 56, .op (.mv (.t 5)), none⟩, []),
                (⟨some 57, .op (.mv (.t 8)), none⟩, []),
                (⟨some 58, .op (.idxAddr 5 (.t 56) (.t 57)), none⟩, []),
                (⟨some 59, .op (.fieldAddr 3 (.t 58)), none⟩, []),
                (⟨some 60, .op (.fieldAddr 0 (.t 59)), none⟩, []),
                (⟨some 61, .op (.ld1 (.t 60)), none⟩, []),
                (⟨some 63, .op (.mv (.t 5)), none⟩, []),
                (⟨some 64, .op (.mv (.t 8)), none⟩, []),
                (⟨some 65, .op (.idxAddr 5 (.t 63) (.t 64)), none⟩, []),
                (⟨some 66, .op (.fieldAddr 3 (.t 65)), none⟩, []),
                (⟨some 67, .op (.fieldAddr 1 (.t 66)), none⟩, []),
                (⟨some 68, .op (.ld1 (.t 67)), none⟩, []),
                (⟨some 55, .call (.c (.fn 30 [] [])) [(.t 49), (.t 54), (.c (.int .i64 8))], none⟩, [11, 17]),
                (⟨some 62, .call (.c (.fn 30 [] [])) [(.t 55), (.t 61), (.c (.int .i64 8))], none⟩, [17]),
                (⟨some 69, .call (.c (.fn 30 [] [])) [(.t 62), (.t 68), (.c (.int .i64 8))], none⟩, []),
                (⟨some 1, .op (.mv (.t 69)), none⟩, [])]))) (
            .reg [1, 5, 8] [
              ⟨some 39, .op (.mv (.t 8)), none⟩,
              ⟨some 40, .op (.bin .add (.t 39) (.c (.int .i64 1))), none⟩,
              ⟨some 8, .op (.mv (.t 40)), none⟩])))))) (
       .seq (
        .reg [4] [
          ⟨some 70, .op (.mv (.t 1)), none⟩,
          ⟨some 4, .op (.mv (.t 70)), none⟩]) (
        .ret)))))))
theorem cf21 : compF Try.prog Try.f21 h21 = some (ac21, rs21) := by kernel_rfl

/-! mailcoach/mailcoachlaw15.has params 2 -/
def h22 : Hints := ⟨[(7, [4]), (6, [1, 10, 11, 12]), (5, [4]), (4, [1, 10, 11, 12, 19]), (3, [1, 6, 10, 11, 12]), (2, [1, 10, 11, 12, 13]), (1, [1, 10, 11, 12]), (0, [0, 1])], [(2, [1, 10, 11, 12])], []⟩
def rs22 : List ARes := [.t 4]
def ac22 : ACode :=
 .seq (
  .reg [0, 1] [
    ⟨some 4, .op (.mv (.c (.bool false))), none⟩]) (
  .seq (
   .seq (
    .reg [1, 10, 11, 12] [
      ⟨some 7, .op (.mv (.t 0)), none⟩,
      ⟨some 8, .op (.nilCheck (.t 7)), none⟩,
      ⟨some 9, .op (.fieldAddr 0 (.t 8)), none⟩,
      ⟨some 10, .op (.ld1 (.t 9)), none⟩,
      ⟨some 11, .op (.len 1 (.t 10)), none⟩,
      ⟨some 12, .op (.mv (.c (.int .i64 0))), none⟩]) (
    .block 0 (
     .loop [1, 10, 11, 12] (
      .seq (
       .reg [1, 10, 11, 12, 13] [
         ⟨some 13, .op (.bin .lss (.t 12) (.t 11)), none⟩]) (
       .seq (
        .cond (.t 13) (
         .skip) (
         .exit 0)) (
        .seq (
         .block 1 (
          .seq (
           .reg [1, 6, 10, 11, 12] [
             ⟨some 14, .op (.idxAddr 5 (.t 10) (.t 12)), none⟩,
             ⟨some 15, .op (.ldn 5 (.t 14)), none⟩,
             ⟨some 6, .op (.alloc [.str ⟨#[]⟩, .int .u64 0, .int .u64 0, .int .u64 0, .int .u64 0]), none⟩,
             ⟨none, .op (.st 5 (.t 6) (.t 15)), none⟩]) (
           .seq (
            .reg [1, 10, 11, 12, 19] [
              ⟨some 16, .op (.fieldAddr 0 (.t 6)), none⟩,
              ⟨some 17, .op (.ld1 (.t 16)), none⟩,
              ⟨some 18, .op (.mv (.t 1)), none⟩,
              ⟨some 19, .op (.bin .eql (.t 17) (.t 18)), none⟩]) (
            .cond (.t 19) (
             .seq (
              .reg [4] [
                ⟨some 4, .op (.mv (.c (.bool true))), none⟩]) (
              .ret)) (
             .skip))))) (
         .reg [1, 10, 11, 12] [
           ⟨some 20, .op (.bin .add (.t 12) (.c (.int .i64 1))), none⟩,
           ⟨some 12, .op (.mv (.t 20)), none⟩]))))))) (
   .seq (
    .reg [4] [
      ⟨some 4, .op (.mv (.c (.bool false))), none⟩]) (
    .ret)))
theorem cf22 : compF Try.prog Try.f22 h22 = some (ac22, rs22) := by kernel_rfl

/-! slices.SortedFunc[mailcoach/api.Line] params 2 -/
def h23 : Hints := ⟨[(3, [4]), (2, [5]), (1, [1, 5]), (0, [0, 1])], [], []⟩
def rs23 : List ARes := [.t 4]
def ac23 : ACode :=
 .seq (
  .reg [0, 1] [
    ⟨some 4, .op (.mv (.c (.nilsl))), none⟩]) (
  .seq (
   .reg [1, 5] [
     ⟨some 6, .op (.mv (.t 0)), none⟩,
     ⟨some 7, .call (.c (.fn 32 [] [])) [(.t 6)], none⟩,
     ⟨some 5, .op (.mv (.t 7)), none⟩]) (
   .seq (
    .reg [5] [
      ⟨some 8, .op (.mv (.t 5)), none⟩,
      ⟨some 9, .op (.mv (.t 1)), none⟩,
      ⟨some 10, .call (.c (.fn 33 [] [])) [(.t 8), (.t 9)], none⟩]) (
    .seq (
     .reg [4] [
       ⟨some 11, .op (.mv (.t 5)), none⟩,
       ⟨some 4, .op (.mv (.t 11)), none⟩]) (
     .ret))))
theorem cf23 : compF Try.prog Try.f23 h23 = some (ac23, rs23) := by kernel_rfl

/-! maps.Values[map[string]mailcoach/api.Line,string,mailcoach/api.Line] params 1 -/
def h24 : Hints := ⟨[(1, [2]), (0, [1])], [], []⟩
def rs24 : List ARes := [.t 2]
def ac24 : ACode :=
 .seq (
  .reg [1] [
    ⟨some 1, .op (.box (.t 0)), none⟩,
    ⟨some 2, .op (.mv (.c (.nilfn))), none⟩]) (
  .seq (
   .reg [2] [
     ⟨some 3, .op (.mkfn 34 [] [(.t 1)]), none⟩,
     ⟨some 2, .op (.mv (.t 3)), none⟩]) (
   .ret))
theorem cf24 : compF Try.prog Try.f24 h24 = some (ac24, rs24) := by kernel_rfl

/-! (*mailcoach/dedup.Table).All$1 params 2 -/
def h25 : Hints := ⟨[(1, [4]), (0, [2, 3])], [], []⟩
def rs25 : List ARes := [.t 4]
def ac25 : ACode :=
 .seq (
  .reg [2, 3] [
    ⟨some 2, .op (.box (.t 0)), none⟩,
    ⟨some 3, .op (.box (.t 1)), none⟩,
    ⟨some 4, .op (.mv (.c (.int .i64 0))), none⟩]) (
  .seq (
   .reg [4] [
     ⟨some 5, .op (.fieldAddr 0 (.t 2)), none⟩,
     ⟨some 6, .op (.ld1 (.t 5)), none⟩,
     ⟨some 7, .op (.fieldAddr 0 (.t 3)), none⟩,
     ⟨some 8, .op (.ld1 (.t 7)), none⟩,
     ⟨some 9, .call (.c (.fn 26 [] [])) [(.t 6), (.t 8)], none⟩,
     ⟨some 4, .op (.mv (.t 9)), none⟩]) (
   .ret))
theorem cf25 : compF Try.prog Try.f25 h25 = some (ac25, rs25) := by kernel_rfl

/-! cmp.Compare[string] params 2 -/
def h26 : Hints := ⟨[(13, [4]), (12, [4]), (11, [19]), (10, [4]), (9, [0, 1, 16]), (8, [4]), (7, [0, 1, 13]), (6, [4]), (5, [4]), (4, [12]), (3, [0, 1, 6, 11]), (2, [0, 1, 5, 6]), (1, [0, 1, 5]), (0, [0, 1])], [], []⟩
def rs26 : List ARes := [.t 4]
def ac26 : ACode :=
 .seq (
  .reg [0, 1] [
    ⟨some 4, .op (.mv (.c (.int .i64 0))), none⟩]) (
  .seq (
   .reg [0, 1, 5] [
     ⟨some 7, .op (.mv (.t 0)), none⟩,
     ⟨some 8, .call (.c (.fn 35 [] [])) [(.t 7)], none⟩,
     ⟨some 5, .op (.mv (.t 8)), none⟩]) (
   .seq (
    .reg [0, 1, 5, 6] [
      ⟨some 9, .op (.mv (.t 1)), none⟩,
      ⟨some 10, .call (.c (.fn 35 [] [])) [(.t 9)], none⟩,
      ⟨some 6, .op (.mv (.t 10)), none⟩]) (
    .seq (
     .seq (
      .reg [0, 1, 6, 11] [
        ⟨some 11, .op (.mv (.t 5)), none⟩]) (
      .cond (.t 11) (
       .seq (
        .seq (
         .reg [12] [
           ⟨some 12, .op (.mv (.t 6)), none⟩]) (
         .cond (.t 12) (
          .seq (
           .reg [4] [
             ⟨some 4, .op (.mv (.c (.int .i64 0))), none⟩]) (
           .ret)) (
          .skip))) (
        .seq (
         .reg [4] [
           ⟨some 4, .op (.mv (.c (.int .i64 (-1)))), none⟩]) (
         .ret))) (
       .skip))) (
     .seq (
      .seq (
       .reg [0, 1, 13] [
         ⟨some 13, .op (.mv (.t 6)), none⟩]) (
       .cond (.t 13) (
        .seq (
         .reg [4] [
           ⟨some 4, .op (.mv (.c (.int .i64 1))), none⟩]) (
         .ret)) (
        .skip))) (
      .seq (
       .seq (
        .reg [0, 1, 16] [
          ⟨some 14, .op (.mv (.t 0)), none⟩,
          ⟨some 15, .op (.mv (.t 1)), none⟩,
          ⟨some 16, .op (.bin .lss (.t 14) (.t 15)), none⟩]) (
        .cond (.t 16) (
         .seq (
          .reg [4] [
            ⟨some 4, .op (.mv (.c (.int .i64 (-1)))), none⟩]) (
          .ret)) (
         .skip))) (
       .seq (
        .seq (
         .reg [19] [
           ⟨some 17, .op (.mv (.t 0)), none⟩,
           ⟨some 18, .op (.mv (.t 1)), none⟩,
           ⟨some 19, .op (.bin .gtr (.t 17) (.t 18)), none⟩]) (
         .cond (.t 19) (
          .seq (
           .reg [4] [
             ⟨some 4, .op (.mv (.c (.int .i64 1))), none⟩]) (
           .ret)) (
          .skip))) (
        .seq (
         .reg [4] [
           ⟨some 4, .op (.mv (.c (.int .i64 0))), none⟩]) (
         .ret))))))))
theorem cf26 : compF Try.prog Try.f26 h26 = some (ac26, rs26) := by kernel_rfl

/-! slices.Clone[[]byte,byte] params 1 -/
def h27 : Hints := ⟨[(3, [2]), (2, [2]), (1, [0, 4]), (0, [0])], [], []⟩
def rs27 : List ARes := [.t 2]
def ac27 : ACode :=
 .seq (
  .reg [0] [
    ⟨some 2, .op (.mv (.c (.nilsl))), none⟩]) (
  .seq (
   .seq (
    .reg [0, 4] [
      ⟨some 3, .op (.mv (.t 0)), none⟩,
      ⟨some 4, .op (.eqn 1 false (.t 3) (.c (.nilsl))), none⟩]) (
    .cond (.t 4) (
     .seq (
      .reg [2] [
        ⟨some 2, .op (.mv (.c (.nilsl))), none⟩]) (
      .ret)) (
     .skip))) (
   .seq (
    .reg [2] [
      ⟨some 5, .op (.buildSl 1 [.int .u8 0] 0 []), none⟩,
      ⟨some 6, .op (.mv (.t 0)), none⟩,
      ⟨some 7, .op (.append 1 1 (.t 5) (.t 6)), none⟩,
      ⟨some 2, .op (.mv (.t 7)), none⟩]) (
    .ret)))
theorem cf27 : compF Try.prog Try.f27 h27 = some (ac27, rs27) := by kernel_rfl

/-! (*mailcoach/mailcoachref15.Table).at params 2 -/
def h28 : Hints := ⟨[(6, [4]), (3, [0, 1, 5]), (5, [4]), (4, [0, 1, 5, 24]), (2, [0, 1, 5, 12]), (1, [0, 1, 5]), (0, [0, 1])], [(2, [0, 1, 5])], []⟩
def rs28 : List ARes := [.t 4]
def ac28 : ACode :=
 .seq (
  .reg [0, 1] [
    ⟨some 4, .op (.mv (.c (.int .i64 0))), none⟩]) (
  .seq (
   .seq (
    .reg [0, 1, 5] [
      ⟨some 5, .op (.mv (.c (.int .i64 0))), none⟩]) (
    .block 0 (
     .loop [0, 1, 5] (
      .seq (
       .seq (
        .reg [0, 1, 5, 12] [
          ⟨some 6, .op (.mv (.t 5)), none⟩,
          ⟨some 7, .op (.mv (.t 0)), none⟩,
          ⟨some 8, .op (.nilCheck (.t 7)), none⟩,
          ⟨some 9, .op (.fieldAddr 0 (.t 8)), none⟩,
          ⟨some 10, .op (.ld1 (.t 9)), none⟩,
          ⟨some 11, .op (.len 1 (.t 10)), none⟩,
          ⟨some 12, .op (.bin .lss (.t 6) (.t 11)), none⟩]) (
        .cond (.t 12) (
         .skip) (
         .exit 0))) (
       .seq (
        .block 1 (
         .seq (
          .reg [0, 1, 5, 24] [
            ⟨some 15, .op (.mv (.t 0)), none⟩,
            ⟨some 16, .op (.nilCheck (.t 15)), none⟩,
            ⟨some 17, .op (.fieldAddr 0 (.t 16)), none⟩,
            ⟨some 18, .op (.ld1 (.t 17)), none⟩,
            ⟨some 19, .op (.mv (.t 5)), none⟩,
            ⟨some 20, .op (.idxAddr 5 (.t 18) (.t 19)), none⟩,
            ⟨some 21, .op (.fieldAddr 0 (.t 20)), none⟩,
            ⟨some 22, .op (.ld1 (.t 21)), none⟩,
            ⟨some 23, .op (.mv (.t 1)), none⟩,
            ⟨some 24, .op (.bin .eql (.t 22) (.t 23)), none⟩]) (
          .cond (.t 24) (
           .seq (
            .reg [4] [
              ⟨some 25, .op (.mv (.t 5)), none⟩,
              ⟨some 4, .op (.mv (.t 25)), none⟩]) (
            .ret)) (
           .skip)))) (
        .reg [0, 1, 5] [
          ⟨some 13, .op (.mv (.t 5)), none⟩,
          ⟨some 14, .op (.bin .add (.t 13) (.c (.int .i64 1))), none⟩,
          ⟨some 5, .op (.mv (.t 14)), none⟩])))))) (
   .seq (
    .reg [4] [
      ⟨some 4, .op (.mv (.c (.int .i64 (-1)))), none⟩]) (
    .ret)))
theorem cf28 : compF Try.prog Try.f28 h28 = some (ac28, rs28) := by kernel_rfl

/-! (*mailcoach/dedup.Table).Write params 2 -/
def h29 : Hints := ⟨[(15, [1, 29, 30, 31]), (14, [1, 29, 30, 31]), (13, [1, 8, 29, 30, 31]), (12, [1, 8, 29, 30, 31]), (11, [1, 8, 29, 30, 31]), (10, [1, 8, 29, 30, 31]), (9, [1, 29, 30, 31, 32]), (8, [1, 29, 30, 31]), (7, [1, 4]), (6, [1, 4, 10, 11, 12]), (5, [1, 4, 10, 11, 12]), (4, [1, 4, 6, 10, 11, 12, 18]), (3, [1, 4, 6, 10, 11, 12]), (2, [1, 4, 10, 11, 12, 13]), (1, [1, 4, 10, 11, 12]), (0, [0, 1, 4])], [(9, [1, 29, 30, 31]), (2, [1, 4, 10, 11, 12])], []⟩
def rs29 : List ARes := []
def ac29 : ACode :=
 .seq (
  .reg [0, 1, 4] [
    ⟨some 4, .op (.mv (.c (.nilsl))), none⟩]) (
  .seq (
   .seq (
    .reg [1, 4, 10, 11, 12] [
      ⟨some 9, .op (.mv (.t 0)), none⟩,
      ⟨some 10, .call (.c (.fn 12 [] [])) [(.t 9)], none⟩,
      ⟨some 11, .op (.len 1 (.t 10)), none⟩,
      ⟨some 12, .op (.mv (.c (.int .i64 0))), none⟩]) (
    .block 0 (
     .loop [1, 4, 10, 11, 12] (
      .seq (
       .reg [1, 4, 10, 11, 12, 13] [
         ⟨some 13, .op (.bin .lss (.t 12) (.t 11)), none⟩]) (
       .seq (
        .cond (.t 13) (
         .skip) (
         .exit 0)) (
        .seq (
         .block 1 (
          .seq (
           .reg [1, 4, 6, 10, 11, 12] [
             ⟨some 14, .op (.idxAddr 5 (.t 10) (.t 12)), none⟩,
             ⟨some 15, .op (.ldn 5 (.t 14)), none⟩,
             ⟨some 6, .op (.alloc [.str ⟨#[]⟩, .int .u64 0, .int .u64 0, .int .u64 0, .int .u64 0]), none⟩,
             ⟨none, .op (.st 5 (.t 6) (.t 15)), none⟩]) (
           .seq (
            .reg [1, 4, 6, 10, 11, 12, 18] [
              ⟨some 16, .op (.fieldAddr 2 (.t 6)), none⟩,
              ⟨some 17, .op (.ld1 (.t 16)), none⟩,
              ⟨some 18, .op (.bin .gtr (.t 17) (.c (.int .u64 0))), none⟩]) (
            .cond (.t 18) (
             .reg [1, 4, 10, 11, 12] [
               ⟨some 19, .op (.mv (.t 4)), none⟩,
               ⟨some 20, .op (.ldn 5 (.t 6)), none⟩,
               ⟨some 21, .op (.buildSl 5 [.str ⟨#[]⟩, .int .u64 0, .int .u64 0, .int .u64 0, .int .u64 0] 1 [(0, (.t 20))]), none⟩,
               ⟨some 22, .op (.append 5 48 (.t 19) (.t 21)), none⟩,
               ⟨some 4, .op (.mv (.t 22)), none⟩]) (
             .skip))))) (
         .reg [1, 4, 10, 11, 12] [
           ⟨some 23, .op (.bin .add (.t 12) (.c (.int .i64 1))), none⟩,
           ⟨some 12, .op (.mv (.t 23)), none⟩]))))))) (
   .seq (
    .reg [1, 4] [
      ⟨some 24, .op (.mv (.t 1)), none⟩,
      ⟨some 25, .op (.mv (.t 4)), none⟩,
      ⟨some 26, .op (.len 1 (.t 25)), none⟩,
      ⟨some 27, .op (.toInt .u8 (.t 26)), none⟩,
      ⟨some 28, .call (.c (.fn 36 [] [])) [(.t 24), (.t 27)], none⟩]) (
    .seq (
     .reg [1, 29, 30, 31] [
       ⟨some 29, .op (.mv (.t 4)), none⟩,
       ⟨some 30, .op (.len 1 (.t 29)), none⟩,
       ⟨some 31, .op (.mv (.c (.int .i64 0))), none⟩]) (
     .block 2 (
      .loop [1, 29, 30, 31] (
       .seq (
        .reg [1, 29, 30, 31, 32] [
          ⟨some 32, .op (.bin .lss (.t 31) (.t 30)), none⟩]) (
        .seq (
         .cond (.t 32) (
          .skip) (
          .exit 2)) (
         .seq (
          .block 3 (
           .seq (
            .reg [1, 8, 29, 30, 31] [
              ⟨some 33, .op (.idxAddr 5 (.t 29) (.t 31)), none⟩,
              ⟨some 34, .op (.ldn 5 (.t 33)), none⟩,
              ⟨some 8, .op (.alloc [.str ⟨#[]⟩, .int .u64 0, .int .u64 0, .int .u64 0, .int .u64 0]), none⟩,
              ⟨none, .op (.st 5 (.t 8) (.t 34)), none⟩]) (
            .seq (
             .reg [1, 8, 29, 30, 31] [
               ⟨some 35, .op (.mv (.t 1)), none⟩,
               ⟨some 36, .op (.fieldAddr 0 (.t 8)), none⟩,
               ⟨some 37, .op (.ld1 (.t 36)), none⟩,
               ⟨some 38, .call (.c (.fn 37 [] [])) [(.t 35), (.t 37)], none⟩]) (
             .seq (
              .reg [1, 8, 29, 30, 31] [
                ⟨some 39, .op (.mv (.t 1)), none⟩,
                ⟨some 40, .op (.fieldAddr 2 (.t 8)), none⟩,
                ⟨some 41, .op (.ld1 (.t 40)), none⟩,
                ⟨some 42, .call (.c (.fn 38 [] [])) [(.t 39), (.t 41)], none⟩]) (
              .seq (
               .reg [1, 8, 29, 30, 31] [
                 ⟨some 43, .op (.mv (.t 1)), none⟩,
                 ⟨some 44, .op (.fieldAddr 3 (.t 8)), none⟩,
                 ⟨some 45, .op (.fieldAddr 0 (.t 44)), none⟩,
                 ⟨some 46, .op (.ld1 (.t 45)), none⟩,
                 ⟨some 47, .call (.c (.fn 38 [] [])) [(.t 43), (.t 46)], none⟩]) (
               .reg [1, 29, 30, 31] [
                 ⟨some 48, .op (.mv (.t 1)), none⟩,
                 ⟨some 49, .op (.fieldAddr 3 (.t 8)), none⟩,
                 ⟨some 50, .op (.fieldAddr 1 (.t 49)), none⟩,
                 ⟨some 51, .op (.ld1 (.t 50)), none⟩,
                 ⟨some 52, .call (.c (.fn 38 [] [])) [(.t 48), (.t 51)], none⟩])))))) (
          .reg [1, 29, 30, 31] [
            ⟨some 53, .op (.bin .add (.t 31) (.c (.int .i64 1))), none⟩,
            ⟨some 31, .op (.mv (.t 53)), none⟩])))))))))
theorem cf29 : compF Try.prog Try.f29 h29 = some (ac29, rs29) := by kernel_rfl

/-! mailcoach/mailcoachref01.Put params 3 -/
def h30 : Hints := ⟨[(10, [6]), (3, [0, 1, 7]), (9, [0, 1, 7]), (7, [0, 1, 7, 8, 9]), (8, [0, 1, 7, 8, 9]), (6, [0, 1, 7, 8, 9, 19]), (5, [0, 1, 7, 8, 9]), (4, [0, 1, 7, 8]), (2, [0, 1, 7, 13]), (1, [0, 1, 7]), (0, [0, 1, 2])], [(6, [0, 1, 7, 8, 9]), (2, [0, 1, 7])], []⟩
def rs30 : List ARes := [.t 6]
def ac30 : ACode :=
 .seq (
  .reg [0, 1, 2] [
    ⟨some 6, .op (.mv (.c (.nilsl))), none⟩]) (
  .seq (
   .seq (
    .reg [0, 1, 7] [
      ⟨some 10, .op (.mv (.t 2)), none⟩,
      ⟨some 11, .op (.bin .sub (.t 10) (.c (.int .i64 1))), none⟩,
      ⟨some 7, .op (.mv (.t 11)), none⟩]) (
    .block 0 (
     .loop [0, 1, 7] (
      .seq (
       .seq (
        .reg [0, 1, 7, 13] [
          ⟨some 12, .op (.mv (.t 7)), none⟩,
          ⟨some 13, .op (.bin .geq (.t 12) (.c (.int .i64 0))), none⟩]) (
        .cond (.t 13) (
         .skip) (
         .exit 0))) (
       .seq (
        .block 1 (
         .seq (
          .reg [0, 1, 7, 8] [
            ⟨some 16, .op (.mv (.t 1)), none⟩,
            ⟨some 8, .op (.mv (.t 16)), none⟩]) (
          .seq (
           .seq (
            .reg [0, 1, 7, 8, 9] [
              ⟨some 9, .op (.mv (.c (.int .i64 0))), none⟩]) (
            .block 2 (
             .loop [0, 1, 7, 8, 9] (
              .seq (
               .seq (
                .reg [0, 1, 7, 8, 9, 19] [
                  ⟨some 17, .op (.mv (.t 9)), none⟩,
                  ⟨some 18, .op (.mv (.t 7)), none⟩,
                  ⟨some 19, .op (.bin .lss (.t 17) (.t 18)), none⟩]) (
                .cond (.t 19) (
                 .skip) (
                 .exit 2))) (
               .seq (
                .block 3 (
                 .reg [0, 1, 7, 8, 9] [
                   ⟨some 22, .op (.mv (.t 8)), none⟩,
                   ⟨some 23, .op (.bin .quo (.t 22) (.c (.int .u64 256))), none⟩,
                   ⟨some 8, .op (.mv (.t 23)), none⟩])) (
                .reg [0, 1, 7, 8, 9] [
                  ⟨some 20, .op (.mv (.t 9)), none⟩,
                  ⟨some 21, .op (.bin .add (.t 20) (.c (.int .i64 1))), none⟩,
                  ⟨some 9, .op (.mv (.t 21)), none⟩])))))) (
           .reg [0, 1, 7] [
             ⟨some 24, .op (.mv (.t 0)), none⟩,
             ⟨some 25, .op (.mv (.t 8)), none⟩,
             ⟨some 26, .op (.bin .rem (.t 25) (.c (.int .u64 256))), none⟩,
             ⟨some 27, .op (.toInt .u8 (.t 26)), none⟩,
             ⟨some 28, .op (.buildSl 1 [.int .u8 0] 1 [(0, (.t 27))]), none⟩,
             ⟨some 29, .op (.append 1 1 (.t 24) (.t 28)), none⟩,
             ⟨some 0, .op (.mv (.t 29)), none⟩])))) (
        .reg [0, 1, 7] [
          ⟨some 14, .op (.mv (.t 7)), none⟩,
          ⟨some 15, .op (.bin .sub (.t 14) (.c (.int .i64 1))), none⟩,
          ⟨some 7, .op (.mv (.t 15)), none⟩])))))) (
   .seq (
    .reg [6] [
      ⟨some 30, .op (.mv (.t 0)), none⟩,
      ⟨some 6, .op (.mv (.t 30)), none⟩]) (
    .ret)))
theorem cf30 : compF Try.prog Try.f30 h30 = some (ac30, rs30) := by kernel_rfl

/-! mailcoach/mailcoachref01.PutBytes params 2 -/
def h31 : Hints := ⟨[(1, [4]), (0, [0, 1])], [], []⟩
def rs31 : List ARes := [.t 4]
def ac31 : ACode :=
 .seq (
  .reg [0, 1] [
    ⟨some 4, .op (.mv (.c (.nilsl))), none⟩]) (
  .seq (
   .reg [4] [
     ⟨some 5, .op (.mv (.t 0)), none⟩,
     ⟨some 6, .op (.mv (.t 1)), none⟩,
     ⟨some 7, .op (.len 1 (.t 6)), none⟩,
     ⟨some 8, .op (.toInt .u64 (.t 7)), none⟩,
     ⟨some 9, .call (.c (.fn 30 [] [])) [(.t 5), (.t 8), (.c (.int .i64 4))], none⟩,
     ⟨some 10, .op (.mv (.t 1)), none⟩,
     ⟨some 11, .op (.append 1 1 (.t 9) (.t 10)), none⟩,
     ⟨some 4, .op (.mv (.t 11)), none⟩]) (
   .ret))
theorem cf31 : compF Try.prog Try.f31 h31 = some (ac31, rs31) := by kernel_rfl

/-! slices.Collect[mailcoach/api.Line] params 1 -/
def h32 : Hints := ⟨[(1, [2]), (0, [0])], [], []⟩
def rs32 : List ARes := [.t 2]
def ac32 : ACode :=
 .seq (
  .reg [0] [
    ⟨some 2, .op (.mv (.c (.nilsl))), none⟩]) (
  .seq (
   .reg [2] [
     ⟨some 3, .op (.mv (.t 0)), none⟩,
     ⟨some 4, .call (.c (.fn 39 [] [])) [(.c (.nilsl)), (.t 3)], none⟩,
     ⟨some 2, .op (.mv (.t 4)), none⟩]) (
   .ret))
theorem cf32 : compF Try.prog Try.f32 h32 = some (ac32, rs32) := by kernel_rfl

/-! slices.SortFunc[[]mailcoach/api.Line,mailcoach/api.Line] params 2 -/
def h33 : Hints := ⟨[(1, []), (0, [0, 1, 4])], [], []⟩
def rs33 : List ARes := []
def ac33 : ACode :=
 .seq (
  .reg [0, 1, 4] [
    ⟨some 5, .op (.mv (.t 0)), none⟩,
    ⟨some 6, .op (.len 1 (.t 5)), none⟩,
    ⟨some 4, .op (.mv (.t 6)), none⟩]) (
  .reg [] [
    ⟨some 7, .op (.mv (.t 0)), none⟩,
    ⟨some 8, .op (.mv (.t 4)), none⟩,
    ⟨some 9, .op (.mv (.t 4)), none⟩,
    ⟨some 10, .op (.toInt .u64 (.t 9)), none⟩,
    ⟨some 11, .call (.c (.fn 41 [] [])) [(.t 10)], none⟩,
    ⟨some 12, .op (.mv (.t 1)), none⟩,
    ⟨some 13, .call (.c (.fn 40 [] [])) [(.t 7), (.c (.int .i64 0)), (.t 8), (.t 11), (.t 12)], none⟩])
theorem cf33 : compF Try.prog Try.f33 h33 = some (ac33, rs33) := by kernel_rfl

/-! maps.Values[map[string]mailcoach/api.Line,string,mailcoach/api.Line]$1 params 2 -/
def h34 : Hints := ⟨[(3, [0, 6, 14]), (2, [0, 4, 6]), (1, [0, 6, 8]), (0, [0, 6])], [(1, [0, 6])], []⟩
def rs34 : List ARes := []
def ac34 : ACode :=
 .seq (
  .reg [0, 6] [
    ⟨some 5, .op (.ld1 (.t 1)), none⟩,
    ⟨some 6, .op (.rangeM (.t 5)), none⟩]) (
  .block 0 (
   .loop [0, 6] (
    .seq (
     .reg [0, 6, 8] [
       ⟨some 7, .next (.t 6), none⟩,
       ⟨some 8, .op (.extract (.t 7) 0), none⟩]) (
     .seq (
      .cond (.t 8) (
       .skip) (
       .exit 0)) (
      .block 1 (
       .seq (
        .reg [0, 4, 6] [
          ⟨some 9, .op (.entryM (.t 6)), none⟩,
          ⟨some 10, .op (.extract (.t 9) 1), none⟩,
          ⟨some 4, .op (.alloc [.str ⟨#[]⟩, .int .u64 0, .int .u64 0, .int .u64 0, .int .u64 0]), none⟩,
          ⟨none, .op (.st 5 (.t 4) (.t 10)), none⟩]) (
        .seq (
         .reg [0, 6, 14] [
           ⟨some 11, .op (.mv (.t 0)), none⟩,
           ⟨some 12, .op (.ldn 5 (.t 4)), none⟩,
           ⟨some 13, .call (.t 11) [(.t 12)], none⟩,
           ⟨some 14, .op (.un .not (.t 13)), none⟩]) (
         .cond (.t 14) (
          .ret) (
          .skip)))))))))
theorem cf34 : compF Try.prog Try.f34 h34 = some (ac34, rs34) := by kernel_rfl

/-! cmp.isNaN[string] params 1 -/
def h35 : Hints := ⟨[(1, [2]), (0, [0])], [], []⟩
def rs35 : List ARes := [.t 2]
def ac35 : ACode :=
 .seq (
  .reg [0] [
    ⟨some 2, .op (.mv (.c (.bool false))), none⟩]) (
  .seq (
   .reg [2] [
     ⟨some 3, .op (.mv (.t 0)), none⟩,
     ⟨some 4, .op (.mv (.t 0)), none⟩,
     ⟨some 5, .op (.bin .neq (.t 3) (.t 4)), none⟩,
     ⟨some 2, .op (.mv (.t 5)), none⟩]) (
   .ret))
theorem cf35 : compF Try.prog Try.f35 h35 = some (ac35, rs35) := by kernel_rfl

/-! (*mailcoach/pack.Writer).U8 params 2 -/
def h36 : Hints := ⟨[(0, [])], [], []⟩
def rs36 : List ARes := []
def ac36 : ACode :=
 .reg [] [
   ⟨some 4, .op (.mv (.t 0)), none⟩,
   ⟨some 5, .op (.mv (.t 1)), none⟩,
   ⟨some 6, .op (.toInt .u64 (.t 5)), none⟩,
   ⟨some 7, .call (.c (.fn 42 [] [])) [(.t 4), (.t 6), (.c (.int .i64 1))], none⟩]
theorem cf36 : compF Try.prog Try.f36 h36 = some (ac36, rs36) := by kernel_rfl

/-! (*mailcoach/pack.Writer).Text params 2 -/
def h37 : Hints := ⟨[(0, [])], [], []⟩
def rs37 : List ARes := []
def ac37 : ACode :=
 .reg [] [
   ⟨some 4, .op (.mv (.t 0)), none⟩,
   ⟨some 5, .op (.mv (.t 1)), none⟩,
   ⟨some 6, .op (.strBytes (.t 5)), none⟩,
   ⟨some 7, .call (.c (.fn 43 [] [])) [(.t 4), (.t 6)], none⟩]
theorem cf37 : compF Try.prog Try.f37 h37 = some (ac37, rs37) := by kernel_rfl

/-! (*mailcoach/pack.Writer).U64 params 2 -/
def h38 : Hints := ⟨[(0, [])], [], []⟩
def rs38 : List ARes := []
def ac38 : ACode :=
 .reg [] [
   ⟨some 4, .op (.mv (.t 0)), none⟩,
   ⟨some 5, .op (.mv (.t 1)), none⟩,
   ⟨some 6, .call (.c (.fn 42 [] [])) [(.t 4), (.t 5), (.c (.int .i64 8))], none⟩]
theorem cf38 : compF Try.prog Try.f38 h38 = some (ac38, rs38) := by kernel_rfl

/-! slices.pdqsortCmpFunc[mailcoach/api.Line] params 5 -/
def h40 : Hints := ⟨[(27, [0, 1, 2, 3, 4, 10, 11]), (26, [0, 2, 3, 4, 10, 11, 16]), (25, [0, 1, 2, 3, 4, 10, 11, 16]), (30, [0, 1, 2, 3, 4, 10, 11]), (29, [0, 1, 3, 4, 10, 11, 16]), (28, [0, 1, 2, 3, 4, 10, 11, 16]), (24, [0, 1, 2, 3, 4, 11, 16, 18, 19, 20, 125]), (23, [0, 1, 2, 3, 4, 11, 16, 18, 19, 20]), (22, [0, 1, 2, 3, 4, 11, 12, 16, 18, 19]), (21, [0, 1, 2, 3, 4, 11, 12, 16]), (20, [0, 1, 2, 3, 4, 12, 16, 17]), (19, [0, 1, 2, 3, 4, 10, 11]), (18, [0, 2, 3, 4, 10, 11, 15]), (17, [0, 1, 2, 3, 4, 10, 11, 12, 13, 97]), (16, [0, 1, 2, 3, 4, 10, 11, 12, 13, 80]), (15, [0, 1, 2, 3, 4, 10, 11, 12, 13, 75]), (14, [0, 1, 2, 3, 4, 10, 11, 12, 13, 14]), (13, [0, 1, 2, 3, 4, 10, 11, 12, 13]), (12, [0, 1, 2, 3, 4, 10, 11, 12, 13]), (11, [0, 1, 2, 3, 4, 10, 11, 12, 13, 14, 56]), (10, [0, 1, 2, 3, 4, 10, 11, 12, 13, 14]), (9, [0, 1, 2, 3, 4, 10, 11, 12]), (8, [0, 1, 2, 3, 4, 10, 11, 12]), (7, [0, 1, 2, 3, 4, 10, 11, 12, 39]), (6, []), (5, [0, 1, 2, 3, 4, 10, 11, 12, 32]), (4, []), (3, [0, 1, 2, 3, 4, 10, 11, 12, 25]), (2, [0, 1, 2, 3, 4, 10, 11, 12]), (1, [0, 1, 2, 3, 4, 10, 11]), (0, [0, 1, 2, 3, 4, 10])], [(2, [0, 1, 2, 3, 4, 10, 11])], [(17, [(0, []), (1, []), (2, []), (3, []), (4, []), (5, []), (6, []), (7, []), (8, []), (9, []), (10, []), (11, []), (12, []), (13, []), (14, []), (15, []), (16, [])])]⟩
def rs40 : List ARes := []
def ac40 : ACode :=
 .seq (
  .reg [0, 1, 2, 3, 4, 10] [
    ⟨some 10, .op (.mv (.c (.bool true))), none⟩]) (
  .seq (
   .reg [0, 1, 2, 3, 4, 10, 11] [
     ⟨some 11, .op (.mv (.c (.bool true))), none⟩]) (
   .block 0 (
    .loop [0, 1, 2, 3, 4, 10, 11] (
     .block 1 (
      .seq (
       .reg [0, 1, 2, 3, 4, 10, 11, 12] [
         ⟨some 21, .op (.mv (.t 2)), none⟩,
         ⟨some 22, .op (.mv (.t 1)), none⟩,
         ⟨some 23, .op (.bin .sub (.t 21) (.t 22)), none⟩,
         ⟨some 12, .op (.mv (.t 23)), none⟩]) (
       .seq (
        .seq (
         .reg [0, 1, 2, 3, 4, 10, 11, 12, 25] [
           ⟨some 24, .op (.mv (.t 12)), none⟩,
           ⟨some 25, .op (.bin .leq (.t 24) (.c (.int .i64 12))), none⟩]) (
         .cond (.t 25) (
          .seq (
           .reg [] [
             ⟨some 26, .op (.mv (.t 0)), none⟩,
             ⟨some 27, .op (.mv (.t 1)), none⟩,
             ⟨some 28, .op (.mv (.t 2)), none⟩,
             ⟨some 29, .op (.mv (.t 4)), none⟩,
             ⟨some 30, .call (.c (.fn 44 [] [])) [(.t 26), (.t 27), (.t 28), (.t 29)], none⟩]) (
           .ret)) (
          .skip))) (
        .seq (
         .seq (
          .reg [0, 1, 2, 3, 4, 10, 11, 12, 32] [
            ⟨some 31, .op (.mv (.t 3)), none⟩,
            ⟨some 32, .op (.bin .eql (.t 31) (.c (.int .i64 0))), none⟩]) (
          .cond (.t 32) (
           .seq (
            .reg [] [
              ⟨some 33, .op (.mv (.t 0)), none⟩,
              ⟨some 34, .op (.mv (.t 1)), none⟩,
              ⟨some 35, .op (.mv (.t 2)), none⟩,
              ⟨some 36, .op (.mv (.t 4)), none⟩,
              ⟨some 37, .call (.c (.fn 45 [] [])) [(.t 33), (.t 34), (.t 35), (.t 36)], none⟩]) (
            .ret)) (
           .skip))) (
         .seq (
          .seq (
           .reg [0, 1, 2, 3, 4, 10, 11, 12, 39] [
             ⟨some 38, .op (.mv (.t 10)), none⟩,
             ⟨some 39, .op (.un .not (.t 38)), none⟩]) (
           .cond (.t 39) (
            .seq (
             .reg [0, 1, 2, 3, 4, 10, 11, 12] [
               ⟨some 40, .op (.mv (.t 0)), none⟩,
               ⟨some 41, .op (.mv (.t 1)), none⟩,
               ⟨some 42, .op (.mv (.t 2)), none⟩,
               ⟨some 43, .op (.mv (.t 4)), none⟩,
               ⟨some 44, .call (.c (.fn 46 [] [])) [(.t 40), (.t 41), (.t 42), (.t 43)], none⟩]) (
             .reg [0, 1, 2, 3, 4, 10, 11, 12] [
               ⟨some 45, .op (.mv (.t 3)), none⟩,
               ⟨some 46, .op (.bin .sub (.t 45) (.c (.int .i64 1))), none⟩,
               ⟨some 3, .op (.mv (.t 46)), none⟩])) (
            .skip))) (
          .seq (
           .reg [0, 1, 2, 3, 4, 10, 11, 12, 13, 14] [
             ⟨some 48, .op (.mv (.t 0)), none⟩,
             ⟨some 49, .op (.mv (.t 1)), none⟩,
             ⟨some 50, .op (.mv (.t 2)), none⟩,
             ⟨some 51, .op (.mv (.t 4)), none⟩,
             ⟨some 52, .call (.c (.fn 47 [] [])) [(.t 48), (.t 49), (.t 50), (.t 51)], none⟩,
             ⟨some 47, .op (.mv (.t 52)), none⟩,
             ⟨some 53, .op (.extract (.t 47) 0), none⟩,
             ⟨some 54, .op (.extract (.t 47) 1), none⟩,
             ⟨some 13, .op (.mv (.t 53)), none⟩,
             ⟨some 14, .op (.mv (.t 54)), none⟩]) (
           .seq (
            .seq (
             .reg [0, 1, 2, 3, 4, 10, 11, 12, 13, 14, 56] [
               ⟨some 55, .op (.mv (.t 14)), none⟩,
               ⟨some 56, .op (.bin .eql (.t 55) (.c (.int .i64 2))), none⟩]) (
             .cond (.t 56) (
              .seq (
               .reg [0, 1, 2, 3, 4, 10, 11, 12, 13] [
                 ⟨some 57, .op (.mv (.t 0)), none⟩,
                 ⟨some 58, .op (.mv (.t 1)), none⟩,
                 ⟨some 59, .op (.mv (.t 2)), none⟩,
                 ⟨some 60, .op (.mv (.t 4)), none⟩,
                 ⟨some 61, .call (.c (.fn 48 [] [])) [(.t 57), (.t 58), (.t 59), (.t 60)], none⟩]) (
               .seq (
                .reg [0, 1, 2, 3, 4, 10, 11, 12, 13] [
                  ⟨some 62, .op (.mv (.t 2)), none⟩,
                  ⟨some 63, .op (.bin .sub (.t 62) (.c (.int .i64 1))), none⟩,
                  ⟨some 64, .op (.mv (.t 13)), none⟩,
                  ⟨some 65, .op (.mv (.t 1)), none⟩,
                  ⟨some 66, .op (.bin .sub (.t 64) (.t 65)), none⟩,
                  ⟨some 67, .op (.bin .sub (.t 63) (.t 66)), none⟩,
                  ⟨some 13, .op (.mv (.t 67)), none⟩]) (
                .reg [0, 1, 2, 3, 4, 10, 11, 12, 13, 14] [
                  ⟨some 14, .op (.mv (.c (.int .i64 1))), none⟩]))) (
              .skip))) (
            .seq (
             .seq (
              .reg [0, 1, 2, 3, 4, 10, 11, 12, 13, 75] [
                ⟨some 68, .op (.mv (.t 10)), none⟩,
                ⟨some 69, .op (.mv (.t 68)), none⟩,
                ⟨some 70, .op (.mv (.t 11)), some (69, true)⟩,
                ⟨some 71, .pick (.t 69) (.t 70) (.c (.bool false)), none⟩,
                ⟨some 72, .op (.mv (.t 71)), none⟩,
                ⟨some 73, .op (.mv (.t 14)), some (72, true)⟩,
                ⟨some 74, .op (.bin .eql (.t 73) (.c (.int .i64 1))), some (72, true)⟩,
                ⟨some 75, .pick (.t 72) (.t 74) (.c (.bool false)), none⟩]) (
              .cond (.t 75) (
               .seq (
                .reg [0, 1, 2, 3, 4, 10, 11, 12, 13, 80] [
                  ⟨some 76, .op (.mv (.t 0)), none⟩,
                  ⟨some 77, .op (.mv (.t 1)), none⟩,
                  ⟨some 78, .op (.mv (.t 2)), none⟩,
                  ⟨some 79, .op (.mv (.t 4)), none⟩,
                  ⟨some 80, .call (.c (.fn 49 [] [])) [(.t 76), (.t 77), (.t 78), (.t 79)], none⟩]) (
                .cond (.t 80) (
                 .ret) (
                 .skip))) (
               .skip))) (
             .seq (
              .seq (
               .dreg [0, 1, 2, 3, 4, 10, 11, 12, 13, 97] [
                 (⟨some 81, .op (.mv (.t 1)), none⟩, []),
                 (⟨some 82, .op (.bin .gtr (.t 81) (.c (.int .i64 0))), none⟩, []),
                 (⟨some 83, .op (.mv (.t 82)), none⟩, []),
                 (⟨some 84, .op (.mv (.t 4)), some (83, true)⟩, []),
                 (⟨some 85, .op (.mv (.t 0)), some (83, true)⟩, []),
                 (⟨some 86, .op (.mv (.t 1)), some (83, true)⟩, []),
                 (⟨some 87, .op (.bin .sub (.t 86) (.c (.int .i64 1))), some (83, true)⟩, []),
                 (⟨some 88, .op (.idxAddr 5 (.t 85) (.t 87)), some (83, true)⟩, []),
                 (⟨some 89, .op (.ldn 5 (.t 88)), some (83, true)⟩, []),
                 (⟨some 90, .op (.mv (.t 0)), some (83, true)⟩, []),
                 (⟨some 91, .op (.mv (.t 13)), some (83, true)⟩, []),
                 (⟨some 92, .op (.idxAddr 5 (.t 90) (.t 91)), some (83, true)⟩, []),
                 (⟨some 93, .op (.ldn 5 (.t 92)), some (83, true)⟩, []),
                 (⟨some 94, .call (.t 84) [(.t 89), (.t 93)], some (83, true)⟩, []),
                 (⟨some 95, .op (.bin .lss (.t 94) (.c (.int .i64 0))), some (83, true)⟩, []),
                 (⟨some 96, .op (.un .not (.t 95)), some (83, true)⟩, []),
                 (⟨some 97, .pick (.t 83) (.t 96) (.c (.bool false)), none⟩, [])]) (
               .cond (.t 97) (
                .seq (
                 .reg [0, 2, 3, 4, 10, 11, 15] [
                   ⟨some 98, .op (.mv (.t 0)), none⟩,
                   ⟨some 99, .op (.mv (.t 1)), none⟩,
                   ⟨some 100, .op (.mv (.t 2)), none⟩,
                   ⟨some 101, .op (.mv (.t 13)), none⟩,
                   ⟨some 102, .op (.mv (.t 4)), none⟩,
                   ⟨some 103, .call (.c (.fn 50 [] [])) [(.t 98), (.t 99), (.t 100), (.t 101), (.t 102)], none⟩,
                   ⟨some 15, .op (.mv (.t 103)), none⟩]) (
                 .seq (
                  .reg [0, 1, 2, 3, 4, 10, 11] [
                    ⟨some 104, .op (.mv (.t 15)), none⟩,
                    ⟨some 1, .op (.mv (.t 104)), none⟩]) (
                  .exit 1))) (
                .skip))) (
              .seq (
               .reg [0, 1, 2, 3, 4, 12, 16, 17] [
                 ⟨some 106, .op (.mv (.t 0)), none⟩,
                 ⟨some 107, .op (.mv (.t 1)), none⟩,
                 ⟨some 108, .op (.mv (.t 2)), none⟩,
                 ⟨some 109, .op (.mv (.t 13)), none⟩,
                 ⟨some 110, .op (.mv (.t 4)), none⟩,
                 ⟨some 111, .call (.c (.fn 51 [] [])) [(.t 106), (.t 107), (.t 108), (.t 109), (.t 110)], none⟩,
                 ⟨some 105, .op (.mv (.t 111)), none⟩,
                 ⟨some 112, .op (.extract (.t 105) 0), none⟩,
                 ⟨some 113, .op (.extract (.t 105) 1), none⟩,
                 ⟨some 16, .op (.mv (.t 112)), none⟩,
                 ⟨some 17, .op (.mv (.t 113)), none⟩]) (
               .seq (
                .reg [0, 1, 2, 3, 4, 11, 12, 16] [
                  ⟨some 114, .op (.mv (.t 17)), none⟩,
                  ⟨some 11, .op (.mv (.t 114)), none⟩]) (
                .seq (
                 .reg [0, 1, 2, 3, 4, 11, 12, 16, 18, 19] [
                   ⟨some 115, .op (.mv (.t 16)), none⟩,
                   ⟨some 116, .op (.mv (.t 1)), none⟩,
                   ⟨some 117, .op (.bin .sub (.t 115) (.t 116)), none⟩,
                   ⟨some 118, .op (.mv (.t 2)), none⟩,
                   ⟨some 119, .op (.mv (.t 16)), none⟩,
                   ⟨some 120, .op (.bin .sub (.t 118) (.t 119)), none⟩,
                   ⟨some 18, .op (.mv (.t 117)), none⟩,
                   ⟨some 19, .op (.mv (.t 120)), none⟩]) (
                 .seq (
                  .reg [0, 1, 2, 3, 4, 11, 16, 18, 19, 20] [
                    ⟨some 121, .op (.mv (.t 12)), none⟩,
                    ⟨some 122, .op (.bin .quo (.t 121) (.c (.int .i64 8))), none⟩,
                    ⟨some 20, .op (.mv (.t 122)), none⟩]) (
                  .seq (
                   .reg [0, 1, 2, 3, 4, 11, 16, 18, 19, 20, 125] [
                     ⟨some 123, .op (.mv (.t 18)), none⟩,
                     ⟨some 124, .op (.mv (.t 19)), none⟩,
                     ⟨some 125, .op (.bin .lss (.t 123) (.t 124)), none⟩]) (
                   .cond (.t 125) (
                    .seq (
                     .reg [0, 1, 2, 3, 4, 10, 11, 16] [
                       ⟨some 126, .op (.mv (.t 18)), none⟩,
                       ⟨some 127, .op (.mv (.t 20)), none⟩,
                       ⟨some 128, .op (.bin .geq (.t 126) (.t 127)), none⟩,
                       ⟨some 10, .op (.mv (.t 128)), none⟩]) (
                     .seq (
                      .reg [0, 2, 3, 4, 10, 11, 16] [
                        ⟨some 129, .op (.mv (.t 0)), none⟩,
                        ⟨some 130, .op (.mv (.t 1)), none⟩,
                        ⟨some 131, .op (.mv (.t 16)), none⟩,
                        ⟨some 132, .op (.mv (.t 3)), none⟩,
                        ⟨some 133, .op (.mv (.t 4)), none⟩,
                        ⟨some 134, .call (.c (.fn 40 [] [])) [(.t 129), (.t 130), (.t 131), (.t 132), (.t 133)], none⟩]) (
                      .reg [0, 1, 2, 3, 4, 10, 11] [
                        ⟨some 135, .op (.mv (.t 16)), none⟩,
                        ⟨some 136, .op (.bin .add (.t 135) (.c (.int .i64 1))), none⟩,
                        ⟨some 1, .op (.mv (.t 136)), none⟩]))) (
                    .seq (
                     .reg [0, 1, 2, 3, 4, 10, 11, 16] [
                       ⟨some 137, .op (.mv (.t 19)), none⟩,
                       ⟨some 138, .op (.mv (.t 20)), none⟩,
                       ⟨some 139, .op (.bin .geq (.t 137) (.t 138)), none⟩,
                       ⟨some 10, .op (.mv (.t 139)), none⟩]) (
                     .seq (
                      .reg [0, 1, 3, 4, 10, 11, 16] [
                        ⟨some 140, .op (.mv (.t 0)), none⟩,
                        ⟨some 141, .op (.mv (.t 16)), none⟩,
                        ⟨some 142, .op (.bin .add (.t 141) (.c (.int .i64 1))), none⟩,
                        ⟨some 143, .op (.mv (.t 2)), none⟩,
                        ⟨some 144, .op (.mv (.t 3)), none⟩,
                        ⟨some 145, .op (.mv (.t 4)), none⟩,
                        ⟨some 146, .call (.c (.fn 40 [] [])) [(.t 140), (.t 142), (.t 143), (.t 144), (.t 145)], none⟩]) (
                      .reg [0, 1, 2, 3, 4, 10, 11] [
                        ⟨some 147, .op (.mv (.t 16)), none⟩,
                        ⟨some 2, .op (.mv (.t 147)), none⟩])))))))))))))))))))))
theorem cf40 : compF Try.prog Try.f40 h40 = some (ac40, rs40) := by kernel_rfl

/-! math/bits.Len params 1 -/
def h41 : Hints := ⟨[(2, [2]), (1, [2]), (0, [0])], [], []⟩
def rs41 : List ARes := [.t 2]
def ac41 : ACode :=
 .seq (
  .reg [0] [
    ⟨some 2, .op (.mv (.c (.int .i64 0))), none⟩]) (
  .seq (
   .cond (.c (.bool false)) (
    .seq (
     .reg [2] [
       ⟨some 3, .op (.mv (.t 0)), none⟩,
       ⟨some 4, .op (.toInt .u32 (.t 3)), none⟩,
       ⟨some 5, .call (.c (.fn 52 [] [])) [(.t 4)], none⟩,
       ⟨some 2, .op (.mv (.t 5)), none⟩]) (
     .ret)) (
    .skip)) (
   .seq (
    .reg [2] [
      ⟨some 6, .op (.mv (.t 0)), none⟩,
      ⟨some 7, .call (.c (.fn 53 [] [])) [(.t 6)], none⟩,
      ⟨some 2, .op (.mv (.t 7)), none⟩]) (
    .ret)))
theorem cf41 : compF Try.prog Try.f41 h41 = some (ac41, rs41) := by kernel_rfl

/-! (*mailcoach/pack.Writer).number params 3 -/
def h42 : Hints := ⟨[(7, []), (6, [0, 2, 6, 21]), (5, [0, 1, 2, 6, 8]), (4, [0, 1, 2, 6, 8]), (3, [0, 1, 2, 6, 7, 8]), (2, [0, 1, 2, 6, 8, 9]), (1, [0, 1, 2, 6, 8]), (0, [0, 1, 2, 6])], [(2, [0, 1, 2, 6, 8])], [(7, [(0, []), (1, []), (2, []), (3, []), (4, []), (5, []), (6, []), (7, []), (8, []), (9, []), (10, []), (11, [])])]⟩
def rs42 : List ARes := []
def ac42 : ACode :=
 .seq (
  .reg [0, 1, 2, 6] [
    ⟨some 6, .op (.alloc [.int .u8 0, .int .u8 0, .int .u8 0, .int .u8 0, .int .u8 0, .int .u8 0, .int .u8 0, .int .u8 0]), none⟩]) (
  .seq (
   .seq (
    .reg [0, 1, 2, 6, 8] [
      ⟨some 8, .op (.mv (.c (.int .i64 0))), none⟩]) (
    .block 0 (
     .loop [0, 1, 2, 6, 8] (
      .seq (
       .reg [0, 1, 2, 6, 8, 9] [
         ⟨some 9, .op (.bin .lss (.t 8) (.c (.int .i64 8))), none⟩]) (
       .seq (
        .cond (.t 9) (
         .skip) (
         .exit 0)) (
        .seq (
         .block 1 (
          .seq (
           .reg [0, 1, 2, 6, 7, 8] [
             ⟨some 10, .op (.mv (.t 8)), none⟩,
             ⟨some 7, .op (.mv (.t 10)), none⟩]) (
           .reg [0, 1, 2, 6, 8] [
             ⟨some 11, .op (.mv (.t 7)), none⟩,
             ⟨some 12, .op (.bin .sub (.c (.int .i64 7)) (.t 11)), none⟩,
             ⟨some 13, .op (.mv (.t 1)), none⟩,
             ⟨some 14, .op (.mv (.t 7)), none⟩,
             ⟨some 15, .op (.bin .mul (.c (.int .i64 8)) (.t 14)), none⟩,
             ⟨some 16, .op (.bin .shr (.t 13) (.t 15)), none⟩,
             ⟨some 17, .op (.toInt .u8 (.t 16)), none⟩,
             ⟨some 18, .op (.stuck), none⟩,
             ⟨none, .op (.st 1 (.t 18) (.t 17)), none⟩]))) (
         .reg [0, 1, 2, 6, 8] [
           ⟨some 19, .op (.bin .add (.t 8) (.c (.int .i64 1))), none⟩,
           ⟨some 8, .op (.mv (.t 19)), none⟩]))))))) (
   .seq (
    .reg [0, 2, 6, 21] [
      ⟨some 20, .op (.mv (.t 0)), none⟩,
      ⟨some 21, .op (.eqn 0 true (.t 20) (.c (.nilp))), none⟩]) (
    .cond (.t 21) (
     .dreg [] [
       (⟨some 22, .op (.mv (.t 0)), none⟩, []),
       (⟨some 23, .op (.mv (.t 0)), none⟩, []),
       (⟨some 24, .op (.nilCheck (.t 23)), none⟩, []),
       (⟨some 25, .op (.fieldAddr 0 (.t 24)), none⟩, []),
       (⟨some 26, .op (.ld1 (.t 25)), none⟩, []),
       (⟨some 27, .op (.mv (.t 2)), none⟩, []),
       (⟨some 28, .op (.bin .sub (.c (.int .i64 8)) (.t 27)), none⟩, []),
       (⟨some 29, .op (.stuck), none⟩, []),
       (⟨some 30, .op (.append 1 1 (.t 26) (.t 29)), none⟩, []),
       (⟨some 31, .op (.nilCheck (.t 22)), none⟩, []),
       (⟨some 32, .op (.fieldAddr 0 (.t 31)), none⟩, []),
       (⟨none, .op (.st 1 (.t 32) (.t 30)), none⟩, [])]) (
     .skip))))
theorem cf42 : compF Try.prog Try.f42 h42 = some (ac42, rs42) := by kernel_rfl

/-! (*mailcoach/pack.Writer).Bytes params 2 -/
def h43 : Hints := ⟨[(2, []), (1, [0, 1, 10]), (0, [0, 1])], [], []⟩
def rs43 : List ARes := []
def ac43 : ACode :=
 .seq (
  .reg [0, 1] [
    ⟨some 4, .op (.mv (.t 0)), none⟩,
    ⟨some 5, .op (.mv (.t 1)), none⟩,
    ⟨some 6, .op (.len 1 (.t 5)), none⟩,
    ⟨some 7, .op (.toInt .u64 (.t 6)), none⟩,
    ⟨some 8, .call (.c (.fn 42 [] [])) [(.t 4), (.t 7), (.c (.int .i64 4))], none⟩]) (
  .seq (
   .reg [0, 1, 10] [
     ⟨some 9, .op (.mv (.t 0)), none⟩,
     ⟨some 10, .op (.eqn 0 true (.t 9) (.c (.nilp))), none⟩]) (
   .cond (.t 10) (
    .reg [] [
      ⟨some 11, .op (.mv (.t 0)), none⟩,
      ⟨some 12, .op (.mv (.t 0)), none⟩,
      ⟨some 13, .op (.nilCheck (.t 12)), none⟩,
      ⟨some 14, .op (.fieldAddr 0 (.t 13)), none⟩,
      ⟨some 15, .op (.ld1 (.t 14)), none⟩,
      ⟨some 16, .op (.mv (.t 1)), none⟩,
      ⟨some 17, .op (.append 1 1 (.t 15) (.t 16)), none⟩,
      ⟨some 18, .op (.nilCheck (.t 11)), none⟩,
      ⟨some 19, .op (.fieldAddr 0 (.t 18)), none⟩,
      ⟨none, .op (.st 1 (.t 19) (.t 17)), none⟩]) (
    .skip)))
theorem cf43 : compF Try.prog Try.f43 h43 = some (ac43, rs43) := by kernel_rfl

/-! slices.insertionSortCmpFunc[mailcoach/api.Line] params 4 -/
def h44 : Hints := ⟨[(2, [0, 1, 2, 3, 8]), (5, [0, 1, 2, 3, 8, 9]), (6, [0, 1, 2, 3, 8, 9]), (4, [0, 1, 2, 3, 8, 9, 34]), (3, [0, 1, 2, 3, 8, 9]), (1, [0, 1, 2, 3, 8, 14]), (0, [0, 1, 2, 3, 8])], [(4, [0, 1, 2, 3, 8, 9]), (1, [0, 1, 2, 3, 8])], [(4, [(0, []), (1, []), (2, []), (3, []), (4, []), (5, []), (6, []), (7, []), (8, []), (9, []), (10, []), (11, []), (12, []), (13, []), (14, []), (15, []), (16, [])]), (6, [(0, []), (1, []), (2, []), (3, []), (4, []), (5, []), (6, []), (7, []), (8, []), (9, []), (10, []), (11, []), (12, []), (13, []), (14, []), (15, []), (16, []), (17, [])])]⟩
def rs44 : List ARes := []
def ac44 : ACode :=
 .seq (
  .reg [0, 1, 2, 3, 8] [
    ⟨some 10, .op (.mv (.t 1)), none⟩,
    ⟨some 11, .op (.bin .add (.t 10) (.c (.int .i64 1))), none⟩,
    ⟨some 8, .op (.mv (.t 11)), none⟩]) (
  .block 0 (
   .loop [0, 1, 2, 3, 8] (
    .seq (
     .seq (
      .reg [0, 1, 2, 3, 8, 14] [
        ⟨some 12, .op (.mv (.t 8)), none⟩,
        ⟨some 13, .op (.mv (.t 2)), none⟩,
        ⟨some 14, .op (.bin .lss (.t 12) (.t 13)), none⟩]) (
      .cond (.t 14) (
       .skip) (
       .exit 0))) (
     .seq (
      .block 1 (
       .seq (
        .reg [0, 1, 2, 3, 8, 9] [
          ⟨some 17, .op (.mv (.t 8)), none⟩,
          ⟨some 9, .op (.mv (.t 17)), none⟩]) (
        .block 2 (
         .loop [0, 1, 2, 3, 8, 9] (
          .seq (
           .seq (
            .dreg [0, 1, 2, 3, 8, 9, 34] [
              (⟨some 18, .op (.mv (.t 9)), none⟩, []),
              (⟨some 19, .op (.mv (.t 1)), none⟩, []),
              (⟨some 20, .op (.bin .gtr (.t 18) (.t 19)), none⟩, []),
              (⟨some 21, .op (.mv (.t 20)), none⟩, []),
              (⟨some 22, .op (.mv (.t 3)), some (21, true)⟩, []),
              (⟨some 23, .op (.mv (.t 0)), some (21, true)⟩, []),
              (⟨some 24, .op (.mv (.t 9)), some (21, true)⟩, []),
              (⟨some 25, .op (.idxAddr 5 (.t 23) (.t 24)), some (21, true)⟩, []),
              (⟨some 26, .op (.ldn 5 (.t 25)), some (21, true)⟩, []),
              (⟨some 27, .op (.mv (.t 0)), some (21, true)⟩, []),
              (⟨some 28, .op (.mv (.t 9)), some (21, true)⟩, []),
              (⟨some 29, .op (.bin .sub (.t 28) (.c (.int .i64 1))), some (21, true)⟩, []),
              (⟨some 30, .op (.idxAddr 5 (.t 27) (.t 29)), some (21, true)⟩, []),
              (⟨some 31, .op (.ldn 5 (.t 30)), some (21, true)⟩, []),
              (⟨some 32, .call (.t 22) [(.t 26), (.t 31)], some (21, true)⟩, []),
              (⟨some 33, .op (.bin .lss (.t 32) (.c (.int .i64 0))), some (21, true)⟩, []),
              (⟨some 34, .pick (.t 21) (.t 33) (.c (.bool false)), none⟩, [])]) (
            .cond (.t 34) (
             .skip) (
             .exit 2))) (
           .seq (
            .block 3 (
             .dreg [0, 1, 2, 3, 8, 9] [
               (⟨some 37, .op (.mv (.t 0)), none⟩, []),
               (⟨some 38, .op (.mv (.t 9)), none⟩, []),
               (⟨some 39, .op (.mv (.t 0)), none⟩, []),
               (⟨some 40, .op (.mv (.t 9)), none⟩, []),
               (⟨some 41, .op (.bin .sub (.t 40) (.c (.int .i64 1))), none⟩, []),
               (⟨some 42, .op (.mv (.t 0)), none⟩, []),
               (⟨some 43, .op (.mv (.t 9)), none⟩, []),
               (⟨some 44, .op (.bin .sub (.t 43) (.c (.int .i64 1))), none⟩, []),
               (⟨some 45, .op (.idxAddr 5 (.t 42) (.t 44)), none⟩, []),
               (⟨some 46, .op (.ldn 5 (.t 45)), none⟩, []),
               (⟨some 47, .op (.mv (.t 0)), none⟩, []),
               (⟨some 48, .op (.mv (.t 9)), none⟩, []),
               (⟨some 49, .op (.idxAddr 5 (.t 47) (.t 48)), none⟩, []),
               (⟨some 50, .op (.ldn 5 (.t 49)), none⟩, []),
               (⟨some 51, .op (.idxAddr 5 (.t 37) (.t 38)), none⟩, []),
               (⟨none, .op (.st 5 (.t 51) (.t 46)), none⟩, []),
               (⟨some 52, .op (.idxAddr 5 (.t 39) (.t 41)), none⟩, []),
               (⟨none, .op (.st 5 (.t 52) (.t 50)), none⟩, [])])) (
            .reg [0, 1, 2, 3, 8, 9] [
              ⟨some 35, .op (.mv (.t 9)), none⟩,
              ⟨some 36, .op (.bin .sub (.t 35) (.c (.int .i64 1))), none⟩,
              ⟨some 9, .op (.mv (.t 36)), none⟩]))))))) (
      .reg [0, 1, 2, 3, 8] [
        ⟨some 15, .op (.mv (.t 8)), none⟩,
        ⟨some 16, .op (.bin .add (.t 15) (.c (.int .i64 1))), none⟩,
        ⟨some 8, .op (.mv (.t 16)), none⟩])))))
theorem cf44 : compF Try.prog Try.f44 h44 = some (ac44, rs44) := by kernel_rfl

/-! slices.heapSortCmpFunc[mailcoach/api.Line] params 4 -/
def h45 : Hints := ⟨[(9, [0, 3, 8, 9, 12]), (11, [0, 3, 8, 9, 12]), (10, [0, 3, 8, 9, 12]), (8, [0, 3, 8, 9, 12, 33]), (7, [0, 3, 8, 9, 12]), (5, [0, 3, 8, 9, 10, 11]), (6, [0, 3, 8, 9, 10, 11]), (4, [0, 3, 8, 9, 10, 11, 21]), (3, [0, 3, 8, 9, 10, 11]), (2, [0, 3, 8, 9, 10]), (1, [0, 1, 2, 3, 8, 9]), (0, [0, 1, 2, 3, 8])], [(8, [0, 3, 8, 9, 12]), (4, [0, 3, 8, 9, 10, 11])], [(10, [(0, []), (1, []), (2, []), (3, []), (4, []), (5, []), (6, []), (7, []), (8, []), (9, []), (10, []), (11, []), (12, []), (13, []), (14, []), (15, []), (16, []), (17, []), (18, []), (19, [])])]⟩
def rs45 : List ARes := []
def ac45 : ACode :=
 .seq (
  .reg [0, 1, 2, 3, 8] [
    ⟨some 13, .op (.mv (.t 1)), none⟩,
    ⟨some 8, .op (.mv (.t 13)), none⟩]) (
  .seq (
   .reg [0, 1, 2, 3, 8, 9] [
     ⟨some 9, .op (.mv (.c (.int .i64 0))), none⟩]) (
   .seq (
    .reg [0, 3, 8, 9, 10] [
      ⟨some 14, .op (.mv (.t 2)), none⟩,
      ⟨some 15, .op (.mv (.t 1)), none⟩,
      ⟨some 16, .op (.bin .sub (.t 14) (.t 15)), none⟩,
      ⟨some 10, .op (.mv (.t 16)), none⟩]) (
    .seq (
     .seq (
      .reg [0, 3, 8, 9, 10, 11] [
        ⟨some 17, .op (.mv (.t 10)), none⟩,
        ⟨some 18, .op (.bin .sub (.t 17) (.c (.int .i64 1))), none⟩,
        ⟨some 19, .op (.bin .quo (.t 18) (.c (.int .i64 2))), none⟩,
        ⟨some 11, .op (.mv (.t 19)), none⟩]) (
      .block 0 (
       .loop [0, 3, 8, 9, 10, 11] (
        .seq (
         .seq (
          .reg [0, 3, 8, 9, 10, 11, 21] [
            ⟨some 20, .op (.mv (.t 11)), none⟩,
            ⟨some 21, .op (.bin .geq (.t 20) (.c (.int .i64 0))), none⟩]) (
          .cond (.t 21) (
           .skip) (
           .exit 0))) (
         .seq (
          .block 1 (
           .reg [0, 3, 8, 9, 10, 11] [
             ⟨some 24, .op (.mv (.t 0)), none⟩,
             ⟨some 25, .op (.mv (.t 11)), none⟩,
             ⟨some 26, .op (.mv (.t 10)), none⟩,
             ⟨some 27, .op (.mv (.t 8)), none⟩,
             ⟨some 28, .op (.mv (.t 3)), none⟩,
             ⟨some 29, .call (.c (.fn 54 [] [])) [(.t 24), (.t 25), (.t 26), (.t 27), (.t 28)], none⟩])) (
          .reg [0, 3, 8, 9, 10, 11] [
            ⟨some 22, .op (.mv (.t 11)), none⟩,
            ⟨some 23, .op (.bin .sub (.t 22) (.c (.int .i64 1))), none⟩,
            ⟨some 11, .op (.mv (.t 23)), none⟩])))))) (
     .seq (
      .reg [0, 3, 8, 9, 12] [
        ⟨some 30, .op (.mv (.t 10)), none⟩,
        ⟨some 31, .op (.bin .sub (.t 30) (.c (.int .i64 1))), none⟩,
        ⟨some 12, .op (.mv (.t 31)), none⟩]) (
      .block 2 (
       .loop [0, 3, 8, 9, 12] (
        .seq (
         .seq (
          .reg [0, 3, 8, 9, 12, 33] [
            ⟨some 32, .op (.mv (.t 12)), none⟩,
            ⟨some 33, .op (.bin .geq (.t 32) (.c (.int .i64 0))), none⟩]) (
          .cond (.t 33) (
           .skip) (
           .exit 2))) (
         .seq (
          .block 3 (
           .seq (
            .dreg [0, 3, 8, 9, 12] [
              (⟨some 36, .op (.mv (.t 0)), none⟩, []),
              (⟨some 37, .op (.mv (.t 8)), none⟩, []),
              (⟨some 38, .op (.mv (.t 0)), none⟩, []),
              (⟨some 39, .op (.mv (.t 8)), none⟩, []),
              (⟨some 40, .op (.mv (.t 12)), none⟩, []),
              (⟨some 41, .op (.bin .add (.t 39) (.t 40)), none⟩, []),
              (⟨some 42, .op (.mv (.t 0)), none⟩, []),
              (⟨some 43, .op (.mv (.t 8)), none⟩, []),
              (⟨some 44, .op (.mv (.t 12)), none⟩, []),
              (⟨some 45, .op (.bin .add (.t 43) (.t 44)), none⟩, []),
              (⟨some 46, .op (.idxAddr 5 (.t 42) (.t 45)), none⟩, []),
              (⟨some 47, .op (.ldn 5 (.t 46)), none⟩, []),
              (⟨some 48, .op (.mv (.t 0)), none⟩, []),
              (⟨some 49, .op (.mv (.t 8)), none⟩, []),
              (⟨some 50, .op (.idxAddr 5 (.t 48) (.t 49)), none⟩, []),
              (⟨some 51, .op (.ldn 5 (.t 50)), none⟩, []),
              (⟨some 52, .op (.idxAddr 5 (.t 36) (.t 37)), none⟩, []),
              (⟨none, .op (.st 5 (.t 52) (.t 47)), none⟩, []),
              (⟨some 53, .op (.idxAddr 5 (.t 38) (.t 41)), none⟩, []),
              (⟨none, .op (.st 5 (.t 53) (.t 51)), none⟩, [])]) (
            .reg [0, 3, 8, 9, 12] [
              ⟨some 54, .op (.mv (.t 0)), none⟩,
              ⟨some 55, .op (.mv (.t 9)), none⟩,
              ⟨some 56, .op (.mv (.t 12)), none⟩,
              ⟨some 57, .op (.mv (.t 8)), none⟩,
              ⟨some 58, .op (.mv (.t 3)), none⟩,
              ⟨some 59, .call (.c (.fn 54 [] [])) [(.t 54), (.t 55), (.t 56), (.t 57), (.t 58)], none⟩]))) (
          .reg [0, 3, 8, 9, 12] [
            ⟨some 34, .op (.mv (.t 12)), none⟩,
            ⟨some 35, .op (.bin .sub (.t 34) (.c (.int .i64 1))), none⟩,
            ⟨some 12, .op (.mv (.t 35)), none⟩])))))))))
theorem cf45 : compF Try.prog Try.f45 h45 = some (ac45, rs45) := by kernel_rfl

/-! slices.breakPatternsCmpFunc[mailcoach/api.Line] params 4 -/
def h46 : Hints := ⟨[(6, [0, 1, 8, 9, 10, 11]), (10, [0, 1, 8, 9, 10, 11]), (9, [0, 1, 8, 9, 10, 11, 12]), (8, [0, 1, 8, 9, 10, 11, 12, 45]), (7, [0, 1, 8, 9, 10, 11, 12]), (5, [0, 1, 8, 9, 10, 11, 35]), (4, [0, 1, 8, 9, 10, 11]), (3, [0, 1, 8, 9, 10]), (2, [0, 1, 8, 9]), (1, [0, 1, 8, 17]), (0, [0, 1, 8])], [(5, [0, 1, 8, 9, 10, 11])], [(10, [(0, []), (1, []), (2, []), (3, []), (4, []), (5, []), (6, []), (7, []), (8, []), (9, []), (10, []), (11, []), (12, []), (13, []), (14, []), (15, []), (16, []), (17, []), (18, []), (19, [])])]⟩
def rs46 : List ARes := []
def ac46 : ACode :=
 .seq (
  .reg [0, 1, 8] [
    ⟨some 13, .op (.mv (.t 2)), none⟩,
    ⟨some 14, .op (.mv (.t 1)), none⟩,
    ⟨some 15, .op (.bin .sub (.t 13) (.t 14)), none⟩,
    ⟨some 8, .op (.mv (.t 15)), none⟩]) (
  .seq (
   .reg [0, 1, 8, 17] [
     ⟨some 16, .op (.mv (.t 8)), none⟩,
     ⟨some 17, .op (.bin .geq (.t 16) (.c (.int .i64 8))), none⟩]) (
   .cond (.t 17) (
    .seq (
     .reg [0, 1, 8, 9] [
       ⟨some 18, .op (.mv (.t 8)), none⟩,
       ⟨some 19, .op (.toInt .u64 (.t 18)), none⟩,
       ⟨some 9, .op (.alloc [.int .u64 0]), none⟩,
       ⟨none, .op (.st 1 (.t 9) (.t 19)), none⟩]) (
     .seq (
      .reg [0, 1, 8, 9, 10] [
        ⟨some 20, .op (.mv (.t 8)), none⟩,
        ⟨some 21, .call (.c (.fn 55 [] [])) [(.t 20)], none⟩,
        ⟨some 10, .op (.mv (.t 21)), none⟩]) (
      .seq (
       .reg [0, 1, 8, 9, 10, 11] [
         ⟨some 22, .op (.mv (.t 1)), none⟩,
         ⟨some 23, .op (.mv (.t 8)), none⟩,
         ⟨some 24, .op (.bin .quo (.t 23) (.c (.int .i64 4))), none⟩,
         ⟨some 25, .op (.bin .mul (.t 24) (.c (.int .i64 2))), none⟩,
         ⟨some 26, .op (.bin .add (.t 22) (.t 25)), none⟩,
         ⟨some 27, .op (.bin .sub (.t 26) (.c (.int .i64 1))), none⟩,
         ⟨some 11, .op (.mv (.t 27)), none⟩]) (
       .block 0 (
        .loop [0, 1, 8, 9, 10, 11] (
         .seq (
          .seq (
           .reg [0, 1, 8, 9, 10, 11, 35] [
             ⟨some 28, .op (.mv (.t 11)), none⟩,
             ⟨some 29, .op (.mv (.t 1)), none⟩,
             ⟨some 30, .op (.mv (.t 8)), none⟩,
             ⟨some 31, .op (.bin .quo (.t 30) (.c (.int .i64 4))), none⟩,
             ⟨some 32, .op (.bin .mul (.t 31) (.c (.int .i64 2))), none⟩,
             ⟨some 33, .op (.bin .add (.t 29) (.t 32)), none⟩,
             ⟨some 34, .op (.bin .add (.t 33) (.c (.int .i64 1))), none⟩,
             ⟨some 35, .op (.bin .leq (.t 28) (.t 34)), none⟩]) (
           .cond (.t 35) (
            .skip) (
            .exit 0))) (
          .seq (
           .block 1 (
            .seq (
             .reg [0, 1, 8, 9, 10, 11, 12] [
               ⟨some 38, .call (.c (.fn 56 [] [])) [(.t 9)], none⟩,
               ⟨some 39, .op (.mv (.t 10)), none⟩,
               ⟨some 40, .op (.bin .sub (.t 39) (.c (.int .u64 1))), none⟩,
               ⟨some 41, .op (.bin .and (.t 38) (.t 40)), none⟩,
               ⟨some 42, .op (.toInt .i64 (.t 41)), none⟩,
               ⟨some 12, .op (.mv (.t 42)), none⟩]) (
             .seq (
              .seq (
               .reg [0, 1, 8, 9, 10, 11, 12, 45] [
                 ⟨some 43, .op (.mv (.t 12)), none⟩,
                 ⟨some 44, .op (.mv (.t 8)), none⟩,
                 ⟨some 45, .op (.bin .geq (.t 43) (.t 44)), none⟩]) (
               .cond (.t 45) (
                .reg [0, 1, 8, 9, 10, 11, 12] [
                  ⟨some 46, .op (.mv (.t 12)), none⟩,
                  ⟨some 47, .op (.mv (.t 8)), none⟩,
                  ⟨some 48, .op (.bin .sub (.t 46) (.t 47)), none⟩,
                  ⟨some 12, .op (.mv (.t 48)), none⟩]) (
                .skip))) (
              .dreg [0, 1, 8, 9, 10, 11] [
                (⟨some 49, .op (.mv (.t 0)), none⟩, []),
                (⟨some 50, .op (.mv (.t 11)), none⟩, []),
                (⟨some 51, .op (.mv (.t 0)), none⟩, []),
                (⟨some 52, .op (.mv (.t 1)), none⟩, []),
                (⟨some 53, .op (.mv (.t 12)), none⟩, []),
                (⟨some 54, .op (.bin .add (.t 52) (.t 53)), none⟩, []),
                (⟨some 55, .op (.mv (.t 0)), none⟩, []),
                (⟨some 56, .op (.mv (.t 1)), none⟩, []),
                (⟨some 57, .op (.mv (.t 12)), none⟩, []),
                (⟨some 58, .op (.bin .add (.t 56) (.t 57)), none⟩, []),
                (⟨some 59, .op (.idxAddr 5 (.t 55) (.t 58)), none⟩, []),
                (⟨some 60, .op (.ldn 5 (.t 59)), none⟩, []),
                (⟨some 61, .op (.mv (.t 0)), none⟩, []),
                (⟨some 62, .op (.mv (.t 11)), none⟩, []),
                (⟨some 63, .op (.idxAddr 5 (.t 61) (.t 62)), none⟩, []),
                (⟨some 64, .op (.ldn 5 (.t 63)), none⟩, []),
                (⟨some 65, .op (.idxAddr 5 (.t 49) (.t 50)), none⟩, []),
                (⟨none, .op (.st 5 (.t 65) (.t 60)), none⟩, []),
                (⟨some 66, .op (.idxAddr 5 (.t 51) (.t 54)), none⟩, []),
                (⟨none, .op (.st 5 (.t 66) (.t 64)), none⟩, [])])))) (
           .reg [0, 1, 8, 9, 10, 11] [
             ⟨some 36, .op (.mv (.t 11)), none⟩,
             ⟨some 37, .op (.bin .add (.t 36) (.c (.int .i64 1))), none⟩,
             ⟨some 11, .op (.mv (.t 37)), none⟩])))))))) (
    .skip)))
theorem cf46 : compF Try.prog Try.f46 h46 = some (ac46, rs46) := by kernel_rfl

/-! slices.choosePivotCmpFunc[mailcoach/api.Line] params 4 -/
def h47 : Hints := ⟨[(15, [8, 9]), (17, [8, 9]), (13, [8, 9]), (16, [13, 60]), (14, [13, 55, 57]), (12, [13, 55]), (11, [11, 13]), (10, [0, 3, 11, 12, 13, 14]), (9, [0, 3, 11, 12, 13, 14]), (8, [0, 3, 11, 12, 13, 14]), (7, [0, 3, 11, 12, 13, 14, 36]), (6, [0, 3, 10, 11, 12, 13, 14, 34]), (5, [0, 3, 10, 11, 12, 13, 14]), (4, [0, 1, 3, 10, 11, 12, 13]), (3, [0, 1, 3, 10, 11, 12]), (2, [0, 1, 3, 10, 11]), (1, [0, 1, 3, 10]), (0, [0, 1, 2, 3])], [], []⟩
def rs47 : List ARes := [.t 8, .t 9]
def ac47 : ACode :=
 .seq (
  .reg [0, 1, 2, 3] [
    ⟨some 8, .op (.mv (.c (.int .i64 0))), none⟩,
    ⟨some 9, .op (.mv (.c (.int .i64 0))), none⟩]) (
  .seq (
   .reg [0, 1, 3, 10] [
     ⟨some 15, .op (.mv (.t 2)), none⟩,
     ⟨some 16, .op (.mv (.t 1)), none⟩,
     ⟨some 17, .op (.bin .sub (.t 15) (.t 16)), none⟩,
     ⟨some 10, .op (.mv (.t 17)), none⟩]) (
   .seq (
    .reg [0, 1, 3, 10, 11] [
      ⟨some 11, .op (.alloc [.int .i64 0]), none⟩]) (
    .seq (
     .reg [0, 1, 3, 10, 11, 12] [
       ⟨some 18, .op (.mv (.t 1)), none⟩,
       ⟨some 19, .op (.mv (.t 10)), none⟩,
       ⟨some 20, .op (.bin .quo (.t 19) (.c (.int .i64 4))), none⟩,
       ⟨some 21, .op (.bin .mul (.t 20) (.c (.int .i64 1))), none⟩,
       ⟨some 22, .op (.bin .add (.t 18) (.t 21)), none⟩,
       ⟨some 12, .op (.mv (.t 22)), none⟩]) (
     .seq (
      .reg [0, 1, 3, 10, 11, 12, 13] [
        ⟨some 23, .op (.mv (.t 1)), none⟩,
        ⟨some 24, .op (.mv (.t 10)), none⟩,
        ⟨some 25, .op (.bin .quo (.t 24) (.c (.int .i64 4))), none⟩,
        ⟨some 26, .op (.bin .mul (.t 25) (.c (.int .i64 2))), none⟩,
        ⟨some 27, .op (.bin .add (.t 23) (.t 26)), none⟩,
        ⟨some 13, .op (.mv (.t 27)), none⟩]) (
      .seq (
       .reg [0, 3, 10, 11, 12, 13, 14] [
         ⟨some 28, .op (.mv (.t 1)), none⟩,
         ⟨some 29, .op (.mv (.t 10)), none⟩,
         ⟨some 30, .op (.bin .quo (.t 29) (.c (.int .i64 4))), none⟩,
         ⟨some 31, .op (.bin .mul (.t 30) (.c (.int .i64 3))), none⟩,
         ⟨some 32, .op (.bin .add (.t 28) (.t 31)), none⟩,
         ⟨some 14, .op (.mv (.t 32)), none⟩]) (
       .seq (
        .seq (
         .reg [0, 3, 10, 11, 12, 13, 14, 34] [
           ⟨some 33, .op (.mv (.t 10)), none⟩,
           ⟨some 34, .op (.bin .geq (.t 33) (.c (.int .i64 8))), none⟩]) (
         .cond (.t 34) (
          .seq (
           .seq (
            .reg [0, 3, 11, 12, 13, 14, 36] [
              ⟨some 35, .op (.mv (.t 10)), none⟩,
              ⟨some 36, .op (.bin .geq (.t 35) (.c (.int .i64 50))), none⟩]) (
            .cond (.t 36) (
             .seq (
              .reg [0, 3, 11, 12, 13, 14] [
                ⟨some 37, .op (.mv (.t 0)), none⟩,
                ⟨some 38, .op (.mv (.t 12)), none⟩,
                ⟨some 39, .op (.mv (.t 3)), none⟩,
                ⟨some 40, .call (.c (.fn 57 [] [])) [(.t 37), (.t 38), (.t 11), (.t 39)], none⟩,
                ⟨some 12, .op (.mv (.t 40)), none⟩]) (
              .seq (
               .reg [0, 3, 11, 12, 13, 14] [
                 ⟨some 41, .op (.mv (.t 0)), none⟩,
                 ⟨some 42, .op (.mv (.t 13)), none⟩,
                 ⟨some 43, .op (.mv (.t 3)), none⟩,
                 ⟨some 44, .call (.c (.fn 57 [] [])) [(.t 41), (.t 42), (.t 11), (.t 43)], none⟩,
                 ⟨some 13, .op (.mv (.t 44)), none⟩]) (
               .reg [0, 3, 11, 12, 13, 14] [
                 ⟨some 45, .op (.mv (.t 0)), none⟩,
                 ⟨some 46, .op (.mv (.t 14)), none⟩,
                 ⟨some 47, .op (.mv (.t 3)), none⟩,
                 ⟨some 48, .call (.c (.fn 57 [] [])) [(.t 45), (.t 46), (.t 11), (.t 47)], none⟩,
                 ⟨some 14, .op (.mv (.t 48)), none⟩]))) (
             .skip))) (
           .reg [11, 13] [
             ⟨some 49, .op (.mv (.t 0)), none⟩,
             ⟨some 50, .op (.mv (.t 12)), none⟩,
             ⟨some 51, .op (.mv (.t 13)), none⟩,
             ⟨some 52, .op (.mv (.t 14)), none⟩,
             ⟨some 53, .op (.mv (.t 3)), none⟩,
             ⟨some 54, .call (.c (.fn 58 [] [])) [(.t 49), (.t 50), (.t 51), (.t 52), (.t 11), (.t 53)], none⟩,
             ⟨some 13, .op (.mv (.t 54)), none⟩])) (
          .skip))) (
        .seq (
         .reg [13, 55] [
           ⟨some 55, .op (.ld1 (.t 11)), none⟩]) (
         .block 0 (
          .seq (
           .reg [13, 55, 57] [
             ⟨some 58, .op (.bin .eql (.t 55) (.c (.int .i64 0))), none⟩,
             ⟨some 57, .op (.mv (.t 58)), none⟩]) (
           .cond (.t 57) (
            .seq (
             .reg [8, 9] [
               ⟨some 59, .op (.mv (.t 13)), none⟩,
               ⟨some 8, .op (.mv (.t 59)), none⟩,
               ⟨some 9, .op (.mv (.c (.int .i64 1))), none⟩]) (
             .ret)) (
            .seq (
             .reg [13, 60] [
               ⟨some 61, .op (.bin .eql (.t 55) (.c (.int .i64 12))), none⟩,
               ⟨some 60, .op (.mv (.t 61)), none⟩]) (
             .cond (.t 60) (
              .seq (
               .reg [8, 9] [
                 ⟨some 62, .op (.mv (.t 13)), none⟩,
                 ⟨some 8, .op (.mv (.t 62)), none⟩,
                 ⟨some 9, .op (.mv (.c (.int .i64 2))), none⟩]) (
               .ret)) (
              .seq (
               .reg [8, 9] [
                 ⟨some 56, .op (.mv (.t 13)), none⟩,
                 ⟨some 8, .op (.mv (.t 56)), none⟩,
                 ⟨some 9, .op (.mv (.c (.int .i64 0))), none⟩]) (
               .ret))))))))))))))
theorem cf47 : compF Try.prog Try.f47 h47 = some (ac47, rs47) := by kernel_rfl

/-! slices.reverseRangeCmpFunc[mailcoach/api.Line] params 4 -/
def h48 : Hints := ⟨[(5, [0, 8, 9]), (4, [0, 8, 9]), (3, [0, 8, 9]), (2, [0, 8, 9, 15]), (1, [0, 8, 9]), (0, [0, 2, 8])], [(2, [0, 8, 9])], [(3, [(0, []), (1, []), (2, []), (3, []), (4, []), (5, []), (6, []), (7, []), (8, []), (9, []), (10, []), (11, []), (12, []), (13, []), (14, []), (15, [])])]⟩
def rs48 : List ARes := []
def ac48 : ACode :=
 .seq (
  .reg [0, 2, 8] [
    ⟨some 10, .op (.mv (.t 1)), none⟩,
    ⟨some 8, .op (.mv (.t 10)), none⟩]) (
  .seq (
   .reg [0, 8, 9] [
     ⟨some 11, .op (.mv (.t 2)), none⟩,
     ⟨some 12, .op (.bin .sub (.t 11) (.c (.int .i64 1))), none⟩,
     ⟨some 9, .op (.mv (.t 12)), none⟩]) (
   .block 0 (
    .loop [0, 8, 9] (
     .seq (
      .seq (
       .reg [0, 8, 9, 15] [
         ⟨some 13, .op (.mv (.t 8)), none⟩,
         ⟨some 14, .op (.mv (.t 9)), none⟩,
         ⟨some 15, .op (.bin .lss (.t 13) (.t 14)), none⟩]) (
       .cond (.t 15) (
        .skip) (
        .exit 0))) (
      .block 1 (
       .seq (
        .dreg [0, 8, 9] [
          (⟨some 16, .op (.mv (.t 0)), none⟩, []),
          (⟨some 17, .op (.mv (.t 8)), none⟩, []),
          (⟨some 18, .op (.mv (.t 0)), none⟩, []),
          (⟨some 19, .op (.mv (.t 9)), none⟩, []),
          (⟨some 20, .op (.mv (.t 0)), none⟩, []),
          (⟨some 21, .op (.mv (.t 9)), none⟩, []),
          (⟨some 22, .op (.idxAddr 5 (.t 20) (.t 21)), none⟩, []),
          (⟨some 23, .op (.ldn 5 (.t 22)), none⟩, []),
          (⟨some 24, .op (.mv (.t 0)), none⟩, []),
          (⟨some 25, .op (.mv (.t 8)), none⟩, []),
          (⟨some 26, .op (.idxAddr 5 (.t 24) (.t 25)), none⟩, []),
          (⟨some 27, .op (.ldn 5 (.t 26)), none⟩, []),
          (⟨some 28, .op (.idxAddr 5 (.t 16) (.t 17)), none⟩, []),
          (⟨none, .op (.st 5 (.t 28) (.t 23)), none⟩, []),
          (⟨some 29, .op (.idxAddr 5 (.t 18) (.t 19)), none⟩, []),
          (⟨none, .op (.st 5 (.t 29) (.t 27)), none⟩, [])]) (
        .seq (
         .reg [0, 8, 9] [
           ⟨some 30, .op (.mv (.t 8)), none⟩,
           ⟨some 31, .op (.bin .add (.t 30) (.c (.int .i64 1))), none⟩,
           ⟨some 8, .op (.mv (.t 31)), none⟩]) (
         .reg [0, 8, 9] [
           ⟨some 32, .op (.mv (.t 9)), none⟩,
           ⟨some 33, .op (.bin .sub (.t 32) (.c (.int .i64 1))), none⟩,
           ⟨some 9, .op (.mv (.t 33)), none⟩]))))))))
theorem cf48 : compF Try.prog Try.f48 h48 = some (ac48, rs48) := by kernel_rfl

/-! slices.partialInsertionSortCmpFunc[mailcoach/api.Line] params 4 -/
def h49 : Hints := ⟨[(24, [8]), (4, [0, 1, 2, 3, 9, 10]), (21, [0, 1, 2, 3, 9, 10, 12]), (23, [0, 1, 2, 3, 9, 10, 12]), (22, [0, 1, 2, 3, 9, 10, 12, 124]), (20, [0, 1, 2, 3, 9, 10, 12, 109]), (19, [0, 1, 2, 3, 9, 10, 12]), (18, [0, 1, 2, 3, 9, 10, 104]), (15, [0, 1, 2, 3, 9, 10, 11]), (17, [0, 1, 2, 3, 9, 10, 11]), (16, [0, 1, 2, 3, 9, 10, 11, 84]), (14, [0, 1, 2, 3, 9, 10, 11, 69]), (13, [0, 1, 2, 3, 9, 10, 11]), (12, [0, 1, 2, 3, 9, 10, 65]), (11, [0, 1, 2, 3, 9, 10]), (10, [8]), (9, [0, 1, 2, 3, 9, 10, 45]), (8, [8]), (7, [0, 1, 2, 3, 9, 10, 41]), (6, [0, 1, 2, 3, 9, 10]), (5, [0, 1, 2, 3, 9, 10, 36]), (3, [0, 1, 2, 3, 9, 10, 16]), (2, [0, 1, 2, 3, 9, 10]), (1, [0, 1, 2, 3, 9]), (0, [0, 1, 2, 3])], [(20, [0, 1, 2, 3, 9, 10, 12]), (14, [0, 1, 2, 3, 9, 10, 11]), (5, [0, 1, 2, 3, 9, 10]), (3, [0, 1, 2, 3, 9, 10])], [(5, [(0, []), (1, []), (2, []), (3, []), (4, []), (5, []), (6, []), (7, []), (8, []), (9, []), (10, []), (11, []), (12, []), (13, []), (14, []), (15, []), (16, []), (17, [])]), (11, [(0, []), (1, []), (2, []), (3, []), (4, []), (5, []), (6, []), (7, []), (8, []), (9, []), (10, []), (11, []), (12, []), (13, []), (14, []), (15, []), (16, []), (17, [])]), (16, [(0, []), (1, []), (2, []), (3, []), (4, []), (5, []), (6, []), (7, []), (8, []), (9, []), (10, []), (11, []), (12, [])]), (17, [(0, []), (1, []), (2, []), (3, []), (4, []), (5, []), (6, []), (7, []), (8, []), (9, []), (10, []), (11, []), (12, []), (13, []), (14, []), (15, []), (16, []), (17, [])]), (22, [(0, []), (1, []), (2, []), (3, []), (4, []), (5, []), (6, []), (7, []), (8, []), (9, []), (10, []), (11, []), (12, [])]), (23, [(0, []), (1, []), (2, []), (3, []), (4, []), (5, []), (6, []), (7, []), (8, []), (9, []), (10, []), (11, []), (12, []), (13, []), (14, []), (15, []), (16, []), (17, [])])]⟩
def rs49 : List ARes := [.t 8]
def ac49 : ACode :=
 .seq (
  .reg [0, 1, 2, 3] [
    ⟨some 8, .op (.mv (.c (.bool false))), none⟩]) (
  .seq (
   .reg [0, 1, 2, 3, 9] [
     ⟨some 13, .op (.mv (.t 1)), none⟩,
     ⟨some 14, .op (.bin .add (.t 13) (.c (.int .i64 1))), none⟩,
     ⟨some 9, .op (.mv (.t 14)), none⟩]) (
   .seq (
    .seq (
     .reg [0, 1, 2, 3, 9, 10] [
       ⟨some 10, .op (.mv (.c (.int .i64 0))), none⟩]) (
     .block 0 (
      .loop [0, 1, 2, 3, 9, 10] (
       .seq (
        .seq (
         .reg [0, 1, 2, 3, 9, 10, 16] [
           ⟨some 15, .op (.mv (.t 10)), none⟩,
           ⟨some 16, .op (.bin .lss (.t 15) (.c (.int .i64 5))), none⟩]) (
         .cond (.t 16) (
          .skip) (
          .exit 0))) (
        .seq (
         .block 1 (
          .seq (
           .block 2 (
            .loop [0, 1, 2, 3, 9, 10] (
             .seq (
              .seq (
               .dreg [0, 1, 2, 3, 9, 10, 36] [
                 (⟨some 19, .op (.mv (.t 9)), none⟩, []),
                 (⟨some 20, .op (.mv (.t 2)), none⟩, []),
                 (⟨some 21, .op (.bin .lss (.t 19) (.t 20)), none⟩, []),
                 (⟨some 22, .op (.mv (.t 21)), none⟩, []),
                 (⟨some 23, .op (.mv (.t 3)), some (22, true)⟩, []),
                 (⟨some 24, .op (.mv (.t 0)), some (22, true)⟩, []),
                 (⟨some 25, .op (.mv (.t 9)), some (22, true)⟩, []),
                 (⟨some 26, .op (.idxAddr 5 (.t 24) (.t 25)), some (22, true)⟩, []),
                 (⟨some 27, .op (.ldn 5 (.t 26)), some (22, true)⟩, []),
                 (⟨some 28, .op (.mv (.t 0)), some (22, true)⟩, []),
                 (⟨some 29, .op (.mv (.t 9)), some (22, true)⟩, []),
                 (⟨some 30, .op (.bin .sub (.t 29) (.c (.int .i64 1))), some (22, true)⟩, []),
                 (⟨some 31, .op (.idxAddr 5 (.t 28) (.t 30)), some (22, true)⟩, []),
                 (⟨some 32, .op (.ldn 5 (.t 31)), some (22, true)⟩, []),
                 (⟨some 33, .call (.t 23) [(.t 27), (.t 32)], some (22, true)⟩, []),
                 (⟨some 34, .op (.bin .lss (.t 33) (.c (.int .i64 0))), some (22, true)⟩, []),
                 (⟨some 35, .op (.un .not (.t 34)), some (22, true)⟩, []),
                 (⟨some 36, .pick (.t 22) (.t 35) (.c (.bool false)), none⟩, [])]) (
               .cond (.t 36) (
                .skip) (
                .exit 2))) (
              .block 3 (
               .reg [0, 1, 2, 3, 9, 10] [
                 ⟨some 37, .op (.mv (.t 9)), none⟩,
                 ⟨some 38, .op (.bin .add (.t 37) (.c (.int .i64 1))), none⟩,
                 ⟨some 9, .op (.mv (.t 38)), none⟩]))))) (
           .seq (
            .seq (
             .reg [0, 1, 2, 3, 9, 10, 41] [
               ⟨some 39, .op (.mv (.t 9)), none⟩,
               ⟨some 40, .op (.mv (.t 2)), none⟩,
               ⟨some 41, .op (.bin .eql (.t 39) (.t 40)), none⟩]) (
             .cond (.t 41) (
              .seq (
               .reg [8] [
                 ⟨some 8, .op (.mv (.c (.bool true))), none⟩]) (
               .ret)) (
              .skip))) (
            .seq (
             .seq (
              .reg [0, 1, 2, 3, 9, 10, 45] [
                ⟨some 42, .op (.mv (.t 2)), none⟩,
                ⟨some 43, .op (.mv (.t 1)), none⟩,
                ⟨some 44, .op (.bin .sub (.t 42) (.t 43)), none⟩,
                ⟨some 45, .op (.bin .lss (.t 44) (.c (.int .i64 50))), none⟩]) (
              .cond (.t 45) (
               .seq (
                .reg [8] [
                  ⟨some 8, .op (.mv (.c (.bool false))), none⟩]) (
                .ret)) (
               .skip))) (
             .seq (
              .dreg [0, 1, 2, 3, 9, 10] [
                (⟨some 46, .op (.mv (.t 0)), none⟩, []),
                (⟨some 47, .op (.mv (.t 9)), none⟩, []),
                (⟨some 48, .op (.mv (.t 0)), none⟩, []),
                (⟨some 49, .op (.mv (.t 9)), none⟩, []),
                (⟨some 50, .op (.bin .sub (.t 49) (.c (.int .i64 1))), none⟩, []),
                (⟨some 51, .op (.mv (.t 0)), none⟩, []),
                (⟨some 52, .op (.mv (.t 9)), none⟩, []),
                (⟨some 53, .op (.bin .sub (.t 52) (.c (.int .i64 1))), none⟩, []),
                (⟨some 54, .op (.idxAddr 5 (.t 51) (.t 53)), none⟩, []),
                (⟨some 55, .op (.ldn 5 (.t 54)), none⟩, []),
                (⟨some 56, .op (.mv (.t 0)), none⟩, []),
                (⟨some 57, .op (.mv (.t 9)), none⟩, []),
                (⟨some 58, .op (.idxAddr 5 (.t 56) (.t 57)), none⟩, []),
                (⟨some 59, .op (.ldn 5 (.t 58)), none⟩, []),
                (⟨some 60, .op (.idxAddr 5 (.t 46) (.t 47)), none⟩, []),
                (⟨none, .op (.st 5 (.t 60) (.t 55)), none⟩, []),
                (⟨some 61, .op (.idxAddr 5 (.t 48) (.t 50)), none⟩, []),
                (⟨none, .op (.st 5 (.t 61) (.t 59)), none⟩, [])]) (
              .seq (
               .seq (
                .reg [0, 1, 2, 3, 9, 10, 65] [
                  ⟨some 62, .op (.mv (.t 9)), none⟩,
                  ⟨some 63, .op (.mv (.t 1)), none⟩,
                  ⟨some 64, .op (.bin .sub (.t 62) (.t 63)), none⟩,
                  ⟨some 65, .op (.bin .geq (.t 64) (.c (.int .i64 2))), none⟩]) (
                .cond (.t 65) (
                 .seq (
                  .reg [0, 1, 2, 3, 9, 10, 11] [
                    ⟨some 66, .op (.mv (.t 9)), none⟩,
                    ⟨some 67, .op (.bin .sub (.t 66) (.c (.int .i64 1))), none⟩,
                    ⟨some 11, .op (.mv (.t 67)), none⟩]) (
                  .block 4 (
                   .loop [0, 1, 2, 3, 9, 10, 11] (
                    .seq (
                     .seq (
                      .reg [0, 1, 2, 3, 9, 10, 11, 69] [
                        ⟨some 68, .op (.mv (.t 11)), none⟩,
                        ⟨some 69, .op (.bin .geq (.t 68) (.c (.int .i64 1))), none⟩]) (
                      .cond (.t 69) (
                       .skip) (
                       .exit 4))) (
                     .seq (
                      .block 5 (
                       .seq (
                        .seq (
                         .dreg [0, 1, 2, 3, 9, 10, 11, 84] [
                           (⟨some 72, .op (.mv (.t 3)), none⟩, []),
                           (⟨some 73, .op (.mv (.t 0)), none⟩, []),
                           (⟨some 74, .op (.mv (.t 11)), none⟩, []),
                           (⟨some 75, .op (.idxAddr 5 (.t 73) (.t 74)), none⟩, []),
                           (⟨some 76, .op (.ldn 5 (.t 75)), none⟩, []),
                           (⟨some 77, .op (.mv (.t 0)), none⟩, []),
                           (⟨some 78, .op (.mv (.t 11)), none⟩, []),
                           (⟨some 79, .op (.bin .sub (.t 78) (.c (.int .i64 1))), none⟩, []),
                           (⟨some 80, .op (.idxAddr 5 (.t 77) (.t 79)), none⟩, []),
                           (⟨some 81, .op (.ldn 5 (.t 80)), none⟩, []),
                           (⟨some 82, .call (.t 72) [(.t 76), (.t 81)], none⟩, []),
                           (⟨some 83, .op (.bin .lss (.t 82) (.c (.int .i64 0))), none⟩, []),
                           (⟨some 84, .op (.un .not (.t 83)), none⟩, [])]) (
                         .cond (.t 84) (
                          .exit 4) (
                          .skip))) (
                        .dreg [0, 1, 2, 3, 9, 10, 11] [
                          (⟨some 85, .op (.mv (.t 0)), none⟩, []),
                          (⟨some 86, .op (.mv (.t 11)), none⟩, []),
                          (⟨some 87, .op (.mv (.t 0)), none⟩, []),
                          (⟨some 88, .op (.mv (.t 11)), none⟩, []),
                          (⟨some 89, .op (.bin .sub (.t 88) (.c (.int .i64 1))), none⟩, []),
                          (⟨some 90, .op (.mv (.t 0)), none⟩, []),
                          (⟨some 91, .op (.mv (.t 11)), none⟩, []),
                          (⟨some 92, .op (.bin .sub (.t 91) (.c (.int .i64 1))), none⟩, []),
                          (⟨some 93, .op (.idxAddr 5 (.t 90) (.t 92)), none⟩, []),
                          (⟨some 94, .op (.ldn 5 (.t 93)), none⟩, []),
                          (⟨some 95, .op (.mv (.t 0)), none⟩, []),
                          (⟨some 96, .op (.mv (.t 11)), none⟩, []),
                          (⟨some 97, .op (.idxAddr 5 (.t 95) (.t 96)), none⟩, []),
                          (⟨some 98, .op (.ldn 5 (.t 97)), none⟩, []),
                          (⟨some 99, .op (.idxAddr 5 (.t 85) (.t 86)), none⟩, []),
                          (⟨none, .op (.st 5 (.t 99) (.t 94)), none⟩, []),
                          (⟨some 100, .op (.idxAddr 5 (.t 87) (.t 89)), none⟩, []),
                          (⟨none, .op (.st 5 (.t 100) (.t 98)), none⟩, [])]))) (
                      .reg [0, 1, 2, 3, 9, 10, 11] [
                        ⟨some 70, .op (.mv (.t 11)), none⟩,
                        ⟨some 71, .op (.bin .sub (.t 70) (.c (.int .i64 1))), none⟩,
                        ⟨some 11, .op (.mv (.t 71)), none⟩])))))) (
                 .skip))) (
               .seq (
                .reg [0, 1, 2, 3, 9, 10, 104] [
                  ⟨some 101, .op (.mv (.t 2)), none⟩,
                  ⟨some 102, .op (.mv (.t 9)), none⟩,
                  ⟨some 103, .op (.bin .sub (.t 101) (.t 102)), none⟩,
                  ⟨some 104, .op (.bin .geq (.t 103) (.c (.int .i64 2))), none⟩]) (
                .cond (.t 104) (
                 .seq (
                  .reg [0, 1, 2, 3, 9, 10, 12] [
                    ⟨some 105, .op (.mv (.t 9)), none⟩,
                    ⟨some 106, .op (.bin .add (.t 105) (.c (.int .i64 1))), none⟩,
                    ⟨some 12, .op (.mv (.t 106)), none⟩]) (
                  .block 6 (
                   .loop [0, 1, 2, 3, 9, 10, 12] (
                    .seq (
                     .seq (
                      .reg [0, 1, 2, 3, 9, 10, 12, 109] [
                        ⟨some 107, .op (.mv (.t 12)), none⟩,
                        ⟨some 108, .op (.mv (.t 2)), none⟩,
                        ⟨some 109, .op (.bin .lss (.t 107) (.t 108)), none⟩]) (
                      .cond (.t 109) (
                       .skip) (
                       .exit 6))) (
                     .seq (
                      .block 7 (
                       .seq (
                        .seq (
                         .dreg [0, 1, 2, 3, 9, 10, 12, 124] [
                           (⟨some 112, .op (.mv (.t 3)), none⟩, []),
                           (⟨some 113, .op (.mv (.t 0)), none⟩, []),
                           (⟨some 114, .op (.mv (.t 12)), none⟩, []),
                           (⟨some 115, .op (.idxAddr 5 (.t 113) (.t 114)), none⟩, []),
                           (⟨some 116, .op (.ldn 5 (.t 115)), none⟩, []),
                           (⟨some 117, .op (.mv (.t 0)), none⟩, []),
                           (⟨some 118, .op (.mv (.t 12)), none⟩, []),
                           (⟨some 119, .op (.bin .sub (.t 118) (.c (.int .i64 1))), none⟩, []),
                           (⟨some 120, .op (.idxAddr 5 (.t 117) (.t 119)), none⟩, []),
                           (⟨some 121, .op (.ldn 5 (.t 120)), none⟩, []),
                           (⟨some 122, .call (.t 112) [(.t 116), (.t 121)], none⟩, []),
                           (⟨some 123, .op (.bin .lss (.t 122) (.c (.int .i64 0))), none⟩, []),
                           (⟨some 124, .op (.un .not (.t 123)), none⟩, [])]) (
                         .cond (.t 124) (
                          .exit 6) (
                          .skip))) (
                        .dreg [0, 1, 2, 3, 9, 10, 12] [
                          (⟨some 125, .op (.mv (.t 0)), none⟩, []),
                          (⟨some 126, .op (.mv (.t 12)), none⟩, []),
                          (⟨some 127, .op (.mv (.t 0)), none⟩, []),
                          (⟨some 128, .op (.mv (.t 12)), none⟩, []),
                          (⟨some 129, .op (.bin .sub (.t 128) (.c (.int .i64 1))), none⟩, []),
                          (⟨some 130, .op (.mv (.t 0)), none⟩, []),
                          (⟨some 131, .op (.mv (.t 12)), none⟩, []),
                          (⟨some 132, .op (.bin .sub (.t 131) (.c (.int .i64 1))), none⟩, []),
                          (⟨some 133, .op (.idxAddr 5 (.t 130) (.t 132)), none⟩, []),
                          (⟨some 134, .op (.ldn 5 (.t 133)), none⟩, []),
                          (⟨some 135, .op (.mv (.t 0)), none⟩, []),
                          (⟨some 136, .op (.mv (.t 12)), none⟩, []),
                          (⟨some 137, .op (.idxAddr 5 (.t 135) (.t 136)), none⟩, []),
                          (⟨some 138, .op (.ldn 5 (.t 137)), none⟩, []),
                          (⟨some 139, .op (.idxAddr 5 (.t 125) (.t 126)), none⟩, []),
                          (⟨none, .op (.st 5 (.t 139) (.t 134)), none⟩, []),
                          (⟨some 140, .op (.idxAddr 5 (.t 127) (.t 129)), none⟩, []),
                          (⟨none, .op (.st 5 (.t 140) (.t 138)), none⟩, [])]))) (
                      .reg [0, 1, 2, 3, 9, 10, 12] [
                        ⟨some 110, .op (.mv (.t 12)), none⟩,
                        ⟨some 111, .op (.bin .add (.t 110) (.c (.int .i64 1))), none⟩,
                        ⟨some 12, .op (.mv (.t 111)), none⟩])))))) (
                 .skip))))))))) (
         .reg [0, 1, 2, 3, 9, 10] [
           ⟨some 17, .op (.mv (.t 10)), none⟩,
           ⟨some 18, .op (.bin .add (.t 17) (.c (.int .i64 1))), none⟩,
           ⟨some 10, .op (.mv (.t 18)), none⟩])))))) (
    .seq (
     .reg [8] [
       ⟨some 8, .op (.mv (.c (.bool false))), none⟩]) (
     .ret))))
theorem cf49 : compF Try.prog Try.f49 h49 = some (ac49, rs49) := by kernel_rfl

/-! slices.partitionEqualCmpFunc[mailcoach/api.Line] params 5 -/
def h50 : Hints := ⟨[(11, [10]), (10, [0, 1, 4, 11, 12]), (9, [0, 1, 4, 11, 12]), (8, [0, 1, 4, 11, 12]), (7, [0, 1, 4, 11, 12, 70]), (6, [0, 1, 4, 11, 12]), (5, [0, 1, 4, 11, 12, 65]), (4, [0, 1, 4, 11, 12]), (3, [0, 1, 4, 11, 12, 47]), (2, [0, 1, 4, 11, 12]), (1, [0, 1, 2, 4]), (0, [0, 1, 2, 3, 4])], [(5, [0, 1, 4, 11, 12]), (3, [0, 1, 4, 11, 12])], [(1, [(0, []), (1, []), (2, []), (3, []), (4, []), (5, []), (6, []), (7, []), (8, []), (9, []), (10, []), (11, []), (12, []), (13, []), (14, []), (15, [])]), (3, [(0, []), (1, []), (2, []), (3, []), (4, []), (5, []), (6, []), (7, []), (8, []), (9, []), (10, []), (11, []), (12, []), (13, []), (14, []), (15, []), (16, [])]), (5, [(0, []), (1, []), (2, []), (3, []), (4, []), (5, []), (6, []), (7, []), (8, []), (9, []), (10, []), (11, []), (12, []), (13, []), (14, []), (15, [])]), (8, [(0, []), (1, []), (2, []), (3, []), (4, []), (5, []), (6, []), (7, []), (8, []), (9, []), (10, []), (11, []), (12, []), (13, []), (14, []), (15, [])])]⟩
def rs50 : List ARes := [.t 10]
def ac50 : ACode :=
 .seq (
  .reg [0, 1, 2, 3, 4] [
    ⟨some 10, .op (.mv (.c (.int .i64 0))), none⟩]) (
  .seq (
   .dreg [0, 1, 2, 4] [
     (⟨some 13, .op (.mv (.t 0)), none⟩, []),
     (⟨some 14, .op (.mv (.t 1)), none⟩, []),
     (⟨some 15, .op (.mv (.t 0)), none⟩, []),
     (⟨some 16, .op (.mv (.t 3)), none⟩, []),
     (⟨some 17, .op (.mv (.t 0)), none⟩, []),
     (⟨some 18, .op (.mv (.t 3)), none⟩, []),
     (⟨some 19, .op (.idxAddr 5 (.t 17) (.t 18)), none⟩, []),
     (⟨some 20, .op (.ldn 5 (.t 19)), none⟩, []),
     (⟨some 21, .op (.mv (.t 0)), none⟩, []),
     (⟨some 22, .op (.mv (.t 1)), none⟩, []),
     (⟨some 23, .op (.idxAddr 5 (.t 21) (.t 22)), none⟩, []),
     (⟨some 24, .op (.ldn 5 (.t 23)), none⟩, []),
     (⟨some 25, .op (.idxAddr 5 (.t 13) (.t 14)), none⟩, []),
     (⟨none, .op (.st 5 (.t 25) (.t 20)), none⟩, []),
     (⟨some 26, .op (.idxAddr 5 (.t 15) (.t 16)), none⟩, []),
     (⟨none, .op (.st 5 (.t 26) (.t 24)), none⟩, [])]) (
   .seq (
    .reg [0, 1, 4, 11, 12] [
      ⟨some 27, .op (.mv (.t 1)), none⟩,
      ⟨some 28, .op (.bin .add (.t 27) (.c (.int .i64 1))), none⟩,
      ⟨some 29, .op (.mv (.t 2)), none⟩,
      ⟨some 30, .op (.bin .sub (.t 29) (.c (.int .i64 1))), none⟩,
      ⟨some 11, .op (.mv (.t 28)), none⟩,
      ⟨some 12, .op (.mv (.t 30)), none⟩]) (
    .seq (
     .block 0 (
      .loop [0, 1, 4, 11, 12] (
       .block 1 (
        .seq (
         .block 2 (
          .loop [0, 1, 4, 11, 12] (
           .seq (
            .seq (
             .dreg [0, 1, 4, 11, 12, 47] [
               (⟨some 31, .op (.mv (.t 11)), none⟩, []),
               (⟨some 32, .op (.mv (.t 12)), none⟩, []),
               (⟨some 33, .op (.bin .leq (.t 31) (.t 32)), none⟩, []),
               (⟨some 34, .op (.mv (.t 33)), none⟩, []),
               (⟨some 35, .op (.mv (.t 4)), some (34, true)⟩, []),
               (⟨some 36, .op (.mv (.t 0)), some (34, true)⟩, []),
               (⟨some 37, .op (.mv (.t 1)), some (34, true)⟩, []),
               (⟨some 38, .op (.idxAddr 5 (.t 36) (.t 37)), some (34, true)⟩, []),
               (⟨some 39, .op (.ldn 5 (.t 38)), some (34, true)⟩, []),
               (⟨some 40, .op (.mv (.t 0)), some (34, true)⟩, []),
               (⟨some 41, .op (.mv (.t 11)), some (34, true)⟩, []),
               (⟨some 42, .op (.idxAddr 5 (.t 40) (.t 41)), some (34, true)⟩, []),
               (⟨some 43, .op (.ldn 5 (.t 42)), some (34, true)⟩, []),
               (⟨some 44, .call (.t 35) [(.t 39), (.t 43)], some (34, true)⟩, []),
               (⟨some 45, .op (.bin .lss (.t 44) (.c (.int .i64 0))), some (34, true)⟩, []),
               (⟨some 46, .op (.un .not (.t 45)), some (34, true)⟩, []),
               (⟨some 47, .pick (.t 34) (.t 46) (.c (.bool false)), none⟩, [])]) (
             .cond (.t 47) (
              .skip) (
              .exit 2))) (
            .block 3 (
             .reg [0, 1, 4, 11, 12] [
               ⟨some 48, .op (.mv (.t 11)), none⟩,
               ⟨some 49, .op (.bin .add (.t 48) (.c (.int .i64 1))), none⟩,
               ⟨some 11, .op (.mv (.t 49)), none⟩]))))) (
         .seq (
          .block 4 (
           .loop [0, 1, 4, 11, 12] (
            .seq (
             .seq (
              .dreg [0, 1, 4, 11, 12, 65] [
                (⟨some 50, .op (.mv (.t 11)), none⟩, []),
                (⟨some 51, .op (.mv (.t 12)), none⟩, []),
                (⟨some 52, .op (.bin .leq (.t 50) (.t 51)), none⟩, []),
                (⟨some 53, .op (.mv (.t 52)), none⟩, []),
                (⟨some 54, .op (.mv (.t 4)), some (53, true)⟩, []),
                (⟨some 55, .op (.mv (.t 0)), some (53, true)⟩, []),
                (⟨some 56, .op (.mv (.t 1)), some (53, true)⟩, []),
                (⟨some 57, .op (.idxAddr 5 (.t 55) (.t 56)), some (53, true)⟩, []),
                (⟨some 58, .op (.ldn 5 (.t 57)), some (53, true)⟩, []),
                (⟨some 59, .op (.mv (.t 0)), some (53, true)⟩, []),
                (⟨some 60, .op (.mv (.t 12)), some (53, true)⟩, []),
                (⟨some 61, .op (.idxAddr 5 (.t 59) (.t 60)), some (53, true)⟩, []),
                (⟨some 62, .op (.ldn 5 (.t 61)), some (53, true)⟩, []),
                (⟨some 63, .call (.t 54) [(.t 58), (.t 62)], some (53, true)⟩, []),
                (⟨some 64, .op (.bin .lss (.t 63) (.c (.int .i64 0))), some (53, true)⟩, []),
                (⟨some 65, .pick (.t 53) (.t 64) (.c (.bool false)), none⟩, [])]) (
              .cond (.t 65) (
               .skip) (
               .exit 4))) (
             .block 5 (
              .reg [0, 1, 4, 11, 12] [
                ⟨some 66, .op (.mv (.t 12)), none⟩,
                ⟨some 67, .op (.bin .sub (.t 66) (.c (.int .i64 1))), none⟩,
                ⟨some 12, .op (.mv (.t 67)), none⟩]))))) (
          .seq (
           .seq (
            .reg [0, 1, 4, 11, 12, 70] [
              ⟨some 68, .op (.mv (.t 11)), none⟩,
              ⟨some 69, .op (.mv (.t 12)), none⟩,
              ⟨some 70, .op (.bin .gtr (.t 68) (.t 69)), none⟩]) (
            .cond (.t 70) (
             .exit 0) (
             .skip))) (
           .seq (
            .dreg [0, 1, 4, 11, 12] [
              (⟨some 71, .op (.mv (.t 0)), none⟩, []),
              (⟨some 72, .op (.mv (.t 11)), none⟩, []),
              (⟨some 73, .op (.mv (.t 0)), none⟩, []),
              (⟨some 74, .op (.mv (.t 12)), none⟩, []),
              (⟨some 75, .op (.mv (.t 0)), none⟩, []),
              (⟨some 76, .op (.mv (.t 12)), none⟩, []),
              (⟨some 77, .op (.idxAddr 5 (.t 75) (.t 76)), none⟩, []),
              (⟨some 78, .op (.ldn 5 (.t 77)), none⟩, []),
              (⟨some 79, .op (.mv (.t 0)), none⟩, []),
              (⟨some 80, .op (.mv (.t 11)), none⟩, []),
              (⟨some 81, .op (.idxAddr 5 (.t 79) (.t 80)), none⟩, []),
              (⟨some 82, .op (.ldn 5 (.t 81)), none⟩, []),
              (⟨some 83, .op (.idxAddr 5 (.t 71) (.t 72)), none⟩, []),
              (⟨none, .op (.st 5 (.t 83) (.t 78)), none⟩, []),
              (⟨some 84, .op (.idxAddr 5 (.t 73) (.t 74)), none⟩, []),
              (⟨none, .op (.st 5 (.t 84) (.t 82)), none⟩, [])]) (
            .seq (
             .reg [0, 1, 4, 11, 12] [
               ⟨some 85, .op (.mv (.t 11)), none⟩,
               ⟨some 86, .op (.bin .add (.t 85) (.c (.int .i64 1))), none⟩,
               ⟨some 11, .op (.mv (.t 86)), none⟩]) (
             .reg [0, 1, 4, 11, 12] [
               ⟨some 87, .op (.mv (.t 12)), none⟩,
               ⟨some 88, .op (.bin .sub (.t 87) (.c (.int .i64 1))), none⟩,
               ⟨some 12, .op (.mv (.t 88)), none⟩]))))))))) (
     .seq (
      .reg [10] [
        ⟨some 89, .op (.mv (.t 11)), none⟩,
        ⟨some 10, .op (.mv (.t 89)), none⟩]) (
      .ret)))))
theorem cf50 : compF Try.prog Try.f50 h50 = some (ac50, rs50) := by kernel_rfl

/-! slices.partitionCmpFunc[mailcoach/api.Line] params 5 -/
def h51 : Hints := ⟨[(22, [10, 11]), (21, [13]), (20, [0, 1, 4, 12, 13]), (19, [0, 1, 4, 12, 13]), (18, [0, 1, 4, 12, 13]), (17, [0, 1, 4, 12, 13, 144]), (16, [0, 1, 4, 12, 13]), (15, [0, 1, 4, 12, 13, 139]), (14, [0, 1, 4, 12, 13]), (13, [0, 1, 4, 12, 13, 120]), (12, [0, 1, 4, 12, 13]), (11, [0, 1, 4, 12, 13]), (10, [0, 1, 4, 12, 13]), (9, [10, 11]), (8, [13]), (7, [0, 1, 4, 12, 13, 71]), (6, [0, 1, 4, 12, 13]), (5, [0, 1, 4, 12, 13, 66]), (4, [0, 1, 4, 12, 13]), (3, [0, 1, 4, 12, 13, 47]), (2, [0, 1, 4, 12, 13]), (1, [0, 1, 2, 4]), (0, [0, 1, 2, 3, 4])], [(15, [0, 1, 4, 12, 13]), (13, [0, 1, 4, 12, 13]), (5, [0, 1, 4, 12, 13]), (3, [0, 1, 4, 12, 13])], [(1, [(0, []), (1, []), (2, []), (3, []), (4, []), (5, []), (6, []), (7, []), (8, []), (9, []), (10, []), (11, []), (12, []), (13, []), (14, []), (15, [])]), (3, [(0, []), (1, []), (2, []), (3, []), (4, []), (5, []), (6, []), (7, []), (8, []), (9, []), (10, []), (11, []), (12, []), (13, []), (14, []), (15, [])]), (5, [(0, []), (1, []), (2, []), (3, []), (4, []), (5, []), (6, []), (7, []), (8, []), (9, []), (10, []), (11, []), (12, []), (13, []), (14, []), (15, []), (16, [])]), (8, [(0, []), (1, []), (2, []), (3, []), (4, []), (5, []), (6, []), (7, []), (8, []), (9, []), (10, []), (11, []), (12, []), (13, []), (14, []), (15, [])]), (10, [(0, []), (1, []), (2, []), (3, []), (4, []), (5, []), (6, []), (7, []), (8, []), (9, []), (10, []), (11, []), (12, []), (13, []), (14, []), (15, [])]), (13, [(0, []), (1, []), (2, []), (3, []), (4, []), (5, []), (6, []), (7, []), (8, []), (9, []), (10, []), (11, []), (12, []), (13, []), (14, []), (15, [])]), (15, [(0, []), (1, []), (2, []), (3, []), (4, []), (5, []), (6, []), (7, []), (8, []), (9, []), (10, []), (11, []), (12, []), (13, []), (14, []), (15, []), (16, [])]), (18, [(0, []), (1, []), (2, []), (3, []), (4, []), (5, []), (6, []), (7, []), (8, []), (9, []), (10, []), (11, []), (12, []), (13, []), (14, []), (15, [])]), (21, [(0, []), (1, []), (2, []), (3, []), (4, []), (5, []), (6, []), (7, []), (8, []), (9, []), (10, []), (11, []), (12, []), (13, []), (14, []), (15, [])])]⟩
def rs51 : List ARes := [.t 10, .t 11]
def ac51 : ACode :=
 .seq (
  .reg [0, 1, 2, 3, 4] [
    ⟨some 10, .op (.mv (.c (.int .i64 0))), none⟩,
    ⟨some 11, .op (.mv (.c (.bool false))), none⟩]) (
  .seq (
   .dreg [0, 1, 2, 4] [
     (⟨some 14, .op (.mv (.t 0)), none⟩, []),
     (⟨some 15, .op (.mv (.t 1)), none⟩, []),
     (⟨some 16, .op (.mv (.t 0)), none⟩, []),
     (⟨some 17, .op (.mv (.t 3)), none⟩, []),
     (⟨some 18, .op (.mv (.t 0)), none⟩, []),
     (⟨some 19, .op (.mv (.t 3)), none⟩, []),
     (⟨some 20, .op (.idxAddr 5 (.t 18) (.t 19)), none⟩, []),
     (⟨some 21, .op (.ldn 5 (.t 20)), none⟩, []),
     (⟨some 22, .op (.mv (.t 0)), none⟩, []),
     (⟨some 23, .op (.mv (.t 1)), none⟩, []),
     (⟨some 24, .op (.idxAddr 5 (.t 22) (.t 23)), none⟩, []),
     (⟨some 25, .op (.ldn 5 (.t 24)), none⟩, []),
     (⟨some 26, .op (.idxAddr 5 (.t 14) (.t 15)), none⟩, []),
     (⟨none, .op (.st 5 (.t 26) (.t 21)), none⟩, []),
     (⟨some 27, .op (.idxAddr 5 (.t 16) (.t 17)), none⟩, []),
     (⟨none, .op (.st 5 (.t 27) (.t 25)), none⟩, [])]) (
   .seq (
    .reg [0, 1, 4, 12, 13] [
      ⟨some 28, .op (.mv (.t 1)), none⟩,
      ⟨some 29, .op (.bin .add (.t 28) (.c (.int .i64 1))), none⟩,
      ⟨some 30, .op (.mv (.t 2)), none⟩,
      ⟨some 31, .op (.bin .sub (.t 30) (.c (.int .i64 1))), none⟩,
      ⟨some 12, .op (.mv (.t 29)), none⟩,
      ⟨some 13, .op (.mv (.t 31)), none⟩]) (
    .seq (
     .block 0 (
      .loop [0, 1, 4, 12, 13] (
       .seq (
        .seq (
         .dreg [0, 1, 4, 12, 13, 47] [
           (⟨some 32, .op (.mv (.t 12)), none⟩, []),
           (⟨some 33, .op (.mv (.t 13)), none⟩, []),
           (⟨some 34, .op (.bin .leq (.t 32) (.t 33)), none⟩, []),
           (⟨some 35, .op (.mv (.t 34)), none⟩, []),
           (⟨some 36, .op (.mv (.t 4)), some (35, true)⟩, []),
           (⟨some 37, .op (.mv (.t 0)), some (35, true)⟩, []),
           (⟨some 38, .op (.mv (.t 12)), some (35, true)⟩, []),
           (⟨some 39, .op (.idxAddr 5 (.t 37) (.t 38)), some (35, true)⟩, []),
           (⟨some 40, .op (.ldn 5 (.t 39)), some (35, true)⟩, []),
           (⟨some 41, .op (.mv (.t 0)), some (35, true)⟩, []),
           (⟨some 42, .op (.mv (.t 1)), some (35, true)⟩, []),
           (⟨some 43, .op (.idxAddr 5 (.t 41) (.t 42)), some (35, true)⟩, []),
           (⟨some 44, .op (.ldn 5 (.t 43)), some (35, true)⟩, []),
           (⟨some 45, .call (.t 36) [(.t 40), (.t 44)], some (35, true)⟩, []),
           (⟨some 46, .op (.bin .lss (.t 45) (.c (.int .i64 0))), some (35, true)⟩, []),
           (⟨some 47, .pick (.t 35) (.t 46) (.c (.bool false)), none⟩, [])]) (
         .cond (.t 47) (
          .skip) (
          .exit 0))) (
        .block 1 (
         .reg [0, 1, 4, 12, 13] [
           ⟨some 48, .op (.mv (.t 12)), none⟩,
           ⟨some 49, .op (.bin .add (.t 48) (.c (.int .i64 1))), none⟩,
           ⟨some 12, .op (.mv (.t 49)), none⟩]))))) (
     .seq (
      .block 2 (
       .loop [0, 1, 4, 12, 13] (
        .seq (
         .seq (
          .dreg [0, 1, 4, 12, 13, 66] [
            (⟨some 50, .op (.mv (.t 12)), none⟩, []),
            (⟨some 51, .op (.mv (.t 13)), none⟩, []),
            (⟨some 52, .op (.bin .leq (.t 50) (.t 51)), none⟩, []),
            (⟨some 53, .op (.mv (.t 52)), none⟩, []),
            (⟨some 54, .op (.mv (.t 4)), some (53, true)⟩, []),
            (⟨some 55, .op (.mv (.t 0)), some (53, true)⟩, []),
            (⟨some 56, .op (.mv (.t 13)), some (53, true)⟩, []),
            (⟨some 57, .op (.idxAddr 5 (.t 55) (.t 56)), some (53, true)⟩, []),
            (⟨some 58, .op (.ldn 5 (.t 57)), some (53, true)⟩, []),
            (⟨some 59, .op (.mv (.t 0)), some (53, true)⟩, []),
            (⟨some 60, .op (.mv (.t 1)), some (53, true)⟩, []),
            (⟨some 61, .op (.idxAddr 5 (.t 59) (.t 60)), some (53, true)⟩, []),
            (⟨some 62, .op (.ldn 5 (.t 61)), some (53, true)⟩, []),
            (⟨some 63, .call (.t 54) [(.t 58), (.t 62)], some (53, true)⟩, []),
            (⟨some 64, .op (.bin .lss (.t 63) (.c (.int .i64 0))), some (53, true)⟩, []),
            (⟨some 65, .op (.un .not (.t 64)), some (53, true)⟩, []),
            (⟨some 66, .pick (.t 53) (.t 65) (.c (.bool false)), none⟩, [])]) (
          .cond (.t 66) (
           .skip) (
           .exit 2))) (
         .block 3 (
          .reg [0, 1, 4, 12, 13] [
            ⟨some 67, .op (.mv (.t 13)), none⟩,
            ⟨some 68, .op (.bin .sub (.t 67) (.c (.int .i64 1))), none⟩,
            ⟨some 13, .op (.mv (.t 68)), none⟩]))))) (
      .seq (
       .seq (
        .reg [0, 1, 4, 12, 13, 71] [
          ⟨some 69, .op (.mv (.t 12)), none⟩,
          ⟨some 70, .op (.mv (.t 13)), none⟩,
          ⟨some 71, .op (.bin .gtr (.t 69) (.t 70)), none⟩]) (
        .cond (.t 71) (
         .seq (
          .dreg [13] [
            (⟨some 72, .op (.mv (.t 0)), none⟩, []),
            (⟨some 73, .op (.mv (.t 13)), none⟩, []),
            (⟨some 74, .op (.mv (.t 0)), none⟩, []),
            (⟨some 75, .op (.mv (.t 1)), none⟩, []),
            (⟨some 76, .op (.mv (.t 0)), none⟩, []),
            (⟨some 77, .op (.mv (.t 1)), none⟩, []),
            (⟨some 78, .op (.idxAddr 5 (.t 76) (.t 77)), none⟩, []),
            (⟨some 79, .op (.ldn 5 (.t 78)), none⟩, []),
            (⟨some 80, .op (.mv (.t 0)), none⟩, []),
            (⟨some 81, .op (.mv (.t 13)), none⟩, []),
            (⟨some 82, .op (.idxAddr 5 (.t 80) (.t 81)), none⟩, []),
            (⟨some 83, .op (.ldn 5 (.t 82)), none⟩, []),
            (⟨some 84, .op (.idxAddr 5 (.t 72) (.t 73)), none⟩, []),
            (⟨none, .op (.st 5 (.t 84) (.t 79)), none⟩, []),
            (⟨some 85, .op (.idxAddr 5 (.t 74) (.t 75)), none⟩, []),
            (⟨none, .op (.st 5 (.t 85) (.t 83)), none⟩, [])]) (
          .seq (
           .reg [10, 11] [
             ⟨some 86, .op (.mv (.t 13)), none⟩,
             ⟨some 10, .op (.mv (.t 86)), none⟩,
             ⟨some 11, .op (.mv (.c (.bool true))), none⟩]) (
           .ret))) (
         .skip))) (
       .seq (
        .dreg [0, 1, 4, 12, 13] [
          (⟨some 87, .op (.mv (.t 0)), none⟩, []),
          (⟨some 88, .op (.mv (.t 12)), none⟩, []),
          (⟨some 89, .op (.mv (.t 0)), none⟩, []),
          (⟨some 90, .op (.mv (.t 13)), none⟩, []),
          (⟨some 91, .op (.mv (.t 0)), none⟩, []),
          (⟨some 92, .op (.mv (.t 13)), none⟩, []),
          (⟨some 93, .op (.idxAddr 5 (.t 91) (.t 92)), none⟩, []),
          (⟨some 94, .op (.ldn 5 (.t 93)), none⟩, []),
          (⟨some 95, .op (.mv (.t 0)), none⟩, []),
          (⟨some 96, .op (.mv (.t 12)), none⟩, []),
          (⟨some 97, .op (.idxAddr 5 (.t 95) (.t 96)), none⟩, []),
          (⟨some 98, .op (.ldn 5 (.t 97)), none⟩, []),
          (⟨some 99, .op (.idxAddr 5 (.t 87) (.t 88)), none⟩, []),
          (⟨none, .op (.st 5 (.t 99) (.t 94)), none⟩, []),
          (⟨some 100, .op (.idxAddr 5 (.t 89) (.t 90)), none⟩, []),
          (⟨none, .op (.st 5 (.t 100) (.t 98)), none⟩, [])]) (
        .seq (
         .reg [0, 1, 4, 12, 13] [
           ⟨some 101, .op (.mv (.t 12)), none⟩,
           ⟨some 102, .op (.bin .add (.t 101) (.c (.int .i64 1))), none⟩,
           ⟨some 12, .op (.mv (.t 102)), none⟩]) (
         .seq (
          .reg [0, 1, 4, 12, 13] [
            ⟨some 103, .op (.mv (.t 13)), none⟩,
            ⟨some 104, .op (.bin .sub (.t 103) (.c (.int .i64 1))), none⟩,
            ⟨some 13, .op (.mv (.t 104)), none⟩]) (
          .seq (
           .block 4 (
            .loop [0, 1, 4, 12, 13] (
             .block 5 (
              .seq (
               .block 6 (
                .loop [0, 1, 4, 12, 13] (
                 .seq (
                  .seq (
                   .dreg [0, 1, 4, 12, 13, 120] [
                     (⟨some 105, .op (.mv (.t 12)), none⟩, []),
                     (⟨some 106, .op (.mv (.t 13)), none⟩, []),
                     (⟨some 107, .op (.bin .leq (.t 105) (.t 106)), none⟩, []),
                     (⟨some 108, .op (.mv (.t 107)), none⟩, []),
                     (⟨some 109, .op (.mv (.t 4)), some (108, true)⟩, []),
                     (⟨some 110, .op (.mv (.t 0)), some (108, true)⟩, []),
                     (⟨some 111, .op (.mv (.t 12)), some (108, true)⟩, []),
                     (⟨some 112, .op (.idxAddr 5 (.t 110) (.t 111)), some (108, true)⟩, []),
                     (⟨some 113, .op (.ldn 5 (.t 112)), some (108, true)⟩, []),
                     (⟨some 114, .op (.mv (.t 0)), some (108, true)⟩, []),
                     (⟨some 115, .op (.mv (.t 1)), some (108, true)⟩, []),
                     (⟨some 116, .op (.idxAddr 5 (.t 114) (.t 115)), some (108, true)⟩, []),
                     (⟨some 117, .op (.ldn 5 (.t 116)), some (108, true)⟩, []),
                     (⟨some 118, .call (.t 109) [(.t 113), (.t 117)], some (108, true)⟩, []),
                     (⟨some 119, .op (.bin .lss (.t 118) (.c (.int .i64 0))), some (108, true)⟩, []),
                     (⟨some 120, .pick (.t 108) (.t 119) (.c (.bool false)), none⟩, [])]) (
                   .cond (.t 120) (
                    .skip) (
                    .exit 6))) (
                  .block 7 (
                   .reg [0, 1, 4, 12, 13] [
                     ⟨some 121, .op (.mv (.t 12)), none⟩,
                     ⟨some 122, .op (.bin .add (.t 121) (.c (.int .i64 1))), none⟩,
                     ⟨some 12, .op (.mv (.t 122)), none⟩]))))) (
               .seq (
                .block 8 (
                 .loop [0, 1, 4, 12, 13] (
                  .seq (
                   .seq (
                    .dreg [0, 1, 4, 12, 13, 139] [
                      (⟨some 123, .op (.mv (.t 12)), none⟩, []),
                      (⟨some 124, .op (.mv (.t 13)), none⟩, []),
                      (⟨some 125, .op (.bin .leq (.t 123) (.t 124)), none⟩, []),
                      (⟨some 126, .op (.mv (.t 125)), none⟩, []),
                      (⟨some 127, .op (.mv (.t 4)), some (126, true)⟩, []),
                      (⟨some 128, .op (.mv (.t 0)), some (126, true)⟩, []),
                      (⟨some 129, .op (.mv (.t 13)), some (126, true)⟩, []),
                      (⟨some 130, .op (.idxAddr 5 (.t 128) (.t 129)), some (126, true)⟩, []),
                      (⟨some 131, .op (.ldn 5 (.t 130)), some (126, true)⟩, []),
                      (⟨some 132, .op (.mv (.t 0)), some (126, true)⟩, []),
                      (⟨some 133, .op (.mv (.t 1)), some (126, true)⟩, []),
                      (⟨some 134, .op (.idxAddr 5 (.t 132) (.t 133)), some (126, true)⟩, []),
                      (⟨some 135, .op (.ldn 5 (.t 134)), some (126, true)⟩, []),
                      (⟨some 136, .call (.t 127) [(.t 131), (.t 135)], some (126, true)⟩, []),
                      (⟨some 137, .op (.bin .lss (.t 136) (.c (.int .i64 0))), some (126, true)⟩, []),
                      (⟨some 138, .op (.un .not (.t 137)), some (126, true)⟩, []),
                      (⟨some 139, .pick (.t 126) (.t 138) (.c (.bool false)), none⟩, [])]) (
                    .cond (.t 139) (
                     .skip) (
                     .exit 8))) (
                   .block 9 (
                    .reg [0, 1, 4, 12, 13] [
                      ⟨some 140, .op (.mv (.t 13)), none⟩,
                      ⟨some 141, .op (.bin .sub (.t 140) (.c (.int .i64 1))), none⟩,
                      ⟨some 13, .op (.mv (.t 141)), none⟩]))))) (
                .seq (
                 .seq (
                  .reg [0, 1, 4, 12, 13, 144] [
                    ⟨some 142, .op (.mv (.t 12)), none⟩,
                    ⟨some 143, .op (.mv (.t 13)), none⟩,
                    ⟨some 144, .op (.bin .gtr (.t 142) (.t 143)), none⟩]) (
                  .cond (.t 144) (
                   .exit 4) (
                   .skip))) (
                 .seq (
                  .dreg [0, 1, 4, 12, 13] [
                    (⟨some 145, .op (.mv (.t 0)), none⟩, []),
                    (⟨some 146, .op (.mv (.t 12)), none⟩, []),
                    (⟨some 147, .op (.mv (.t 0)), none⟩, []),
                    (⟨some 148, .op (.mv (.t 13)), none⟩, []),
                    (⟨some 149, .op (.mv (.t 0)), none⟩, []),
                    (⟨some 150, .op (.mv (.t 13)), none⟩, []),
                    (⟨some 151, .op (.idxAddr 5 (.t 149) (.t 150)), none⟩, []),
                    (⟨some 152, .op (.ldn 5 (.t 151)), none⟩, []),
                    (⟨some 153, .op (.mv (.t 0)), none⟩, []),
                    (⟨some 154, .op (.mv (.t 12)), none⟩, []),
                    (⟨some 155, .op (.idxAddr 5 (.t 153) (.t 154)), none⟩, []),
                    (⟨some 156, .op (.ldn 5 (.t 155)), none⟩, []),
                    (⟨some 157, .op (.idxAddr 5 (.t 145) (.t 146)), none⟩, []),
                    (⟨none, .op (.st 5 (.t 157) (.t 152)), none⟩, []),
                    (⟨some 158, .op (.idxAddr 5 (.t 147) (.t 148)), none⟩, []),
                    (⟨none, .op (.st 5 (.t 158) (.t 156)), none⟩, [])]) (
                  .seq (
                   .reg [0, 1, 4, 12, 13] [
                     ⟨some 159, .op (.mv (.t 12)), none⟩,
                     ⟨some 160, .op (.bin .add (.t 159) (.c (.int .i64 1))), none⟩,
                     ⟨some 12, .op (.mv (.t 160)), none⟩]) (
                   .reg [0, 1, 4, 12, 13] [
                     ⟨some 161, .op (.mv (.t 13)), none⟩,
                     ⟨some 162, .op (.bin .sub (.t 161) (.c (.int .i64 1))), none⟩,
                     ⟨some 13, .op (.mv (.t 162)), none⟩]))))))))) (
           .seq (
            .dreg [13] [
              (⟨some 163, .op (.mv (.t 0)), none⟩, []),
              (⟨some 164, .op (.mv (.t 13)), none⟩, []),
              (⟨some 165, .op (.mv (.t 0)), none⟩, []),
              (⟨some 166, .op (.mv (.t 1)), none⟩, []),
              (⟨some 167, .op (.mv (.t 0)), none⟩, []),
              (⟨some 168, .op (.mv (.t 1)), none⟩, []),
              (⟨some 169, .op (.idxAddr 5 (.t 167) (.t 168)), none⟩, []),
              (⟨some 170, .op (.ldn 5 (.t 169)), none⟩, []),
              (⟨some 171, .op (.mv (.t 0)), none⟩, []),
              (⟨some 172, .op (.mv (.t 13)), none⟩, []),
              (⟨some 173, .op (.idxAddr 5 (.t 171) (.t 172)), none⟩, []),
              (⟨some 174, .op (.ldn 5 (.t 173)), none⟩, []),
              (⟨some 175, .op (.idxAddr 5 (.t 163) (.t 164)), none⟩, []),
              (⟨none, .op (.st 5 (.t 175) (.t 170)), none⟩, []),
              (⟨some 176, .op (.idxAddr 5 (.t 165) (.t 166)), none⟩, []),
              (⟨none, .op (.st 5 (.t 176) (.t 174)), none⟩, [])]) (
            .seq (
             .reg [10, 11] [
               ⟨some 177, .op (.mv (.t 13)), none⟩,
               ⟨some 10, .op (.mv (.t 177)), none⟩,
               ⟨some 11, .op (.mv (.c (.bool false))), none⟩]) (
             .ret))))))))))))
theorem cf51 : compF Try.prog Try.f51 h51 = some (ac51, rs51) := by kernel_rfl

/-! math/bits.Len32 params 1 -/
def h52 : Hints := ⟨[(7, [2]), (6, [0, 2]), (5, [0, 2]), (4, [0, 2, 8]), (3, [0, 2]), (2, [0]), (1, [0, 2, 4]), (0, [0, 2])], [], []⟩
def rs52 : List ARes := [.t 2]
def ac52 : ACode :=
 .seq (
  .reg [0, 2] [
    ⟨some 2, .op (.mv (.c (.int .i64 0))), none⟩]) (
  .seq (
   .seq (
    .reg [0, 2, 4] [
      ⟨some 3, .op (.mv (.t 0)), none⟩,
      ⟨some 4, .op (.bin .geq (.t 3) (.c (.int .u32 65536))), none⟩]) (
    .cond (.t 4) (
     .seq (
      .reg [0] [
        ⟨some 5, .op (.mv (.t 0)), none⟩,
        ⟨some 6, .op (.bin .shr (.t 5) (.c (.int .u64 16))), none⟩,
        ⟨some 0, .op (.mv (.t 6)), none⟩]) (
      .reg [0, 2] [
        ⟨some 2, .op (.mv (.c (.int .i64 16))), none⟩])) (
     .skip))) (
   .seq (
    .seq (
     .reg [0, 2, 8] [
       ⟨some 7, .op (.mv (.t 0)), none⟩,
       ⟨some 8, .op (.bin .geq (.t 7) (.c (.int .u32 256))), none⟩]) (
     .cond (.t 8) (
      .seq (
       .reg [0, 2] [
         ⟨some 9, .op (.mv (.t 0)), none⟩,
         ⟨some 10, .op (.bin .shr (.t 9) (.c (.int .u64 8))), none⟩,
         ⟨some 0, .op (.mv (.t 10)), none⟩]) (
       .reg [0, 2] [
         ⟨some 11, .op (.mv (.t 2)), none⟩,
         ⟨some 12, .op (.bin .add (.t 11) (.c (.int .i64 8))), none⟩,
         ⟨some 2, .op (.mv (.t 12)), none⟩])) (
      .skip))) (
    .seq (
     .reg [2] [
       ⟨some 13, .op (.mv (.t 2)), none⟩,
       ⟨some 14, .op (.mv (.t 0)), none⟩,
       ⟨some 15, .op (.toInt .u8 (.t 14)), none⟩,
       ⟨some 16, .op (.idxStr (.c (.str ⟨#[0, 1, 2, 2, 3, 3, 3, 3, 4, 4, 4, 4, 4, 4, 4, 4, 5, 5, 5, 5, 5, 5, 5, 5, 5, 5, 5, 5, 5, 5, 5, 5, 6, 6, 6, 6, 6, 6, 6, 6, 6, 6, 6, 6, 6, 6, 6, 6, 6, 6, 6, 6, 6, 6, 6, 6, 6, 6, 6, 6, 6, 6, 6, 6, 7, 7, 7, 7, 7, 7, 7, 7, 7, 7, 7, 7, 7, 7, 7, 7, 7, 7, 7, 7, 7, 7, 7, 7, 7, 7, 7, 7, 7, 7, 7, 7, 7, 7, 7, 7, 7, 7, 7, 7, 7, 7, 7, 7, 7, 7, 7, 7, 7, 7, 7, 7, 7, 7, 7, 7, 7, 7, 7, 7, 7, 7, 7, 7, 8, 8, 8, 8, 8, 8, 8, 8, 8, 8, 8, 8, 8, 8, 8, 8, 8, 8, 8, 8, 8, 8, 8, 8, 8, 8, 8, 8, 8, 8, 8, 8, 8, 8, 8, 8, 8, 8, 8, 8, 8, 8, 8, 8, 8, 8, 8, 8, 8, 8, 8, 8, 8, 8, 8, 8, 8, 8, 8, 8, 8, 8, 8, 8, 8, 8, 8, 8, 8, 8, 8, 8, 8, 8, 8, 8, 8, 8, 8, 8, 8, 8, 8, 8, 8, 8, 8, 8, 8, 8, 8, 8, 8, 8, 8, 8, 8, 8, 8, 8, 8, 8, 8, 8, 8, 8, 8, 8, 8, 8, 8, 8, 8, 8, 8, 8, 8, 8, 8, 8, 8, 8, 8, 8, 8, 8, 8, 8]⟩)) (.t 15)), none⟩,
       ⟨some 17, .op (.toInt .i64 (.t 16)), none⟩,
       ⟨some 18, .op (.bin .add (.t 13) (.t 17)), none⟩,
       ⟨some 2, .op (.mv (.t 18)), none⟩]) (
     .ret))))
theorem cf52 : compF Try.prog Try.f52 h52 = some (ac52, rs52) := by kernel_rfl

/-! math/bits.Len64 params 1 -/
def h53 : Hints := ⟨[(10, [2]), (9, [0, 2]), (8, [0, 2]), (7, [0, 2, 14]), (6, [0, 2]), (5, [0, 2]), (4, [0, 2, 8]), (3, [0, 2]), (2, [0]), (1, [0, 2, 4]), (0, [0, 2])], [], []⟩
def rs53 : List ARes := [.t 2]
def ac53 : ACode :=
 .seq (
  .reg [0, 2] [
    ⟨some 2, .op (.mv (.c (.int .i64 0))), none⟩]) (
  .seq (
   .seq (
    .reg [0, 2, 4] [
      ⟨some 3, .op (.mv (.t 0)), none⟩,
      ⟨some 4, .op (.bin .geq (.t 3) (.c (.int .u64 4294967296))), none⟩]) (
    .cond (.t 4) (
     .seq (
      .reg [0] [
        ⟨some 5, .op (.mv (.t 0)), none⟩,
        ⟨some 6, .op (.bin .shr (.t 5) (.c (.int .u64 32))), none⟩,
        ⟨some 0, .op (.mv (.t 6)), none⟩]) (
      .reg [0, 2] [
        ⟨some 2, .op (.mv (.c (.int .i64 32))), none⟩])) (
     .skip))) (
   .seq (
    .seq (
     .reg [0, 2, 8] [
       ⟨some 7, .op (.mv (.t 0)), none⟩,
       ⟨some 8, .op (.bin .geq (.t 7) (.c (.int .u64 65536))), none⟩]) (
     .cond (.t 8) (
      .seq (
       .reg [0, 2] [
         ⟨some 9, .op (.mv (.t 0)), none⟩,
         ⟨some 10, .op (.bin .shr (.t 9) (.c (.int .u64 16))), none⟩,
         ⟨some 0, .op (.mv (.t 10)), none⟩]) (
       .reg [0, 2] [
         ⟨some 11, .op (.mv (.t 2)), none⟩,
         ⟨some 12, .op (.bin .add (.t 11) (.c (.int .i64 16))), none⟩,
         ⟨some 2, .op (.mv (.t 12)), none⟩])) (
      .skip))) (
    .seq (
     .seq (
      .reg [0, 2, 14] [
        ⟨some 13, .op (.mv (.t 0)), none⟩,
        ⟨some 14, .op (.bin .geq (.t 13) (.c (.int .u64 256))), none⟩]) (
      .cond (.t 14) (
       .seq (
        .reg [0, 2] [
          ⟨some 15, .op (.mv (.t 0)), none⟩,
          ⟨some 16, .op (.bin .shr (.t 15) (.c (.int .u64 8))), none⟩,
          ⟨some 0, .op (.mv (.t 16)), none⟩]) (
        .reg [0, 2] [
          ⟨some 17, .op (.mv (.t 2)), none⟩,
          ⟨some 18, .op (.bin .add (.t 17) (.c (.int .i64 8))), none⟩,
          ⟨some 2, .op (.mv (.t 18)), none⟩])) (
       .skip))) (
     .seq (
      .reg [2] [
        ⟨some 19, .op (.mv (.t 2)), none⟩,
        ⟨some 20, .op (.mv (.t 0)), none⟩,
        ⟨some 21, .op (.toInt .u8 (.t 20)), none⟩,
        ⟨some 22, .op (.idxStr (.c (.str ⟨#[0, 1, 2, 2, 3, 3, 3, 3, 4, 4, 4, 4, 4, 4, 4, 4, 5, 5, 5, 5, 5, 5, 5, 5, 5, 5, 5, 5, 5, 5, 5, 5, 6, 6, 6, 6, 6, 6, 6, 6, 6, 6, 6, 6, 6, 6, 6, 6, 6, 6, 6, 6, 6, 6, 6, 6, 6, 6, 6, 6, 6, 6, 6, 6, 7, 7, 7, 7, 7, 7, 7, 7, 7, 7, 7, 7, 7, 7, 7, 7, 7, 7, 7, 7, 7, 7, 7, 7, 7, 7, 7, 7, 7, 7, 7, 7, 7, 7, 7, 7, 7, 7, 7, 7, 7, 7, 7, 7, 7, 7, 7, 7, 7, 7, 7, 7, 7, 7, 7, 7, 7, 7, 7, 7, 7, 7, 7, 7, 8, 8, 8, 8, 8, 8, 8, 8, 8, 8, 8, 8, 8, 8, 8, 8, 8, 8, 8, 8, 8, 8, 8, 8, 8, 8, 8, 8, 8, 8, 8, 8, 8, 8, 8, 8, 8, 8, 8, 8, 8, 8, 8, 8, 8, 8, 8, 8, 8, 8, 8, 8, 8, 8, 8, 8, 8, 8, 8, 8, 8, 8, 8, 8, 8, 8, 8, 8, 8, 8, 8, 8, 8, 8, 8, 8, 8, 8, 8, 8, 8, 8, 8, 8, 8, 8, 8, 8, 8, 8, 8, 8, 8, 8, 8, 8, 8, 8, 8, 8, 8, 8, 8, 8, 8, 8, 8, 8, 8, 8, 8, 8, 8, 8, 8, 8, 8, 8, 8, 8, 8, 8, 8, 8, 8, 8, 8, 8]⟩)) (.t 21)), none⟩,
        ⟨some 23, .op (.toInt .i64 (.t 22)), none⟩,
        ⟨some 24, .op (.bin .add (.t 19) (.t 23)), none⟩,
        ⟨some 2, .op (.mv (.t 24)), none⟩]) (
      .ret)))))
theorem cf53 : compF Try.prog Try.f53 h53 = some (ac53, rs53) := by kernel_rfl

/-! slices.siftDownCmpFunc[mailcoach/api.Line] params 5 -/
def h54 : Hints := ⟨[(7, [0, 2, 3, 4, 10]), (6, [0, 2, 3, 4, 11]), (5, [0, 2, 3, 4, 10, 11, 58]), (4, [0, 2, 3, 4, 10, 11]), (3, [0, 2, 3, 4, 10, 11, 40]), (2, [0, 2, 3, 4, 10, 11, 18]), (1, [0, 2, 3, 4, 10, 11]), (0, [0, 2, 3, 4, 10])], [(1, [0, 2, 3, 4, 10])], [(3, [(0, []), (1, []), (2, []), (3, []), (4, []), (5, []), (6, []), (7, []), (8, []), (9, []), (10, []), (11, []), (12, []), (13, []), (14, []), (15, []), (16, []), (17, []), (18, []), (19, []), (20, []), (21, [])]), (5, [(0, []), (1, []), (2, []), (3, []), (4, []), (5, []), (6, []), (7, []), (8, []), (9, []), (10, []), (11, []), (12, []), (13, []), (14, []), (15, [])]), (6, [(0, []), (1, []), (2, []), (3, []), (4, []), (5, []), (6, []), (7, []), (8, []), (9, []), (10, []), (11, []), (12, []), (13, []), (14, []), (15, []), (16, []), (17, []), (18, []), (19, []), (20, []), (21, []), (22, []), (23, [])])]⟩
def rs54 : List ARes := []
def ac54 : ACode :=
 .seq (
  .reg [0, 2, 3, 4, 10] [
    ⟨some 12, .op (.mv (.t 1)), none⟩,
    ⟨some 10, .op (.mv (.t 12)), none⟩]) (
  .block 0 (
   .loop [0, 2, 3, 4, 10] (
    .block 1 (
     .seq (
      .reg [0, 2, 3, 4, 10, 11] [
        ⟨some 13, .op (.mv (.t 10)), none⟩,
        ⟨some 14, .op (.bin .mul (.c (.int .i64 2)) (.t 13)), none⟩,
        ⟨some 15, .op (.bin .add (.t 14) (.c (.int .i64 1))), none⟩,
        ⟨some 11, .op (.mv (.t 15)), none⟩]) (
      .seq (
       .seq (
        .reg [0, 2, 3, 4, 10, 11, 18] [
          ⟨some 16, .op (.mv (.t 11)), none⟩,
          ⟨some 17, .op (.mv (.t 2)), none⟩,
          ⟨some 18, .op (.bin .geq (.t 16) (.t 17)), none⟩]) (
        .cond (.t 18) (
         .exit 0) (
         .skip))) (
       .seq (
        .seq (
         .dreg [0, 2, 3, 4, 10, 11, 40] [
           (⟨some 19, .op (.mv (.t 11)), none⟩, []),
           (⟨some 20, .op (.bin .add (.t 19) (.c (.int .i64 1))), none⟩, []),
           (⟨some 21, .op (.mv (.t 2)), none⟩, []),
           (⟨some 22, .op (.bin .lss (.t 20) (.t 21)), none⟩, []),
           (⟨some 23, .op (.mv (.t 22)), none⟩, []),
           (⟨some 24, .op (.mv (.t 4)), some (23, true)⟩, []),
           (⟨some 25, .op (.mv (.t 0)), some (23, true)⟩, []),
           (⟨some 26, .op (.mv (.t 3)), some (23, true)⟩, []),
           (⟨some 27, .op (.mv (.t 11)), some (23, true)⟩, []),
           (⟨some 28, .op (.bin .add (.t 26) (.t 27)), some (23, true)⟩, []),
           (⟨some 29, .op (.idxAddr 5 (.t 25) (.t 28)), some (23, true)⟩, []),
           (⟨some 30, .op (.ldn 5 (.t 29)), some (23, true)⟩, []),
           (⟨some 31, .op (.mv (.t 0)), some (23, true)⟩, []),
           (⟨some 32, .op (.mv (.t 3)), some (23, true)⟩, []),
           (⟨some 33, .op (.mv (.t 11)), some (23, true)⟩, []),
           (⟨some 34, .op (.bin .add (.t 32) (.t 33)), some (23, true)⟩, []),
           (⟨some 35, .op (.bin .add (.t 34) (.c (.int .i64 1))), some (23, true)⟩, []),
           (⟨some 36, .op (.idxAddr 5 (.t 31) (.t 35)), some (23, true)⟩, []),
           (⟨some 37, .op (.ldn 5 (.t 36)), some (23, true)⟩, []),
           (⟨some 38, .call (.t 24) [(.t 30), (.t 37)], some (23, true)⟩, []),
           (⟨some 39, .op (.bin .lss (.t 38) (.c (.int .i64 0))), some (23, true)⟩, []),
           (⟨some 40, .pick (.t 23) (.t 39) (.c (.bool false)), none⟩, [])]) (
         .cond (.t 40) (
          .reg [0, 2, 3, 4, 10, 11] [
            ⟨some 41, .op (.mv (.t 11)), none⟩,
            ⟨some 42, .op (.bin .add (.t 41) (.c (.int .i64 1))), none⟩,
            ⟨some 11, .op (.mv (.t 42)), none⟩]) (
          .skip))) (
        .seq (
         .seq (
          .dreg [0, 2, 3, 4, 10, 11, 58] [
            (⟨some 43, .op (.mv (.t 4)), none⟩, []),
            (⟨some 44, .op (.mv (.t 0)), none⟩, []),
            (⟨some 45, .op (.mv (.t 3)), none⟩, []),
            (⟨some 46, .op (.mv (.t 10)), none⟩, []),
            (⟨some 47, .op (.bin .add (.t 45) (.t 46)), none⟩, []),
            (⟨some 48, .op (.idxAddr 5 (.t 44) (.t 47)), none⟩, []),
            (⟨some 49, .op (.ldn 5 (.t 48)), none⟩, []),
            (⟨some 50, .op (.mv (.t 0)), none⟩, []),
            (⟨some 51, .op (.mv (.t 3)), none⟩, []),
            (⟨some 52, .op (.mv (.t 11)), none⟩, []),
            (⟨some 53, .op (.bin .add (.t 51) (.t 52)), none⟩, []),
            (⟨some 54, .op (.idxAddr 5 (.t 50) (.t 53)), none⟩, []),
            (⟨some 55, .op (.ldn 5 (.t 54)), none⟩, []),
            (⟨some 56, .call (.t 43) [(.t 49), (.t 55)], none⟩, []),
            (⟨some 57, .op (.bin .lss (.t 56) (.c (.int .i64 0))), none⟩, []),
            (⟨some 58, .op (.un .not (.t 57)), none⟩, [])]) (
          .cond (.t 58) (
           .ret) (
           .skip))) (
         .seq (
          .dreg [0, 2, 3, 4, 11] [
            (⟨some 59, .op (.mv (.t 0)), none⟩, []),
            (⟨some 60, .op (.mv (.t 3)), none⟩, []),
            (⟨some 61, .op (.mv (.t 10)), none⟩, []),
            (⟨some 62, .op (.bin .add (.t 60) (.t 61)), none⟩, []),
            (⟨some 63, .op (.mv (.t 0)), none⟩, []),
            (⟨some 64, .op (.mv (.t 3)), none⟩, []),
            (⟨some 65, .op (.mv (.t 11)), none⟩, []),
            (⟨some 66, .op (.bin .add (.t 64) (.t 65)), none⟩, []),
            (⟨some 67, .op (.mv (.t 0)), none⟩, []),
            (⟨some 68, .op (.mv (.t 3)), none⟩, []),
            (⟨some 69, .op (.mv (.t 11)), none⟩, []),
            (⟨some 70, .op (.bin .add (.t 68) (.t 69)), none⟩, []),
            (⟨some 71, .op (.idxAddr 5 (.t 67) (.t 70)), none⟩, []),
            (⟨some 72, .op (.ldn 5 (.t 71)), none⟩, []),
            (⟨some 73, .op (.mv (.t 0)), none⟩, []),
            (⟨some 74, .op (.mv (.t 3)), none⟩, []),
            (⟨some 75, .op (.mv (.t 10)), none⟩, []),
            (⟨some 76, .op (.bin .add (.t 74) (.t 75)), none⟩, []),
            (⟨some 77, .op (.idxAddr 5 (.t 73) (.t 76)), none⟩, []),
            (⟨some 78, .op (.ldn 5 (.t 77)), none⟩, []),
            (⟨some 79, .op (.idxAddr 5 (.t 59) (.t 62)), none⟩, []),
            (⟨none, .op (.st 5 (.t 79) (.t 72)), none⟩, []),
            (⟨some 80, .op (.idxAddr 5 (.t 63) (.t 66)), none⟩, []),
            (⟨none, .op (.st 5 (.t 80) (.t 78)), none⟩, [])]) (
          .reg [0, 2, 3, 4, 10] [
            ⟨some 81, .op (.mv (.t 11)), none⟩,
            ⟨some 10, .op (.mv (.t 81)), none⟩])))))))))
theorem cf54 : compF Try.prog Try.f54 h54 = some (ac54, rs54) := by kernel_rfl

/-! slices.nextPowerOfTwo params 1 -/
def h55 : Hints := ⟨[(1, [2]), (0, [0])], [], []⟩
def rs55 : List ARes := [.t 2]
def ac55 : ACode :=
 .seq (
  .reg [0] [
    ⟨some 2, .op (.mv (.c (.int .u64 0))), none⟩]) (
  .seq (
   .reg [2] [
     ⟨some 3, .op (.mv (.t 0)), none⟩,
     ⟨some 4, .op (.toInt .u64 (.t 3)), none⟩,
     ⟨some 5, .call (.c (.fn 41 [] [])) [(.t 4)], none⟩,
     ⟨some 6, .op (.bin .shl (.c (.int .u64 1)) (.t 5)), none⟩,
     ⟨some 2, .op (.mv (.t 6)), none⟩]) (
   .ret))
theorem cf55 : compF Try.prog Try.f55 h55 = some (ac55, rs55) := by kernel_rfl

/-! (*slices.xorshift).Next params 1 -/
def h56 : Hints := ⟨[(4, [2]), (3, [0]), (2, [0]), (1, [0]), (0, [0])], [], [(1, [(0, []), (1, []), (2, []), (3, []), (4, []), (5, []), (6, []), (7, []), (8, []), (9, [])]), (2, [(0, []), (1, []), (2, []), (3, []), (4, []), (5, []), (6, []), (7, []), (8, []), (9, [])]), (3, [(0, []), (1, []), (2, []), (3, []), (4, []), (5, []), (6, []), (7, []), (8, []), (9, [])])]⟩
def rs56 : List ARes := [.t 2]
def ac56 : ACode :=
 .seq (
  .reg [0] [
    ⟨some 2, .op (.mv (.c (.int .u64 0))), none⟩]) (
  .seq (
   .dreg [0] [
     (⟨some 3, .op (.mv (.t 0)), none⟩, []),
     (⟨some 4, .op (.nilCheck (.t 3)), none⟩, []),
     (⟨some 5, .op (.ld1 (.t 4)), none⟩, []),
     (⟨some 6, .op (.mv (.t 0)), none⟩, []),
     (⟨some 7, .op (.nilCheck (.t 6)), none⟩, []),
     (⟨some 8, .op (.ld1 (.t 7)), none⟩, []),
     (⟨some 9, .op (.bin .shl (.t 8) (.c (.int .u64 13))), none⟩, []),
     (⟨some 10, .op (.bin .xor (.t 5) (.t 9)), none⟩, []),
     (⟨some 11, .op (.nilCheck (.t 3)), none⟩, []),
     (⟨none, .op (.st 1 (.t 11) (.t 10)), none⟩, [])]) (
   .seq (
    .dreg [0] [
      (⟨some 12, .op (.mv (.t 0)), none⟩, []),
      (⟨some 13, .op (.nilCheck (.t 12)), none⟩, []),
      (⟨some 14, .op (.ld1 (.t 13)), none⟩, []),
      (⟨some 15, .op (.mv (.t 0)), none⟩, []),
      (⟨some 16, .op (.nilCheck (.t 15)), none⟩, []),
      (⟨some 17, .op (.ld1 (.t 16)), none⟩, []),
      (⟨some 18, .op (.bin .shr (.t 17) (.c (.int .u64 7))), none⟩, []),
      (⟨some 19, .op (.bin .xor (.t 14) (.t 18)), none⟩, []),
      (⟨some 20, .op (.nilCheck (.t 12)), none⟩, []),
      (⟨none, .op (.st 1 (.t 20) (.t 19)), none⟩, [])]) (
    .seq (
     .dreg [0] [
       (⟨some 21, .op (.mv (.t 0)), none⟩, []),
       (⟨some 22, .op (.nilCheck (.t 21)), none⟩, []),
       (⟨some 23, .op (.ld1 (.t 22)), none⟩, []),
       (⟨some 24, .op (.mv (.t 0)), none⟩, []),
       (⟨some 25, .op (.nilCheck (.t 24)), none⟩, []),
       (⟨some 26, .op (.ld1 (.t 25)), none⟩, []),
       (⟨some 27, .op (.bin .shl (.t 26) (.c (.int .u64 17))), none⟩, []),
       (⟨some 28, .op (.bin .xor (.t 23) (.t 27)), none⟩, []),
       (⟨some 29, .op (.nilCheck (.t 21)), none⟩, []),
       (⟨none, .op (.st 1 (.t 29) (.t 28)), none⟩, [])]) (
     .seq (
      .reg [2] [
        ⟨some 30, .op (.mv (.t 0)), none⟩,
        ⟨some 31, .op (.nilCheck (.t 30)), none⟩,
        ⟨some 32, .op (.ld1 (.t 31)), none⟩,
        ⟨some 2, .op (.mv (.t 32)), none⟩]) (
      .ret)))))
theorem cf56 : compF Try.prog Try.f56 h56 = some (ac56, rs56) := by kernel_rfl

/-! slices.medianAdjacentCmpFunc[mailcoach/api.Line] params 4 -/
def h57 : Hints := ⟨[(1, [8]), (0, [0, 1, 2, 3])], [], []⟩
def rs57 : List ARes := [.t 8]
def ac57 : ACode :=
 .seq (
  .reg [0, 1, 2, 3] [
    ⟨some 8, .op (.mv (.c (.int .i64 0))), none⟩]) (
  .seq (
   .reg [8] [
     ⟨some 9, .op (.mv (.t 0)), none⟩,
     ⟨some 10, .op (.mv (.t 1)), none⟩,
     ⟨some 11, .op (.bin .sub (.t 10) (.c (.int .i64 1))), none⟩,
     ⟨some 12, .op (.mv (.t 1)), none⟩,
     ⟨some 13, .op (.mv (.t 1)), none⟩,
     ⟨some 14, .op (.bin .add (.t 13) (.c (.int .i64 1))), none⟩,
     ⟨some 15, .op (.mv (.t 2)), none⟩,
     ⟨some 16, .op (.mv (.t 3)), none⟩,
     ⟨some 17, .call (.c (.fn 58 [] [])) [(.t 9), (.t 11), (.t 12), (.t 14), (.t 15), (.t 16)], none⟩,
     ⟨some 8, .op (.mv (.t 17)), none⟩]) (
   .ret))
theorem cf57 : compF Try.prog Try.f57 h57 = some (ac57, rs57) := by kernel_rfl

/-! slices.medianCmpFunc[mailcoach/api.Line] params 6 -/
def h58 : Hints := ⟨[(4, [12]), (3, [2]), (2, [0, 1, 2, 4, 5]), (1, [0, 1, 2, 3, 4, 5]), (0, [0, 1, 2, 3, 4, 5])], [], []⟩
def rs58 : List ARes := [.t 12]
def ac58 : ACode :=
 .seq (
  .reg [0, 1, 2, 3, 4, 5] [
    ⟨some 12, .op (.mv (.c (.int .i64 0))), none⟩]) (
  .seq (
   .reg [0, 1, 2, 3, 4, 5] [
     ⟨some 14, .op (.mv (.t 0)), none⟩,
     ⟨some 15, .op (.mv (.t 1)), none⟩,
     ⟨some 16, .op (.mv (.t 2)), none⟩,
     ⟨some 17, .op (.mv (.t 4)), none⟩,
     ⟨some 18, .op (.mv (.t 5)), none⟩,
     ⟨some 19, .call (.c (.fn 59 [] [])) [(.t 14), (.t 15), (.t 16), (.t 17), (.t 18)], none⟩,
     ⟨some 13, .op (.mv (.t 19)), none⟩,
     ⟨some 20, .op (.extract (.t 13) 0), none⟩,
     ⟨some 21, .op (.extract (.t 13) 1), none⟩,
     ⟨some 1, .op (.mv (.t 20)), none⟩,
     ⟨some 2, .op (.mv (.t 21)), none⟩]) (
   .seq (
    .reg [0, 1, 2, 4, 5] [
      ⟨some 23, .op (.mv (.t 0)), none⟩,
      ⟨some 24, .op (.mv (.t 2)), none⟩,
      ⟨some 25, .op (.mv (.t 3)), none⟩,
      ⟨some 26, .op (.mv (.t 4)), none⟩,
      ⟨some 27, .op (.mv (.t 5)), none⟩,
      ⟨some 28, .call (.c (.fn 59 [] [])) [(.t 23), (.t 24), (.t 25), (.t 26), (.t 27)], none⟩,
      ⟨some 22, .op (.mv (.t 28)), none⟩,
      ⟨some 29, .op (.extract (.t 22) 0), none⟩,
      ⟨some 30, .op (.extract (.t 22) 1), none⟩,
      ⟨some 2, .op (.mv (.t 29)), none⟩,
      ⟨some 3, .op (.mv (.t 30)), none⟩]) (
    .seq (
     .reg [2] [
       ⟨some 32, .op (.mv (.t 0)), none⟩,
       ⟨some 33, .op (.mv (.t 1)), none⟩,
       ⟨some 34, .op (.mv (.t 2)), none⟩,
       ⟨some 35, .op (.mv (.t 4)), none⟩,
       ⟨some 36, .op (.mv (.t 5)), none⟩,
       ⟨some 37, .call (.c (.fn 59 [] [])) [(.t 32), (.t 33), (.t 34), (.t 35), (.t 36)], none⟩,
       ⟨some 31, .op (.mv (.t 37)), none⟩,
       ⟨some 38, .op (.extract (.t 31) 0), none⟩,
       ⟨some 39, .op (.extract (.t 31) 1), none⟩,
       ⟨some 1, .op (.mv (.t 38)), none⟩,
       ⟨some 2, .op (.mv (.t 39)), none⟩]) (
     .seq (
      .reg [12] [
        ⟨some 40, .op (.mv (.t 2)), none⟩,
        ⟨some 12, .op (.mv (.t 40)), none⟩]) (
      .ret)))))
theorem cf58 : compF Try.prog Try.f58 h58 = some (ac58, rs58) := by kernel_rfl

/-! slices.order2CmpFunc[mailcoach/api.Line] params 5 -/
def h59 : Hints := ⟨[(4, [10, 11]), (3, [10, 11]), (2, [1, 2]), (1, [1, 2, 3, 22]), (0, [0, 1, 2, 3, 4])], [], [(1, [(0, []), (1, []), (2, []), (3, []), (4, []), (5, []), (6, []), (7, []), (8, []), (9, []), (10, [])])]⟩
def rs59 : List ARes := [.t 10, .t 11]
def ac59 : ACode :=
 .seq (
  .reg [0, 1, 2, 3, 4] [
    ⟨some 10, .op (.mv (.c (.int .i64 0))), none⟩,
    ⟨some 11, .op (.mv (.c (.int .i64 0))), none⟩]) (
  .seq (
   .seq (
    .dreg [1, 2, 3, 22] [
      (⟨some 12, .op (.mv (.t 4)), none⟩, []),
      (⟨some 13, .op (.mv (.t 0)), none⟩, []),
      (⟨some 14, .op (.mv (.t 2)), none⟩, []),
      (⟨some 15, .op (.idxAddr 5 (.t 13) (.t 14)), none⟩, []),
      (⟨some 16, .op (.ldn 5 (.t 15)), none⟩, []),
      (⟨some 17, .op (.mv (.t 0)), none⟩, []),
      (⟨some 18, .op (.mv (.t 1)), none⟩, []),
      (⟨some 19, .op (.idxAddr 5 (.t 17) (.t 18)), none⟩, []),
      (⟨some 20, .op (.ldn 5 (.t 19)), none⟩, []),
      (⟨some 21, .call (.t 12) [(.t 16), (.t 20)], none⟩, []),
      (⟨some 22, .op (.bin .lss (.t 21) (.c (.int .i64 0))), none⟩, [])]) (
    .cond (.t 22) (
     .seq (
      .reg [1, 2] [
        ⟨some 23, .op (.mv (.t 3)), none⟩,
        ⟨some 24, .op (.nilCheck (.t 23)), none⟩,
        ⟨some 25, .op (.ld1 (.t 24)), none⟩,
        ⟨some 26, .op (.bin .add (.t 25) (.c (.int .i64 1))), none⟩,
        ⟨some 27, .op (.nilCheck (.t 23)), none⟩,
        ⟨none, .op (.st 1 (.t 27) (.t 26)), none⟩]) (
      .seq (
       .reg [10, 11] [
         ⟨some 28, .op (.mv (.t 2)), none⟩,
         ⟨some 29, .op (.mv (.t 1)), none⟩,
         ⟨some 10, .op (.mv (.t 28)), none⟩,
         ⟨some 11, .op (.mv (.t 29)), none⟩]) (
       .ret))) (
     .skip))) (
   .seq (
    .reg [10, 11] [
      ⟨some 30, .op (.mv (.t 1)), none⟩,
      ⟨some 31, .op (.mv (.t 2)), none⟩,
      ⟨some 10, .op (.mv (.t 30)), none⟩,
      ⟨some 11, .op (.mv (.t 31)), none⟩]) (
    .ret)))
theorem cf59 : compF Try.prog Try.f59 h59 = some (ac59, rs59) := by kernel_rfl


end Go.Proofs.Ytieieknhhfallaa.AM
