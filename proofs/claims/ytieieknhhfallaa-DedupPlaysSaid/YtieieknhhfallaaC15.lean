/- The code of chapter 15, told as the abstract machine's. -/
import Derived.Test.YtieieknhhfallaaAm3
import Derived.Test.YtieieknhhfallaaProg
import Derived.KernelRfl
namespace Go.Proofs.Ytieieknhhfallaa.AM
set_option maxRecDepth 100000
set_option maxHeartbeats 4000000
theorem hmx : Try.prog.follows .mixedOrders = true := by kernel_rfl

/-! mailcoach/mailcoachlaw15.DedupPlays params 1 -/
def h5 : Hints := ⟨[(25, [2]), (24, [3, 4, 14, 15, 16]), (23, [2]), (22, [3, 4, 14, 15, 16, 123]), (21, [3, 4, 6, 7, 8, 14, 15, 16]), (16, [2]), (15, [3, 4, 6, 14, 15, 16, 54]), (20, [2]), (19, [3, 4, 6, 14, 15, 16, 74]), (11, [3, 4, 6, 14, 15, 16]), (10, [3, 4, 6, 14, 15, 16]), (18, [3, 4, 6, 14, 15, 16, 55]), (17, [3, 4, 6, 14, 15, 16, 33, 55]), (14, [3, 4, 6, 14, 15, 16, 33, 38]), (13, [3, 4, 6, 14, 15, 16, 33, 38]), (12, [3, 4, 6, 14, 15, 16, 33, 38]), (9, [3, 4, 6, 14, 15, 16, 33]), (8, [3, 4, 6, 14, 15, 16]), (7, [3, 4, 6, 14, 15, 16, 28]), (6, [3, 4, 5, 6, 14, 15, 16]), (5, [3, 4, 14, 15, 16, 17]), (4, [3, 4, 14, 15, 16]), (3, [0, 3, 4]), (2, [2]), (1, [0, 10]), (0, [0])], [(5, [3, 4, 14, 15, 16])], [(15, [(0, []), (1, []), (2, []), (3, []), (4, []), (6, []), (7, []), (8, []), (9, []), (10, []), (5, [7, 9]), (11, []), (12, [])]), (19, [(0, []), (1, []), (2, []), (3, []), (4, []), (5, []), (6, []), (8, []), (9, []), (10, []), (11, []), (12, []), (13, []), (14, []), (7, [9, 11, 13]), (15, []), (16, [])]), (22, [(0, []), (2, []), (1, []), (3, []), (4, []), (5, []), (6, []), (7, []), (10, []), (8, []), (9, []), (11, [10]), (12, []), (13, []), (14, []), (15, []), (16, []), (17, []), (18, []), (19, []), (20, []), (21, []), (22, []), (23, []), (24, []), (25, []), (26, []), (27, []), (28, []), (29, []), (30, []), (31, []), (32, []), (33, []), (34, []), (35, []), (36, []), (37, []), (38, []), (39, []), (40, []), (41, [])])]⟩
def rs5 : List ARes := [.t 2]
def ac5 : ACode :=
 .seq (
  .reg [0] [
    ⟨some 2, .op (.mv (.c (.bool false))), none⟩]) (
  .seq (
   .seq (
    .reg [0, 10] [
      ⟨some 9, .call (.c (.fn 6 [] [])) [], none⟩,
      ⟨some 10, .op (.un .not (.t 9)), none⟩]) (
    .cond (.t 10) (
     .seq (
      .reg [2] [
        ⟨some 2, .op (.mv (.c (.bool false))), none⟩]) (
      .ret)) (
     .skip))) (
   .seq (
    .reg [0, 3, 4] [
      ⟨some 11, .call (.c (.fn 7 [] [])) [], none⟩,
      ⟨some 12, .op (.build [.nilsl] []), none⟩,
      ⟨some 13, .op (.box (.t 12)), none⟩,
      ⟨some 3, .op (.mv (.t 11)), none⟩,
      ⟨some 4, .op (.mv (.t 13)), none⟩]) (
    .seq (
     .seq (
      .reg [3, 4, 14, 15, 16] [
        ⟨some 14, .op (.mv (.t 0)), none⟩,
        ⟨some 15, .op (.len 1 (.t 14)), none⟩,
        ⟨some 16, .op (.mv (.c (.int .i64 0))), none⟩]) (
      .block 0 (
       .loop [3, 4, 14, 15, 16] (
        .seq (
         .reg [3, 4, 14, 15, 16, 17] [
           ⟨some 17, .op (.bin .lss (.t 16) (.t 15)), none⟩]) (
         .seq (
          .cond (.t 17) (
           .skip) (
           .exit 0)) (
          .seq (
           .block 1 (
            .seq (
             .reg [3, 4, 5, 6, 14, 15, 16] [
               ⟨some 18, .op (.mv (.t 16)), none⟩,
               ⟨some 19, .op (.idxAddr 6 (.t 14) (.t 16)), none⟩,
               ⟨some 20, .op (.ldn 6 (.t 19)), none⟩,
               ⟨some 6, .op (.alloc [.int .u8 0, .str ⟨#[]⟩, .int .u64 0, .int .u64 0, .int .u64 0, .bool false]), none⟩,
               ⟨some 5, .op (.mv (.t 18)), none⟩,
               ⟨none, .op (.st 6 (.t 6) (.t 20)), none⟩]) (
             .seq (
              .seq (
               .reg [3, 4, 6, 14, 15, 16, 28] [
                 ⟨some 21, .op (.mv (.t 5)), none⟩,
                 ⟨some 22, .op (.bin .gtr (.t 21) (.c (.int .i64 100))), none⟩,
                 ⟨some 23, .op (.mv (.t 22)), none⟩,
                 ⟨some 24, .op (.fieldAddr 1 (.t 6)), some (23, false)⟩,
                 ⟨some 25, .op (.ld1 (.t 24)), some (23, false)⟩,
                 ⟨some 26, .op (.len 9 (.t 25)), some (23, false)⟩,
                 ⟨some 27, .op (.bin .gtr (.t 26) (.c (.int .i64 200))), some (23, false)⟩,
                 ⟨some 28, .pick (.t 23) (.c (.bool true)) (.t 27), none⟩]) (
               .cond (.t 28) (
                .exit 0) (
                .skip))) (
              .seq (
               .reg [3, 4, 6, 14, 15, 16] [
                 ⟨some 29, .op (.ldn 6 (.t 6)), none⟩,
                 ⟨some 30, .call (.c (.fn 14 [] [])) [(.t 29)], none⟩,
                 ⟨none, .op (.st 6 (.t 6) (.t 30)), none⟩]) (
               .seq (
                .seq (
                 .reg [3, 4, 6, 14, 15, 16, 33] [
                   ⟨some 31, .op (.fieldAddr 0 (.t 6)), none⟩,
                   ⟨some 32, .op (.ld1 (.t 31)), none⟩,
                   ⟨some 33, .op (.bin .rem (.t 32) (.c (.int .u8 6))), none⟩]) (
                 .block 2 (
                  .seq (
                   .seq (
                    .reg [3, 4, 6, 14, 15, 16, 33, 38] [
                      ⟨some 39, .op (.bin .eql (.t 33) (.c (.int .u8 0))), none⟩,
                      ⟨some 38, .op (.mv (.t 39)), none⟩]) (
                    .cond (.t 38) (
                     .skip) (
                     .seq (
                      .reg [3, 4, 6, 14, 15, 16, 33, 38] [
                        ⟨some 40, .op (.bin .eql (.t 33) (.c (.int .u8 1))), none⟩,
                        ⟨some 38, .op (.mv (.t 40)), none⟩]) (
                      .cond (.t 38) (
                       .skip) (
                       .reg [3, 4, 6, 14, 15, 16, 33, 38] [
                         ⟨some 41, .op (.bin .eql (.t 33) (.c (.int .u8 2))), none⟩,
                         ⟨some 38, .op (.mv (.t 41)), none⟩]))))) (
                   .cond (.t 38) (
                    .seq (
                     .dreg [3, 4, 6, 14, 15, 16, 54] [
                       (⟨some 42, .op (.mv (.t 3)), none⟩, []),
                       (⟨some 43, .op (.fieldAddr 1 (.t 6)), none⟩, []),
                       (⟨some 44, .op (.ld1 (.t 43)), none⟩, []),
                       (⟨some 45, .op (.fieldAddr 2 (.t 6)), none⟩, []),
                       (⟨some 46, .op (.ld1 (.t 45)), none⟩, []),
                       (⟨some 48, .op (.mv (.t 4)), none⟩, []),
                       (⟨some 49, .op (.fieldAddr 1 (.t 6)), none⟩, []),
                       (⟨some 50, .op (.ld1 (.t 49)), none⟩, []),
                       (⟨some 51, .op (.fieldAddr 2 (.t 6)), none⟩, []),
                       (⟨some 52, .op (.ld1 (.t 51)), none⟩, []),
                       (⟨some 47, .call (.c (.fn 8 [] [])) [(.t 42), (.t 44), (.t 46)], none⟩, [7, 9]),
                       (⟨some 53, .call (.c (.fn 15 [] [])) [(.t 48), (.t 50), (.t 52)], none⟩, []),
                       (⟨some 54, .op (.bin .neq (.t 47) (.t 53)), none⟩, [])]) (
                     .cond (.t 54) (
                      .seq (
                       .reg [2] [
                         ⟨some 2, .op (.mv (.c (.bool false))), none⟩]) (
                       .ret)) (
                      .skip))) (
                    .seq (
                     .seq (
                      .reg [3, 4, 6, 14, 15, 16, 33, 55] [
                        ⟨some 56, .op (.bin .eql (.t 33) (.c (.int .u8 3))), none⟩,
                        ⟨some 55, .op (.mv (.t 56)), none⟩]) (
                      .cond (.t 55) (
                       .skip) (
                       .reg [3, 4, 6, 14, 15, 16, 55] [
                         ⟨some 57, .op (.bin .eql (.t 33) (.c (.int .u8 4))), none⟩,
                         ⟨some 55, .op (.mv (.t 57)), none⟩]))) (
                     .cond (.t 55) (
                      .seq (
                       .dreg [3, 4, 6, 14, 15, 16, 74] [
                         (⟨some 58, .op (.mv (.t 3)), none⟩, []),
                         (⟨some 59, .op (.fieldAddr 1 (.t 6)), none⟩, []),
                         (⟨some 60, .op (.ld1 (.t 59)), none⟩, []),
                         (⟨some 61, .op (.fieldAddr 2 (.t 6)), none⟩, []),
                         (⟨some 62, .op (.ld1 (.t 61)), none⟩, []),
                         (⟨some 63, .op (.fieldAddr 3 (.t 6)), none⟩, []),
                         (⟨some 64, .op (.ldn 2 (.t 63)), none⟩, []),
                         (⟨some 66, .op (.mv (.t 4)), none⟩, []),
                         (⟨some 67, .op (.fieldAddr 1 (.t 6)), none⟩, []),
                         (⟨some 68, .op (.ld1 (.t 67)), none⟩, []),
                         (⟨some 69, .op (.fieldAddr 2 (.t 6)), none⟩, []),
                         (⟨some 70, .op (.ld1 (.t 69)), none⟩, []),
                         (⟨some 71, .op (.fieldAddr 3 (.t 6)), none⟩, []),
                         (⟨some 72, .op (.ldn 2 (.t 71)), none⟩, []),
                         (⟨some 65, .call (.c (.fn 9 [] [])) [(.t 58), (.t 60), (.t 62), (.t 64)], none⟩, [9, 11, 13]),
                         (⟨some 73, .call (.c (.fn 16 [] [])) [(.t 66), (.t 68), (.t 70), (.t 72)], none⟩, []),
                         (⟨some 74, .op (.bin .neq (.t 65) (.t 73)), none⟩, [])]) (
                       .cond (.t 74) (
                        .seq (
                         .reg [2] [
                           ⟨some 2, .op (.mv (.c (.bool false))), none⟩]) (
                         .ret)) (
                        .skip))) (
                      .seq (
                       .reg [3, 4, 6, 14, 15, 16] [
                         ⟨some 34, .op (.mv (.t 3)), none⟩,
                         ⟨some 35, .call (.c (.fn 10 [] [])) [(.t 34)], none⟩]) (
                       .reg [3, 4, 6, 14, 15, 16] [
                         ⟨some 36, .op (.mv (.t 4)), none⟩,
                         ⟨some 37, .call (.c (.fn 17 [] [])) [(.t 36)], none⟩])))))))) (
                .seq (
                 .reg [3, 4, 6, 7, 8, 14, 15, 16] [
                   ⟨some 76, .op (.mv (.t 3)), none⟩,
                   ⟨some 77, .op (.fieldAddr 1 (.t 6)), none⟩,
                   ⟨some 78, .op (.ld1 (.t 77)), none⟩,
                   ⟨some 79, .call (.c (.fn 11 [] [])) [(.t 76), (.t 78)], none⟩,
                   ⟨some 75, .op (.mv (.t 79)), none⟩,
                   ⟨some 80, .op (.extract (.t 75) 0), none⟩,
                   ⟨some 81, .op (.extract (.t 75) 1), none⟩,
                   ⟨some 7, .op (.alloc [.str ⟨#[]⟩, .int .u64 0, .int .u64 0, .int .u64 0, .int .u64 0]), none⟩,
                   ⟨none, .op (.st 5 (.t 7) (.t 80)), none⟩,
                   ⟨some 8, .op (.mv (.t 81)), none⟩]) (
                 .seq (
                  .dreg [3, 4, 14, 15, 16, 123] [
                    (⟨some 82, .op (.mv (.t 3)), none⟩, []),
                    (⟨some 84, .op (.mv (.t 4)), none⟩, []),
                    (⟨some 83, .call (.c (.fn 12 [] [])) [(.t 82)], none⟩, []),
                    (⟨some 85, .call (.c (.fn 19 [] [])) [(.t 84)], none⟩, []),
                    (⟨some 86, .call (.c (.fn 18 [] [])) [(.t 83), (.t 85)], none⟩, []),
                    (⟨some 87, .op (.un .not (.t 86)), none⟩, []),
                    (⟨some 88, .op (.mv (.t 87)), none⟩, []),
                    (⟨some 89, .op (.mv (.t 3)), some (88, false)⟩, []),
                    (⟨some 92, .op (.mv (.t 4)), some (88, false)⟩, []),
                    (⟨some 90, .call (.c (.fn 20 [] [])) [(.t 89)], some (88, false)⟩, []),
                    (⟨some 91, .op (.bytesStr (.t 90)), some (88, false)⟩, []),
                    (⟨some 93, .call (.c (.fn 21 [] [])) [(.t 92), (.c (.nilsl))], some (88, false)⟩, [10]),
                    (⟨some 94, .op (.bytesStr (.t 93)), some (88, false)⟩, []),
                    (⟨some 95, .op (.bin .neq (.t 91) (.t 94)), some (88, false)⟩, []),
                    (⟨some 96, .pick (.t 88) (.c (.bool true)) (.t 95), none⟩, []),
                    (⟨some 97, .op (.mv (.t 96)), none⟩, []),
                    (⟨some 98, .op (.mv (.t 8)), some (97, false)⟩, []),
                    (⟨some 99, .op (.mv (.t 4)), some (97, false)⟩, []),
                    (⟨some 100, .op (.fieldAddr 1 (.t 6)), some (97, false)⟩, []),
                    (⟨some 101, .op (.ld1 (.t 100)), some (97, false)⟩, []),
                    (⟨some 102, .call (.c (.fn 22 [] [])) [(.t 99), (.t 101)], some (97, false)⟩, []),
                    (⟨some 103, .op (.eqb true (.t 98) (.t 102)), some (97, false)⟩, []),
                    (⟨some 104, .pick (.t 97) (.c (.bool true)) (.t 103), none⟩, []),
                    (⟨some 105, .op (.mv (.t 104)), none⟩, []),
                    (⟨some 106, .op (.mv (.t 8)), some (105, false)⟩, []),
                    (⟨some 107, .op (.mv (.t 106)), some (105, false)⟩, []),
                    (⟨some 108, .op (.fieldAddr 0 (.t 7)), some (107, true)⟩, []),
                    (⟨some 109, .op (.ld1 (.t 108)), some (107, true)⟩, []),
                    (⟨some 110, .op (.fieldAddr 1 (.t 6)), some (107, true)⟩, []),
                    (⟨some 111, .op (.ld1 (.t 110)), some (107, true)⟩, []),
                    (⟨some 112, .op (.bin .neq (.t 109) (.t 111)), some (107, true)⟩, []),
                    (⟨some 113, .pick (.t 107) (.t 112) (.c (.bool false)), some (105, false)⟩, []),
                    (⟨some 114, .pick (.t 105) (.c (.bool true)) (.t 113), none⟩, []),
                    (⟨some 115, .op (.mv (.t 114)), none⟩, []),
                    (⟨some 116, .op (.mv (.t 8)), some (115, false)⟩, []),
                    (⟨some 117, .op (.un .not (.t 116)), some (115, false)⟩, []),
                    (⟨some 118, .op (.mv (.t 117)), some (115, false)⟩, []),
                    (⟨some 119, .op (.ldn 5 (.t 7)), some (118, true)⟩, []),
                    (⟨some 120, .op (.build [.str ⟨#[]⟩, .int .u64 0, .int .u64 0, .int .u64 0, .int .u64 0] []), some (118, true)⟩, []),
                    (⟨some 121, .op (.eqs true [2, 1, 1, 1, 1] (.t 119) (.t 120)), some (118, true)⟩, []),
                    (⟨some 122, .pick (.t 118) (.t 121) (.c (.bool false)), some (115, false)⟩, []),
                    (⟨some 123, .pick (.t 115) (.c (.bool true)) (.t 122), none⟩, [])]) (
                  .cond (.t 123) (
                   .seq (
                    .reg [2] [
                      ⟨some 2, .op (.mv (.c (.bool false))), none⟩]) (
                    .ret)) (
                   .skip))))))))) (
           .reg [3, 4, 14, 15, 16] [
             ⟨some 124, .op (.bin .add (.t 16) (.c (.int .i64 1))), none⟩,
             ⟨some 16, .op (.mv (.t 124)), none⟩]))))))) (
     .seq (
      .reg [2] [
        ⟨some 2, .op (.mv (.c (.bool true))), none⟩]) (
      .ret)))))
theorem cf5 : compF Try.prog Try.f5 h5 = some (ac5, rs5) := by kernel_rfl

/-! mailcoach/mailcoachlaw15.Awake params 0 -/
def h6 : Hints := ⟨[(7, [0]), (6, [2, 3, 4, 5, 6, 7, 8]), (5, [1, 2, 3, 4, 5, 6]), (4, [1, 2, 3, 4, 5, 6]), (3, [1, 2, 3, 4]), (2, [1, 2, 3]), (1, [1]), (0, [])], [], []⟩
def rs6 : List ARes := [.t 0]
def ac6 : ACode :=
 .seq (
  .reg [] [
    ⟨some 0, .op (.mv (.c (.bool false))), none⟩]) (
  .seq (
   .reg [1] [
     ⟨some 9, .call (.c (.fn 7 [] [])) [], none⟩,
     ⟨some 1, .op (.mv (.t 9)), none⟩]) (
   .seq (
    .reg [1, 2, 3] [
      ⟨some 10, .op (.mv (.t 1)), none⟩,
      ⟨some 11, .call (.c (.fn 8 [] [])) [(.t 10), (.c (.str ⟨#[97]⟩)), (.c (.int .u64 3))], none⟩,
      ⟨some 12, .op (.mv (.t 1)), none⟩,
      ⟨some 13, .call (.c (.fn 8 [] [])) [(.t 12), (.c (.str ⟨#[97]⟩)), (.c (.int .u64 3))], none⟩,
      ⟨some 2, .op (.mv (.t 11)), none⟩,
      ⟨some 3, .op (.mv (.t 13)), none⟩]) (
    .seq (
     .reg [1, 2, 3, 4] [
       ⟨some 14, .op (.mv (.t 1)), none⟩,
       ⟨some 15, .op (.build [.int .u64 0, .int .u64 0] [(0, 1, (.c (.int .u64 1)))]), none⟩,
       ⟨some 16, .call (.c (.fn 9 [] [])) [(.t 14), (.c (.str ⟨#[97]⟩)), (.c (.int .u64 3)), (.t 15)], none⟩,
       ⟨some 4, .op (.mv (.t 16)), none⟩]) (
     .seq (
      .reg [1, 2, 3, 4, 5, 6] [
        ⟨some 17, .op (.mv (.t 1)), none⟩,
        ⟨some 18, .call (.c (.fn 8 [] [])) [(.t 17), (.c (.str ⟨#[97]⟩)), (.c (.int .u64 2))], none⟩,
        ⟨some 19, .op (.mv (.t 1)), none⟩,
        ⟨some 20, .call (.c (.fn 8 [] [])) [(.t 19), (.c (.str ⟨#[97]⟩)), (.c (.int .u64 5))], none⟩,
        ⟨some 5, .op (.mv (.t 18)), none⟩,
        ⟨some 6, .op (.mv (.t 20)), none⟩]) (
      .seq (
       .reg [1, 2, 3, 4, 5, 6] [
         ⟨some 21, .op (.mv (.t 1)), none⟩,
         ⟨some 22, .call (.c (.fn 10 [] [])) [(.t 21)], none⟩]) (
       .seq (
        .reg [2, 3, 4, 5, 6, 7, 8] [
          ⟨some 24, .op (.mv (.t 1)), none⟩,
          ⟨some 25, .call (.c (.fn 11 [] [])) [(.t 24), (.c (.str ⟨#[97]⟩))], none⟩,
          ⟨some 23, .op (.mv (.t 25)), none⟩,
          ⟨some 26, .op (.extract (.t 23) 0), none⟩,
          ⟨some 27, .op (.extract (.t 23) 1), none⟩,
          ⟨some 7, .op (.alloc [.str ⟨#[]⟩, .int .u64 0, .int .u64 0, .int .u64 0, .int .u64 0]), none⟩,
          ⟨none, .op (.st 5 (.t 7) (.t 26)), none⟩,
          ⟨some 8, .op (.mv (.t 27)), none⟩]) (
        .seq (
         .reg [0] [
           ⟨some 28, .op (.mv (.t 2)), none⟩,
           ⟨some 29, .op (.bin .eql (.t 28) (.c (.int .i64 0))), none⟩,
           ⟨some 30, .op (.mv (.t 29)), none⟩,
           ⟨some 31, .op (.mv (.t 3)), some (30, true)⟩,
           ⟨some 32, .op (.bin .eql (.t 31) (.c (.int .i64 41))), some (30, true)⟩,
           ⟨some 33, .pick (.t 30) (.t 32) (.c (.bool false)), none⟩,
           ⟨some 34, .op (.mv (.t 33)), none⟩,
           ⟨some 35, .op (.mv (.t 4)), some (34, true)⟩,
           ⟨some 36, .op (.bin .eql (.t 35) (.c (.int .i64 0))), some (34, true)⟩,
           ⟨some 37, .pick (.t 34) (.t 36) (.c (.bool false)), none⟩,
           ⟨some 38, .op (.mv (.t 37)), none⟩,
           ⟨some 39, .op (.mv (.t 5)), some (38, true)⟩,
           ⟨some 40, .op (.bin .eql (.t 39) (.c (.int .i64 40))), some (38, true)⟩,
           ⟨some 41, .pick (.t 38) (.t 40) (.c (.bool false)), none⟩,
           ⟨some 42, .op (.mv (.t 41)), none⟩,
           ⟨some 43, .op (.mv (.t 6)), some (42, true)⟩,
           ⟨some 44, .op (.bin .eql (.t 43) (.c (.int .i64 0))), some (42, true)⟩,
           ⟨some 45, .pick (.t 42) (.t 44) (.c (.bool false)), none⟩,
           ⟨some 46, .op (.mv (.t 45)), none⟩,
           ⟨some 47, .op (.mv (.t 8)), some (46, true)⟩,
           ⟨some 48, .pick (.t 46) (.t 47) (.c (.bool false)), none⟩,
           ⟨some 49, .op (.mv (.t 48)), none⟩,
           ⟨some 50, .op (.fieldAddr 1 (.t 7)), some (49, true)⟩,
           ⟨some 51, .op (.ld1 (.t 50)), some (49, true)⟩,
           ⟨some 52, .op (.bin .eql (.t 51) (.c (.int .u64 3))), some (49, true)⟩,
           ⟨some 53, .pick (.t 49) (.t 52) (.c (.bool false)), none⟩,
           ⟨some 0, .op (.mv (.t 53)), none⟩]) (
         .ret))))))))
theorem cf6 : compF Try.prog Try.f6 h6 = some (ac6, rs6) := by kernel_rfl

/-! mailcoach/dedup.New params 0 -/
def h7 : Hints := ⟨[(1, [0]), (0, [])], [], []⟩
def rs7 : List ARes := [.t 0]
def ac7 : ACode :=
 .seq (
  .reg [] [
    ⟨some 0, .op (.mv (.c (.nilp))), none⟩]) (
  .seq (
   .reg [0] [
     ⟨some 1, .op (.mkmap), none⟩,
     ⟨some 2, .op (.build [.nilmap] [(0, 1, (.t 1))]), none⟩,
     ⟨some 3, .op (.box (.t 2)), none⟩,
     ⟨some 0, .op (.mv (.t 3)), none⟩]) (
   .ret))
theorem cf7 : compF Try.prog Try.f7 h7 = some (ac7, rs7) := by kernel_rfl

/-! (*mailcoach/dedup.Table).Begin params 3 -/
def h8 : Hints := ⟨[(16, [6]), (15, []), (14, [0, 1, 7]), (5, [6]), (7, [6]), (9, [6]), (11, [6]), (13, [6]), (12, [0, 1, 2, 7, 47]), (10, [0, 1, 2, 7, 8, 39]), (8, [0, 1, 2, 7, 8, 31]), (6, [0, 1, 2, 7, 8, 28]), (4, [0, 1, 2, 7, 8, 20]), (3, [0, 1, 2, 7, 8]), (2, [6]), (1, [0, 1, 2, 10]), (0, [0, 1, 2])], [], [(15, [(0, []), (1, []), (2, []), (3, []), (4, []), (5, []), (6, [])])]⟩
def rs8 : List ARes := [.t 6]
def ac8 : ACode :=
 .seq (
  .reg [0, 1, 2] [
    ⟨some 6, .op (.mv (.c (.int .i64 0))), none⟩]) (
  .seq (
   .seq (
    .reg [0, 1, 2, 10] [
      ⟨some 9, .op (.mv (.t 0)), none⟩,
      ⟨some 10, .op (.eqn 0 false (.t 9) (.c (.nilp))), none⟩]) (
    .cond (.t 10) (
     .seq (
      .reg [6] [
        ⟨some 6, .op (.mv (.c (.int .i64 1))), none⟩]) (
      .ret)) (
     .skip))) (
   .seq (
    .reg [0, 1, 2, 7, 8] [
      ⟨some 12, .op (.mv (.t 0)), none⟩,
      ⟨some 13, .op (.nilCheck (.t 12)), none⟩,
      ⟨some 14, .op (.fieldAddr 0 (.t 13)), none⟩,
      ⟨some 15, .op (.ld1 (.t 14)), none⟩,
      ⟨some 16, .op (.mv (.t 1)), none⟩,
      ⟨some 17, .op (.lookup (.agg [.str ⟨#[]⟩, .int .u64 0, .int .u64 0, .int .u64 0, .int .u64 0]) false [2] (.t 15) (.t 16) true), none⟩,
      ⟨some 11, .op (.mv (.t 17)), none⟩,
      ⟨some 18, .op (.extract (.t 11) 0), none⟩,
      ⟨some 19, .op (.extract (.t 11) 1), none⟩,
      ⟨some 7, .op (.alloc [.str ⟨#[]⟩, .int .u64 0, .int .u64 0, .int .u64 0, .int .u64 0]), none⟩,
      ⟨none, .op (.st 5 (.t 7) (.t 18)), none⟩,
      ⟨some 8, .op (.mv (.t 19)), none⟩]) (
    .seq (
     .block 0 (
      .seq (
       .reg [0, 1, 2, 7, 8, 20] [
         ⟨some 21, .op (.mv (.t 1)), none⟩,
         ⟨some 22, .op (.bin .eql (.t 21) (.c (.str ⟨#[]⟩))), none⟩,
         ⟨some 23, .op (.mv (.t 22)), none⟩,
         ⟨some 24, .op (.mv (.t 1)), some (23, false)⟩,
         ⟨some 25, .op (.len 9 (.t 24)), some (23, false)⟩,
         ⟨some 26, .op (.bin .gtr (.t 25) (.c (.int .i64 64))), some (23, false)⟩,
         ⟨some 27, .pick (.t 23) (.c (.bool true)) (.t 26), none⟩,
         ⟨some 20, .op (.mv (.t 27)), none⟩]) (
       .cond (.t 20) (
        .seq (
         .reg [6] [
           ⟨some 6, .op (.mv (.c (.int .i64 10))), none⟩]) (
         .ret)) (
        .seq (
         .reg [0, 1, 2, 7, 8, 28] [
           ⟨some 29, .op (.mv (.t 2)), none⟩,
           ⟨some 30, .op (.bin .eql (.t 29) (.c (.int .u64 0))), none⟩,
           ⟨some 28, .op (.mv (.t 30)), none⟩]) (
         .cond (.t 28) (
          .seq (
           .reg [6] [
             ⟨some 6, .op (.mv (.c (.int .i64 2))), none⟩]) (
           .ret)) (
          .seq (
           .reg [0, 1, 2, 7, 8, 31] [
             ⟨some 32, .op (.mv (.t 8)), none⟩,
             ⟨some 33, .op (.mv (.t 32)), none⟩,
             ⟨some 34, .op (.mv (.t 2)), some (33, true)⟩,
             ⟨some 35, .op (.fieldAddr 2 (.t 7)), some (33, true)⟩,
             ⟨some 36, .op (.ld1 (.t 35)), some (33, true)⟩,
             ⟨some 37, .op (.bin .leq (.t 34) (.t 36)), some (33, true)⟩,
             ⟨some 38, .pick (.t 33) (.t 37) (.c (.bool false)), none⟩,
             ⟨some 31, .op (.mv (.t 38)), none⟩]) (
           .cond (.t 31) (
            .seq (
             .reg [6] [
               ⟨some 6, .op (.mv (.c (.int .i64 40))), none⟩]) (
             .ret)) (
            .seq (
             .reg [0, 1, 2, 7, 8, 39] [
               ⟨some 40, .op (.mv (.t 8)), none⟩,
               ⟨some 41, .op (.mv (.t 40)), none⟩,
               ⟨some 42, .op (.mv (.t 2)), some (41, true)⟩,
               ⟨some 43, .op (.fieldAddr 1 (.t 7)), some (41, true)⟩,
               ⟨some 44, .op (.ld1 (.t 43)), some (41, true)⟩,
               ⟨some 45, .op (.bin .leq (.t 42) (.t 44)), some (41, true)⟩,
               ⟨some 46, .pick (.t 41) (.t 45) (.c (.bool false)), none⟩,
               ⟨some 39, .op (.mv (.t 46)), none⟩]) (
             .cond (.t 39) (
              .seq (
               .reg [6] [
                 ⟨some 6, .op (.mv (.c (.int .i64 41))), none⟩]) (
               .ret)) (
              .seq (
               .reg [0, 1, 2, 7, 47] [
                 ⟨some 48, .op (.mv (.t 8)), none⟩,
                 ⟨some 49, .op (.un .not (.t 48)), none⟩,
                 ⟨some 50, .op (.mv (.t 49)), none⟩,
                 ⟨some 51, .op (.mv (.t 0)), some (50, true)⟩,
                 ⟨some 52, .op (.nilCheck (.t 51)), some (50, true)⟩,
                 ⟨some 53, .op (.fieldAddr 0 (.t 52)), some (50, true)⟩,
                 ⟨some 54, .op (.ld1 (.t 53)), some (50, true)⟩,
                 ⟨some 55, .op (.len 2 (.t 54)), some (50, true)⟩,
                 ⟨some 56, .op (.bin .geq (.t 55) (.c (.int .i64 16))), some (50, true)⟩,
                 ⟨some 57, .pick (.t 50) (.t 56) (.c (.bool false)), none⟩,
                 ⟨some 47, .op (.mv (.t 57)), none⟩]) (
               .cond (.t 47) (
                .seq (
                 .reg [6] [
                   ⟨some 6, .op (.mv (.c (.int .i64 14))), none⟩]) (
                 .ret)) (
                .skip)))))))))))) (
     .seq (
      .reg [0, 1, 7] [
        ⟨some 58, .op (.mv (.t 1)), none⟩,
        ⟨some 59, .op (.mv (.t 2)), none⟩,
        ⟨some 60, .op (.fieldAddr 0 (.t 7)), none⟩,
        ⟨none, .op (.st 1 (.t 60) (.t 58)), none⟩,
        ⟨some 61, .op (.fieldAddr 1 (.t 7)), none⟩,
        ⟨none, .op (.st 1 (.t 61) (.t 59)), none⟩]) (
      .seq (
       .dreg [] [
         (⟨some 62, .op (.mv (.t 0)), none⟩, []),
         (⟨some 63, .op (.nilCheck (.t 62)), none⟩, []),
         (⟨some 64, .op (.fieldAddr 0 (.t 63)), none⟩, []),
         (⟨some 65, .op (.ld1 (.t 64)), none⟩, []),
         (⟨some 66, .op (.mv (.t 1)), none⟩, []),
         (⟨some 67, .op (.ldn 5 (.t 7)), none⟩, []),
         (⟨none, .op (.mapSet false [2] (.t 65) (.t 66) (.t 67)), none⟩, [])]) (
       .seq (
        .reg [6] [
          ⟨some 6, .op (.mv (.c (.int .i64 0))), none⟩]) (
        .ret)))))))
theorem cf8 : compF Try.prog Try.f8 h8 = some (ac8, rs8) := by kernel_rfl

/-! (*mailcoach/dedup.Table).Done params 4 -/
def h9 : Hints := ⟨[(10, [8]), (9, []), (8, [0, 1, 9]), (5, [8]), (7, [8]), (6, [0, 1, 2, 7, 9, 31]), (4, [0, 1, 2, 7, 9, 22]), (3, [0, 1, 2, 7, 9, 10]), (2, [8]), (1, [0, 1, 2, 7, 12]), (0, [0, 1, 2, 7])], [], [(8, [(0, []), (1, []), (2, []), (3, [1]), (4, []), (5, [])]), (9, [(0, []), (1, []), (2, []), (3, []), (4, []), (5, []), (6, [])])]⟩
def rs9 : List ARes := [.t 8]
def ac9 : ACode :=
 .seq (
  .reg [0, 1, 2, 7] [
    ⟨some 7, .op (.box (.t 3)), none⟩,
    ⟨some 8, .op (.mv (.c (.int .i64 0))), none⟩]) (
  .seq (
   .seq (
    .reg [0, 1, 2, 7, 12] [
      ⟨some 11, .op (.mv (.t 0)), none⟩,
      ⟨some 12, .op (.eqn 0 false (.t 11) (.c (.nilp))), none⟩]) (
    .cond (.t 12) (
     .seq (
      .reg [8] [
        ⟨some 8, .op (.mv (.c (.int .i64 1))), none⟩]) (
      .ret)) (
     .skip))) (
   .seq (
    .reg [0, 1, 2, 7, 9, 10] [
      ⟨some 14, .op (.mv (.t 0)), none⟩,
      ⟨some 15, .op (.nilCheck (.t 14)), none⟩,
      ⟨some 16, .op (.fieldAddr 0 (.t 15)), none⟩,
      ⟨some 17, .op (.ld1 (.t 16)), none⟩,
      ⟨some 18, .op (.mv (.t 1)), none⟩,
      ⟨some 19, .op (.lookup (.agg [.str ⟨#[]⟩, .int .u64 0, .int .u64 0, .int .u64 0, .int .u64 0]) false [2] (.t 17) (.t 18) true), none⟩,
      ⟨some 13, .op (.mv (.t 19)), none⟩,
      ⟨some 20, .op (.extract (.t 13) 0), none⟩,
      ⟨some 21, .op (.extract (.t 13) 1), none⟩,
      ⟨some 9, .op (.alloc [.str ⟨#[]⟩, .int .u64 0, .int .u64 0, .int .u64 0, .int .u64 0]), none⟩,
      ⟨none, .op (.st 5 (.t 9) (.t 20)), none⟩,
      ⟨some 10, .op (.mv (.t 21)), none⟩]) (
    .seq (
     .block 0 (
      .seq (
       .reg [0, 1, 2, 7, 9, 22] [
         ⟨some 23, .op (.mv (.t 10)), none⟩,
         ⟨some 24, .op (.un .not (.t 23)), none⟩,
         ⟨some 25, .op (.mv (.t 24)), none⟩,
         ⟨some 26, .op (.mv (.t 2)), some (25, false)⟩,
         ⟨some 27, .op (.fieldAddr 1 (.t 9)), some (25, false)⟩,
         ⟨some 28, .op (.ld1 (.t 27)), some (25, false)⟩,
         ⟨some 29, .op (.bin .gtr (.t 26) (.t 28)), some (25, false)⟩,
         ⟨some 30, .pick (.t 25) (.c (.bool true)) (.t 29), none⟩,
         ⟨some 22, .op (.mv (.t 30)), none⟩]) (
       .cond (.t 22) (
        .seq (
         .reg [8] [
           ⟨some 8, .op (.mv (.c (.int .i64 11))), none⟩]) (
         .ret)) (
        .seq (
         .reg [0, 1, 2, 7, 9, 31] [
           ⟨some 32, .op (.mv (.t 2)), none⟩,
           ⟨some 33, .op (.fieldAddr 2 (.t 9)), none⟩,
           ⟨some 34, .op (.ld1 (.t 33)), none⟩,
           ⟨some 35, .op (.bin .leq (.t 32) (.t 34)), none⟩,
           ⟨some 31, .op (.mv (.t 35)), none⟩]) (
         .cond (.t 31) (
          .seq (
           .reg [8] [
             ⟨some 8, .op (.mv (.c (.int .i64 40))), none⟩]) (
           .ret)) (
          .skip)))))) (
     .seq (
      .dreg [0, 1, 9] [
        (⟨some 36, .op (.mv (.t 2)), none⟩, []),
        (⟨some 37, .op (.ldn 2 (.t 7)), none⟩, []),
        (⟨some 38, .op (.fieldAddr 2 (.t 9)), none⟩, []),
        (⟨none, .op (.st 1 (.t 38) (.t 36)), none⟩, [1]),
        (⟨some 39, .op (.fieldAddr 3 (.t 9)), none⟩, []),
        (⟨none, .op (.st 2 (.t 39) (.t 37)), none⟩, [])]) (
      .seq (
       .dreg [] [
         (⟨some 40, .op (.mv (.t 0)), none⟩, []),
         (⟨some 41, .op (.nilCheck (.t 40)), none⟩, []),
         (⟨some 42, .op (.fieldAddr 0 (.t 41)), none⟩, []),
         (⟨some 43, .op (.ld1 (.t 42)), none⟩, []),
         (⟨some 44, .op (.mv (.t 1)), none⟩, []),
         (⟨some 45, .op (.ldn 5 (.t 9)), none⟩, []),
         (⟨none, .op (.mapSet false [2] (.t 43) (.t 44) (.t 45)), none⟩, [])]) (
       .seq (
        .reg [8] [
          ⟨some 8, .op (.mv (.c (.int .i64 0))), none⟩]) (
        .ret)))))))
theorem cf9 : compF Try.prog Try.f9 h9 = some (ac9, rs9) := by kernel_rfl

/-! (*mailcoach/dedup.Table).Forget params 1 -/
def h10 : Hints := ⟨[(7, [0, 10]), (6, [0, 2, 10, 27]), (5, [0, 2, 3, 10]), (4, [0, 2, 3, 10]), (3, [0, 2, 3, 10]), (2, [0, 10, 12]), (1, [0, 10]), (0, [0, 5])], [(2, [0, 10])], [(5, [(0, []), (1, []), (2, []), (3, []), (4, []), (5, []), (6, [])])]⟩
def rs10 : List ARes := []
def ac10 : ACode :=
 .seq (
  .seq (
   .reg [0, 5] [
     ⟨some 4, .op (.mv (.t 0)), none⟩,
     ⟨some 5, .op (.eqn 0 false (.t 4) (.c (.nilp))), none⟩]) (
   .cond (.t 5) (
    .ret) (
    .skip))) (
  .seq (
   .reg [0, 10] [
     ⟨some 6, .op (.mv (.t 0)), none⟩,
     ⟨some 7, .op (.nilCheck (.t 6)), none⟩,
     ⟨some 8, .op (.fieldAddr 0 (.t 7)), none⟩,
     ⟨some 9, .op (.ld1 (.t 8)), none⟩,
     ⟨some 10, .op (.rangeM (.t 9)), none⟩]) (
   .block 0 (
    .loop [0, 10] (
     .seq (
      .reg [0, 10, 12] [
        ⟨some 11, .next (.t 10), none⟩,
        ⟨some 12, .op (.extract (.t 11) 0), none⟩]) (
      .seq (
       .cond (.t 12) (
        .skip) (
        .exit 0)) (
       .block 1 (
        .seq (
         .reg [0, 2, 3, 10] [
           ⟨some 13, .op (.entryM (.t 10)), none⟩,
           ⟨some 14, .op (.extract (.t 13) 0), none⟩,
           ⟨some 15, .op (.extract (.t 13) 1), none⟩,
           ⟨some 3, .op (.alloc [.str ⟨#[]⟩, .int .u64 0, .int .u64 0, .int .u64 0, .int .u64 0]), none⟩,
           ⟨some 2, .op (.mv (.t 14)), none⟩,
           ⟨none, .op (.st 5 (.t 3) (.t 15)), none⟩]) (
         .seq (
          .reg [0, 2, 3, 10] [
            ⟨some 16, .op (.fieldAddr 2 (.t 3)), none⟩,
            ⟨some 17, .op (.ld1 (.t 16)), none⟩,
            ⟨some 18, .op (.fieldAddr 1 (.t 3)), none⟩,
            ⟨none, .op (.st 1 (.t 18) (.t 17)), none⟩]) (
          .seq (
           .dreg [0, 2, 3, 10] [
             (⟨some 19, .op (.mv (.t 0)), none⟩, []),
             (⟨some 20, .op (.nilCheck (.t 19)), none⟩, []),
             (⟨some 21, .op (.fieldAddr 0 (.t 20)), none⟩, []),
             (⟨some 22, .op (.ld1 (.t 21)), none⟩, []),
             (⟨some 23, .op (.mv (.t 2)), none⟩, []),
             (⟨some 24, .op (.ldn 5 (.t 3)), none⟩, []),
             (⟨none, .op (.mapSet false [2] (.t 22) (.t 23) (.t 24)), none⟩, [])]) (
           .seq (
            .reg [0, 2, 10, 27] [
              ⟨some 25, .op (.fieldAddr 2 (.t 3)), none⟩,
              ⟨some 26, .op (.ld1 (.t 25)), none⟩,
              ⟨some 27, .op (.bin .eql (.t 26) (.c (.int .u64 0))), none⟩]) (
            .cond (.t 27) (
             .reg [0, 10] [
               ⟨some 28, .op (.mv (.t 0)), none⟩,
               ⟨some 29, .op (.nilCheck (.t 28)), none⟩,
               ⟨some 30, .op (.fieldAddr 0 (.t 29)), none⟩,
               ⟨some 31, .op (.ld1 (.t 30)), none⟩,
               ⟨some 32, .op (.mv (.t 2)), none⟩,
               ⟨none, .op (.delete false [2] (.t 31) (.t 32)), none⟩]) (
             .skip))))))))))))
theorem cf10 : compF Try.prog Try.f10 h10 = some (ac10, rs10) := by kernel_rfl

/-! (*mailcoach/dedup.Table).Last params 2 -/
def h11 : Hints := ⟨[(4, [4, 5]), (3, [4, 6, 7]), (2, [4, 5]), (1, [0, 1, 4, 9]), (0, [0, 1, 4])], [], []⟩
def rs11 : List ARes := [.cn 4 5, .t 5]
def ac11 : ACode :=
 .seq (
  .reg [0, 1, 4] [
    ⟨some 4, .op (.alloc [.str ⟨#[]⟩, .int .u64 0, .int .u64 0, .int .u64 0, .int .u64 0]), none⟩,
    ⟨some 5, .op (.mv (.c (.bool false))), none⟩]) (
  .seq (
   .seq (
    .reg [0, 1, 4, 9] [
      ⟨some 8, .op (.mv (.t 0)), none⟩,
      ⟨some 9, .op (.eqn 0 false (.t 8) (.c (.nilp))), none⟩]) (
    .cond (.t 9) (
     .seq (
      .reg [4, 5] [
        ⟨some 10, .op (.build [.str ⟨#[]⟩, .int .u64 0, .int .u64 0, .int .u64 0, .int .u64 0] []), none⟩,
        ⟨none, .op (.st 5 (.t 4) (.t 10)), none⟩,
        ⟨some 5, .op (.mv (.c (.bool false))), none⟩]) (
      .ret)) (
     .skip))) (
   .seq (
    .reg [4, 6, 7] [
      ⟨some 12, .op (.mv (.t 0)), none⟩,
      ⟨some 13, .op (.nilCheck (.t 12)), none⟩,
      ⟨some 14, .op (.fieldAddr 0 (.t 13)), none⟩,
      ⟨some 15, .op (.ld1 (.t 14)), none⟩,
      ⟨some 16, .op (.mv (.t 1)), none⟩,
      ⟨some 17, .op (.lookup (.agg [.str ⟨#[]⟩, .int .u64 0, .int .u64 0, .int .u64 0, .int .u64 0]) false [2] (.t 15) (.t 16) true), none⟩,
      ⟨some 11, .op (.mv (.t 17)), none⟩,
      ⟨some 18, .op (.extract (.t 11) 0), none⟩,
      ⟨some 19, .op (.extract (.t 11) 1), none⟩,
      ⟨some 6, .op (.alloc [.str ⟨#[]⟩, .int .u64 0, .int .u64 0, .int .u64 0, .int .u64 0]), none⟩,
      ⟨none, .op (.st 5 (.t 6) (.t 18)), none⟩,
      ⟨some 7, .op (.mv (.t 19)), none⟩]) (
    .seq (
     .reg [4, 5] [
       ⟨some 20, .op (.ldn 5 (.t 6)), none⟩,
       ⟨some 21, .op (.mv (.t 7)), none⟩,
       ⟨none, .op (.st 5 (.t 4) (.t 20)), none⟩,
       ⟨some 5, .op (.mv (.t 21)), none⟩]) (
     .ret))))
theorem cf11 : compF Try.prog Try.f11 h11 = some (ac11, rs11) := by kernel_rfl

/-! (*mailcoach/dedup.Table).All params 1 -/
def h12 : Hints := ⟨[(3, [2]), (2, [2]), (1, [0, 4]), (0, [0])], [], []⟩
def rs12 : List ARes := [.t 2]
def ac12 : ACode :=
 .seq (
  .reg [0] [
    ⟨some 2, .op (.mv (.c (.nilsl))), none⟩]) (
  .seq (
   .seq (
    .reg [0, 4] [
      ⟨some 3, .op (.mv (.t 0)), none⟩,
      ⟨some 4, .op (.eqn 0 false (.t 3) (.c (.nilp))), none⟩]) (
    .cond (.t 4) (
     .seq (
      .reg [2] [
        ⟨some 2, .op (.mv (.c (.nilsl))), none⟩]) (
      .ret)) (
     .skip))) (
   .seq (
    .reg [2] [
      ⟨some 5, .op (.mv (.t 0)), none⟩,
      ⟨some 6, .op (.nilCheck (.t 5)), none⟩,
      ⟨some 7, .op (.fieldAddr 0 (.t 6)), none⟩,
      ⟨some 8, .op (.ld1 (.t 7)), none⟩,
      ⟨some 9, .call (.c (.fn 24 [] [])) [(.t 8)], none⟩,
      ⟨some 10, .call (.c (.fn 23 [] [])) [(.t 9), (.c (.fn 25 [] []))], none⟩,
      ⟨some 2, .op (.mv (.t 10)), none⟩]) (
    .ret)))
theorem cf12 : compF Try.prog Try.f12 h12 = some (ac12, rs12) := by kernel_rfl

/-! (*mailcoach/pack.Writer).Done params 1 -/
def h13 : Hints := ⟨[(3, [2]), (2, [2]), (1, [0, 4]), (0, [0])], [], []⟩
def rs13 : List ARes := [.t 2]
def ac13 : ACode :=
 .seq (
  .reg [0] [
    ⟨some 2, .op (.mv (.c (.nilsl))), none⟩]) (
  .seq (
   .seq (
    .reg [0, 4] [
      ⟨some 3, .op (.mv (.t 0)), none⟩,
      ⟨some 4, .op (.eqn 0 false (.t 3) (.c (.nilp))), none⟩]) (
    .cond (.t 4) (
     .seq (
      .reg [2] [
        ⟨some 2, .op (.mv (.c (.nilsl))), none⟩]) (
      .ret)) (
     .skip))) (
   .seq (
    .reg [2] [
      ⟨some 5, .op (.mv (.t 0)), none⟩,
      ⟨some 6, .op (.nilCheck (.t 5)), none⟩,
      ⟨some 7, .op (.fieldAddr 0 (.t 6)), none⟩,
      ⟨some 8, .op (.ld1 (.t 7)), none⟩,
      ⟨some 9, .call (.c (.fn 27 [] [])) [(.t 8)], none⟩,
      ⟨some 2, .op (.mv (.t 9)), none⟩]) (
    .ret)))
theorem cf13 : compF Try.prog Try.f13 h13 = some (ac13, rs13) := by kernel_rfl

/-! mailcoach/mailcoachlaw15.few params 1 -/
def h14 : Hints := ⟨[(4, [2]), (3, [1, 2]), (2, [1, 2]), (1, [1, 2, 5]), (0, [1, 2])], [], []⟩
def rs14 : List ARes := [.cn 2 6]
def ac14 : ACode :=
 .seq (
  .reg [1, 2] [
    ⟨some 1, .op (.box (.t 0)), none⟩,
    ⟨some 2, .op (.alloc [.int .u8 0, .str ⟨#[]⟩, .int .u64 0, .int .u64 0, .int .u64 0, .bool false]), none⟩]) (
  .seq (
   .seq (
    .reg [1, 2, 5] [
      ⟨some 3, .op (.fieldAddr 5 (.t 1)), none⟩,
      ⟨some 4, .op (.ld1 (.t 3)), none⟩,
      ⟨some 5, .op (.un .not (.t 4)), none⟩]) (
    .cond (.t 5) (
     .seq (
      .reg [1, 2] [
        ⟨some 6, .op (.fieldAddr 2 (.t 1)), none⟩,
        ⟨some 7, .op (.ld1 (.t 6)), none⟩,
        ⟨some 8, .op (.bin .rem (.t 7) (.c (.int .u64 9))), none⟩,
        ⟨some 9, .op (.fieldAddr 2 (.t 1)), none⟩,
        ⟨none, .op (.st 1 (.t 9) (.t 8)), none⟩]) (
      .reg [1, 2] [
        ⟨some 10, .op (.fieldAddr 1 (.t 1)), none⟩,
        ⟨some 11, .op (.ld1 (.t 10)), none⟩,
        ⟨some 12, .op (.len 9 (.t 11)), none⟩,
        ⟨some 13, .op (.bin .rem (.t 12) (.c (.int .i64 3))), none⟩,
        ⟨some 14, .op (.bin .add (.c (.int .i64 97)) (.t 13)), none⟩,
        ⟨some 15, .op (.toInt .u8 (.t 14)), none⟩,
        ⟨some 16, .op (.buildSl 1 [.int .u8 0] 1 [(0, (.t 15))]), none⟩,
        ⟨some 17, .op (.bytesStr (.t 16)), none⟩,
        ⟨some 18, .op (.bin .add (.c (.str ⟨#[112]⟩)) (.t 17)), none⟩,
        ⟨some 19, .op (.fieldAddr 1 (.t 1)), none⟩,
        ⟨none, .op (.st 1 (.t 19) (.t 18)), none⟩])) (
     .skip))) (
   .seq (
    .reg [2] [
      ⟨some 20, .op (.ldn 6 (.t 1)), none⟩,
      ⟨none, .op (.st 6 (.t 2) (.t 20)), none⟩]) (
    .ret)))
theorem cf14 : compF Try.prog Try.f14 h14 = some (ac14, rs14) := by kernel_rfl

/-! (*mailcoach/mailcoachref15.Table).Begin params 3 -/
def h15 : Hints := ⟨[(16, [6]), (15, []), (14, [6]), (13, []), (12, [0, 1, 2, 7, 65]), (3, [6]), (5, [6]), (7, [6]), (9, [6]), (11, [6]), (10, [0, 1, 2, 7, 53]), (8, [0, 1, 2, 7, 38]), (6, [0, 1, 2, 7, 23]), (4, [0, 1, 2, 7, 20]), (2, [0, 1, 2, 7, 11]), (1, [0, 1, 2, 7]), (0, [0, 1, 2])], [], []⟩
def rs15 : List ARes := [.t 6]
def ac15 : ACode :=
 .seq (
  .reg [0, 1, 2] [
    ⟨some 6, .op (.mv (.c (.int .i64 0))), none⟩]) (
  .seq (
   .reg [0, 1, 2, 7] [
     ⟨some 8, .op (.mv (.t 0)), none⟩,
     ⟨some 9, .op (.mv (.t 1)), none⟩,
     ⟨some 10, .call (.c (.fn 28 [] [])) [(.t 8), (.t 9)], none⟩,
     ⟨some 7, .op (.mv (.t 10)), none⟩]) (
   .seq (
    .block 0 (
     .seq (
      .reg [0, 1, 2, 7, 11] [
        ⟨some 12, .op (.mv (.t 1)), none⟩,
        ⟨some 13, .op (.len 9 (.t 12)), none⟩,
        ⟨some 14, .op (.bin .lss (.t 13) (.c (.int .i64 1))), none⟩,
        ⟨some 15, .op (.mv (.t 14)), none⟩,
        ⟨some 16, .op (.mv (.t 1)), some (15, false)⟩,
        ⟨some 17, .op (.len 9 (.t 16)), some (15, false)⟩,
        ⟨some 18, .op (.bin .gtr (.t 17) (.c (.int .i64 64))), some (15, false)⟩,
        ⟨some 19, .pick (.t 15) (.c (.bool true)) (.t 18), none⟩,
        ⟨some 11, .op (.mv (.t 19)), none⟩]) (
      .cond (.t 11) (
       .seq (
        .reg [6] [
          ⟨some 6, .op (.mv (.c (.int .i64 10))), none⟩]) (
        .ret)) (
       .seq (
        .reg [0, 1, 2, 7, 20] [
          ⟨some 21, .op (.mv (.t 2)), none⟩,
          ⟨some 22, .op (.bin .eql (.t 21) (.c (.int .u64 0))), none⟩,
          ⟨some 20, .op (.mv (.t 22)), none⟩]) (
        .cond (.t 20) (
         .seq (
          .reg [6] [
            ⟨some 6, .op (.mv (.c (.int .i64 2))), none⟩]) (
          .ret)) (
         .seq (
          .reg [0, 1, 2, 7, 23] [
            ⟨some 24, .op (.mv (.t 7)), none⟩,
            ⟨some 25, .op (.bin .geq (.t 24) (.c (.int .i64 0))), none⟩,
            ⟨some 26, .op (.mv (.t 25)), none⟩,
            ⟨some 27, .op (.mv (.t 0)), some (26, true)⟩,
            ⟨some 28, .op (.nilCheck (.t 27)), some (26, true)⟩,
            ⟨some 29, .op (.fieldAddr 0 (.t 28)), some (26, true)⟩,
            ⟨some 30, .op (.ld1 (.t 29)), some (26, true)⟩,
            ⟨some 31, .op (.mv (.t 7)), some (26, true)⟩,
            ⟨some 32, .op (.idxAddr 5 (.t 30) (.t 31)), some (26, true)⟩,
            ⟨some 33, .op (.fieldAddr 2 (.t 32)), some (26, true)⟩,
            ⟨some 34, .op (.ld1 (.t 33)), some (26, true)⟩,
            ⟨some 35, .op (.mv (.t 2)), some (26, true)⟩,
            ⟨some 36, .op (.bin .geq (.t 34) (.t 35)), some (26, true)⟩,
            ⟨some 37, .pick (.t 26) (.t 36) (.c (.bool false)), none⟩,
            ⟨some 23, .op (.mv (.t 37)), none⟩]) (
          .cond (.t 23) (
           .seq (
            .reg [6] [
              ⟨some 6, .op (.mv (.c (.int .i64 40))), none⟩]) (
            .ret)) (
           .seq (
            .reg [0, 1, 2, 7, 38] [
              ⟨some 39, .op (.mv (.t 7)), none⟩,
              ⟨some 40, .op (.bin .geq (.t 39) (.c (.int .i64 0))), none⟩,
              ⟨some 41, .op (.mv (.t 40)), none⟩,
              ⟨some 42, .op (.mv (.t 0)), some (41, true)⟩,
              ⟨some 43, .op (.nilCheck (.t 42)), some (41, true)⟩,
              ⟨some 44, .op (.fieldAddr 0 (.t 43)), some (41, true)⟩,
              ⟨some 45, .op (.ld1 (.t 44)), some (41, true)⟩,
              ⟨some 46, .op (.mv (.t 7)), some (41, true)⟩,
              ⟨some 47, .op (.idxAddr 5 (.t 45) (.t 46)), some (41, true)⟩,
              ⟨some 48, .op (.fieldAddr 1 (.t 47)), some (41, true)⟩,
              ⟨some 49, .op (.ld1 (.t 48)), some (41, true)⟩,
              ⟨some 50, .op (.mv (.t 2)), some (41, true)⟩,
              ⟨some 51, .op (.bin .geq (.t 49) (.t 50)), some (41, true)⟩,
              ⟨some 52, .pick (.t 41) (.t 51) (.c (.bool false)), none⟩,
              ⟨some 38, .op (.mv (.t 52)), none⟩]) (
            .cond (.t 38) (
             .seq (
              .reg [6] [
                ⟨some 6, .op (.mv (.c (.int .i64 41))), none⟩]) (
              .ret)) (
             .seq (
              .reg [0, 1, 2, 7, 53] [
                ⟨some 54, .op (.mv (.t 7)), none⟩,
                ⟨some 55, .op (.bin .lss (.t 54) (.c (.int .i64 0))), none⟩,
                ⟨some 56, .op (.mv (.t 55)), none⟩,
                ⟨some 57, .op (.mv (.t 0)), some (56, true)⟩,
                ⟨some 58, .op (.nilCheck (.t 57)), some (56, true)⟩,
                ⟨some 59, .op (.fieldAddr 0 (.t 58)), some (56, true)⟩,
                ⟨some 60, .op (.ld1 (.t 59)), some (56, true)⟩,
                ⟨some 61, .op (.len 1 (.t 60)), some (56, true)⟩,
                ⟨some 62, .op (.bin .eql (.t 61) (.c (.int .i64 16))), some (56, true)⟩,
                ⟨some 63, .pick (.t 56) (.t 62) (.c (.bool false)), none⟩,
                ⟨some 53, .op (.mv (.t 63)), none⟩]) (
              .cond (.t 53) (
               .seq (
                .reg [6] [
                  ⟨some 6, .op (.mv (.c (.int .i64 14))), none⟩]) (
                .ret)) (
               .skip)))))))))))) (
    .seq (
     .seq (
      .reg [0, 1, 2, 7, 65] [
        ⟨some 64, .op (.mv (.t 7)), none⟩,
        ⟨some 65, .op (.bin .lss (.t 64) (.c (.int .i64 0))), none⟩]) (
      .cond (.t 65) (
       .seq (
        .reg [] [
          ⟨some 66, .op (.mv (.t 0)), none⟩,
          ⟨some 67, .op (.mv (.t 0)), none⟩,
          ⟨some 68, .op (.nilCheck (.t 67)), none⟩,
          ⟨some 69, .op (.fieldAddr 0 (.t 68)), none⟩,
          ⟨some 70, .op (.ld1 (.t 69)), none⟩,
          ⟨some 71, .op (.mv (.t 1)), none⟩,
          ⟨some 72, .op (.mv (.t 2)), none⟩,
          ⟨some 73, .op (.build [.str ⟨#[]⟩, .int .u64 0, .int .u64 0, .int .u64 0, .int .u64 0] [(0, 1, (.t 71)), (1, 1, (.t 72))]), none⟩,
          ⟨some 74, .op (.buildSl 5 [.str ⟨#[]⟩, .int .u64 0, .int .u64 0, .int .u64 0, .int .u64 0] 1 [(0, (.t 73))]), none⟩,
          ⟨some 75, .op (.append 5 48 (.t 70) (.t 74)), none⟩,
          ⟨some 76, .op (.nilCheck (.t 66)), none⟩,
          ⟨some 77, .op (.fieldAddr 0 (.t 76)), none⟩,
          ⟨none, .op (.st 1 (.t 77) (.t 75)), none⟩]) (
        .seq (
         .reg [6] [
           ⟨some 6, .op (.mv (.c (.int .i64 0))), none⟩]) (
         .ret))) (
       .skip))) (
     .seq (
      .reg [] [
        ⟨some 78, .op (.mv (.t 0)), none⟩,
        ⟨some 79, .op (.nilCheck (.t 78)), none⟩,
        ⟨some 80, .op (.fieldAddr 0 (.t 79)), none⟩,
        ⟨some 81, .op (.ld1 (.t 80)), none⟩,
        ⟨some 82, .op (.mv (.t 7)), none⟩,
        ⟨some 83, .op (.mv (.t 2)), none⟩,
        ⟨some 84, .op (.idxAddr 5 (.t 81) (.t 82)), none⟩,
        ⟨some 85, .op (.fieldAddr 1 (.t 84)), none⟩,
        ⟨none, .op (.st 1 (.t 85) (.t 83)), none⟩]) (
      .seq (
       .reg [6] [
         ⟨some 6, .op (.mv (.c (.int .i64 0))), none⟩]) (
       .ret))))))
theorem cf15 : compF Try.prog Try.f15 h15 = some (ac15, rs15) := by kernel_rfl

/-! (*mailcoach/mailcoachref15.Table).Done params 4 -/
def h16 : Hints := ⟨[(8, [8]), (7, []), (6, [0, 7, 9]), (5, [8]), (4, [0, 2, 7, 9, 36]), (3, [8]), (2, [0, 2, 7, 9, 26]), (1, [0, 2, 7, 9]), (0, [0, 1, 2, 7])], [], [(7, [(0, []), (1, []), (2, []), (3, []), (4, []), (5, []), (6, []), (7, []), (8, [])])]⟩
def rs16 : List ARes := [.t 8]
def ac16 : ACode :=
 .seq (
  .reg [0, 1, 2, 7] [
    ⟨some 7, .op (.box (.t 3)), none⟩,
    ⟨some 8, .op (.mv (.c (.int .i64 0))), none⟩]) (
  .seq (
   .reg [0, 2, 7, 9] [
     ⟨some 10, .op (.mv (.t 0)), none⟩,
     ⟨some 11, .op (.mv (.t 1)), none⟩,
     ⟨some 12, .call (.c (.fn 28 [] [])) [(.t 10), (.t 11)], none⟩,
     ⟨some 9, .op (.mv (.t 12)), none⟩]) (
   .seq (
    .seq (
     .reg [0, 2, 7, 9, 26] [
       ⟨some 13, .op (.mv (.t 9)), none⟩,
       ⟨some 14, .op (.bin .lss (.t 13) (.c (.int .i64 0))), none⟩,
       ⟨some 15, .op (.mv (.t 14)), none⟩,
       ⟨some 16, .op (.mv (.t 2)), some (15, false)⟩,
       ⟨some 17, .op (.mv (.t 0)), some (15, false)⟩,
       ⟨some 18, .op (.nilCheck (.t 17)), some (15, false)⟩,
       ⟨some 19, .op (.fieldAddr 0 (.t 18)), some (15, false)⟩,
       ⟨some 20, .op (.ld1 (.t 19)), some (15, false)⟩,
       ⟨some 21, .op (.mv (.t 9)), some (15, false)⟩,
       ⟨some 22, .op (.idxAddr 5 (.t 20) (.t 21)), some (15, false)⟩,
       ⟨some 23, .op (.fieldAddr 1 (.t 22)), some (15, false)⟩,
       ⟨some 24, .op (.ld1 (.t 23)), some (15, false)⟩,
       ⟨some 25, .op (.bin .gtr (.t 16) (.t 24)), some (15, false)⟩,
       ⟨some 26, .pick (.t 15) (.c (.bool true)) (.t 25), none⟩]) (
     .cond (.t 26) (
      .seq (
       .reg [8] [
         ⟨some 8, .op (.mv (.c (.int .i64 11))), none⟩]) (
       .ret)) (
      .skip))) (
    .seq (
     .seq (
      .reg [0, 2, 7, 9, 36] [
        ⟨some 27, .op (.mv (.t 2)), none⟩,
        ⟨some 28, .op (.mv (.t 0)), none⟩,
        ⟨some 29, .op (.nilCheck (.t 28)), none⟩,
        ⟨some 30, .op (.fieldAddr 0 (.t 29)), none⟩,
        ⟨some 31, .op (.ld1 (.t 30)), none⟩,
        ⟨some 32, .op (.mv (.t 9)), none⟩,
        ⟨some 33, .op (.idxAddr 5 (.t 31) (.t 32)), none⟩,
        ⟨some 34, .op (.fieldAddr 2 (.t 33)), none⟩,
        ⟨some 35, .op (.ld1 (.t 34)), none⟩,
        ⟨some 36, .op (.bin .leq (.t 27) (.t 35)), none⟩]) (
      .cond (.t 36) (
       .seq (
        .reg [8] [
          ⟨some 8, .op (.mv (.c (.int .i64 40))), none⟩]) (
        .ret)) (
       .skip))) (
     .seq (
      .reg [0, 7, 9] [
        ⟨some 37, .op (.mv (.t 0)), none⟩,
        ⟨some 38, .op (.nilCheck (.t 37)), none⟩,
        ⟨some 39, .op (.fieldAddr 0 (.t 38)), none⟩,
        ⟨some 40, .op (.ld1 (.t 39)), none⟩,
        ⟨some 41, .op (.mv (.t 9)), none⟩,
        ⟨some 42, .op (.mv (.t 2)), none⟩,
        ⟨some 43, .op (.idxAddr 5 (.t 40) (.t 41)), none⟩,
        ⟨some 44, .op (.fieldAddr 2 (.t 43)), none⟩,
        ⟨none, .op (.st 1 (.t 44) (.t 42)), none⟩]) (
      .seq (
       .dreg [] [
         (⟨some 45, .op (.mv (.t 0)), none⟩, []),
         (⟨some 46, .op (.nilCheck (.t 45)), none⟩, []),
         (⟨some 47, .op (.fieldAddr 0 (.t 46)), none⟩, []),
         (⟨some 48, .op (.ld1 (.t 47)), none⟩, []),
         (⟨some 49, .op (.mv (.t 9)), none⟩, []),
         (⟨some 50, .op (.ldn 2 (.t 7)), none⟩, []),
         (⟨some 51, .op (.idxAddr 5 (.t 48) (.t 49)), none⟩, []),
         (⟨some 52, .op (.fieldAddr 3 (.t 51)), none⟩, []),
         (⟨none, .op (.st 2 (.t 52) (.t 50)), none⟩, [])]) (
       .seq (
        .reg [8] [
          ⟨some 8, .op (.mv (.c (.int .i64 0))), none⟩]) (
        .ret)))))))
theorem cf16 : compF Try.prog Try.f16 h16 = some (ac16, rs16) := by kernel_rfl

/-! (*mailcoach/mailcoachref15.Table).Forget params 1 -/
def h17 : Hints := ⟨[(8, []), (3, [0, 2, 3]), (7, [0, 2, 3]), (6, [0, 2, 3, 4, 26]), (5, [0, 2, 3, 4]), (4, [0, 2, 3, 4]), (2, [0, 2, 3, 11]), (1, [0, 2, 3]), (0, [0, 2])], [(2, [0, 2, 3])], []⟩
def rs17 : List ARes := []
def ac17 : ACode :=
 .seq (
  .reg [0, 2] [
    ⟨some 2, .op (.mv (.c (.nilsl))), none⟩]) (
  .seq (
   .seq (
    .reg [0, 2, 3] [
      ⟨some 3, .op (.mv (.c (.int .i64 0))), none⟩]) (
    .block 0 (
     .loop [0, 2, 3] (
      .seq (
       .seq (
        .reg [0, 2, 3, 11] [
          ⟨some 5, .op (.mv (.t 3)), none⟩,
          ⟨some 6, .op (.mv (.t 0)), none⟩,
          ⟨some 7, .op (.nilCheck (.t 6)), none⟩,
          ⟨some 8, .op (.fieldAddr 0 (.t 7)), none⟩,
          ⟨some 9, .op (.ld1 (.t 8)), none⟩,
          ⟨some 10, .op (.len 1 (.t 9)), none⟩,
          ⟨some 11, .op (.bin .lss (.t 5) (.t 10)), none⟩]) (
        .cond (.t 11) (
         .skip) (
         .exit 0))) (
       .seq (
        .block 1 (
         .seq (
          .reg [0, 2, 3, 4] [
            ⟨some 14, .op (.mv (.t 0)), none⟩,
            ⟨some 15, .op (.nilCheck (.t 14)), none⟩,
            ⟨some 16, .op (.fieldAddr 0 (.t 15)), none⟩,
            ⟨some 17, .op (.ld1 (.t 16)), none⟩,
            ⟨some 18, .op (.mv (.t 3)), none⟩,
            ⟨some 19, .op (.idxAddr 5 (.t 17) (.t 18)), none⟩,
            ⟨some 20, .op (.ldn 5 (.t 19)), none⟩,
            ⟨some 4, .op (.alloc [.str ⟨#[]⟩, .int .u64 0, .int .u64 0, .int .u64 0, .int .u64 0]), none⟩,
            ⟨none, .op (.st 5 (.t 4) (.t 20)), none⟩]) (
          .seq (
           .reg [0, 2, 3, 4] [
             ⟨some 21, .op (.fieldAddr 2 (.t 4)), none⟩,
             ⟨some 22, .op (.ld1 (.t 21)), none⟩,
             ⟨some 23, .op (.fieldAddr 1 (.t 4)), none⟩,
             ⟨none, .op (.st 1 (.t 23) (.t 22)), none⟩]) (
           .seq (
            .reg [0, 2, 3, 4, 26] [
              ⟨some 24, .op (.fieldAddr 2 (.t 4)), none⟩,
              ⟨some 25, .op (.ld1 (.t 24)), none⟩,
              ⟨some 26, .op (.bin .gtr (.t 25) (.c (.int .u64 0))), none⟩]) (
            .cond (.t 26) (
             .reg [0, 2, 3] [
               ⟨some 27, .op (.mv (.t 2)), none⟩,
               ⟨some 28, .op (.ldn 5 (.t 4)), none⟩,
               ⟨some 29, .op (.buildSl 5 [.str ⟨#[]⟩, .int .u64 0, .int .u64 0, .int .u64 0, .int .u64 0] 1 [(0, (.t 28))]), none⟩,
               ⟨some 30, .op (.append 5 48 (.t 27) (.t 29)), none⟩,
               ⟨some 2, .op (.mv (.t 30)), none⟩]) (
             .skip)))))) (
        .reg [0, 2, 3] [
          ⟨some 12, .op (.mv (.t 3)), none⟩,
          ⟨some 13, .op (.bin .add (.t 12) (.c (.int .i64 1))), none⟩,
          ⟨some 3, .op (.mv (.t 13)), none⟩])))))) (
   .reg [] [
     ⟨some 31, .op (.mv (.t 0)), none⟩,
     ⟨some 32, .op (.mv (.t 2)), none⟩,
     ⟨some 33, .op (.nilCheck (.t 31)), none⟩,
     ⟨some 34, .op (.fieldAddr 0 (.t 33)), none⟩,
     ⟨none, .op (.st 1 (.t 34) (.t 32)), none⟩]))
theorem cf17 : compF Try.prog Try.f17 h17 = some (ac17, rs17) := by kernel_rfl

/-! mailcoach/mailcoachref15.SameLines params 2 -/
def h18 : Hints := ⟨[(8, [4]), (5, [0, 1, 5]), (7, [4]), (6, [0, 1, 5, 25]), (4, [0, 1, 5, 14]), (3, [0, 1, 5]), (2, [4]), (1, [0, 1, 10]), (0, [0, 1])], [(4, [0, 1, 5])], [(6, [(0, []), (1, []), (2, []), (3, []), (4, []), (5, []), (6, []), (7, []), (8, [])])]⟩
def rs18 : List ARes := [.t 4]
def ac18 : ACode :=
 .seq (
  .reg [0, 1] [
    ⟨some 4, .op (.mv (.c (.bool false))), none⟩]) (
  .seq (
   .seq (
    .reg [0, 1, 10] [
      ⟨some 6, .op (.mv (.t 0)), none⟩,
      ⟨some 7, .op (.len 1 (.t 6)), none⟩,
      ⟨some 8, .op (.mv (.t 1)), none⟩,
      ⟨some 9, .op (.len 1 (.t 8)), none⟩,
      ⟨some 10, .op (.bin .neq (.t 7) (.t 9)), none⟩]) (
    .cond (.t 10) (
     .seq (
      .reg [4] [
        ⟨some 4, .op (.mv (.c (.bool false))), none⟩]) (
      .ret)) (
     .skip))) (
   .seq (
    .seq (
     .reg [0, 1, 5] [
       ⟨some 5, .op (.mv (.c (.int .i64 0))), none⟩]) (
     .block 0 (
      .loop [0, 1, 5] (
       .seq (
        .seq (
         .reg [0, 1, 5, 14] [
           ⟨some 11, .op (.mv (.t 5)), none⟩,
           ⟨some 12, .op (.mv (.t 0)), none⟩,
           ⟨some 13, .op (.len 1 (.t 12)), none⟩,
           ⟨some 14, .op (.bin .lss (.t 11) (.t 13)), none⟩]) (
         .cond (.t 14) (
          .skip) (
          .exit 0))) (
        .seq (
         .block 1 (
          .seq (
           .dreg [0, 1, 5, 25] [
             (⟨some 17, .op (.mv (.t 0)), none⟩, []),
             (⟨some 18, .op (.mv (.t 5)), none⟩, []),
             (⟨some 19, .op (.idxAddr 5 (.t 17) (.t 18)), none⟩, []),
             (⟨some 20, .op (.ldn 5 (.t 19)), none⟩, []),
             (⟨some 21, .op (.mv (.t 1)), none⟩, []),
             (⟨some 22, .op (.mv (.t 5)), none⟩, []),
             (⟨some 23, .op (.idxAddr 5 (.t 21) (.t 22)), none⟩, []),
             (⟨some 24, .op (.ldn 5 (.t 23)), none⟩, []),
             (⟨some 25, .op (.eqs true [2, 1, 1, 1, 1] (.t 20) (.t 24)), none⟩, [])]) (
           .cond (.t 25) (
            .seq (
             .reg [4] [
               ⟨some 4, .op (.mv (.c (.bool false))), none⟩]) (
             .ret)) (
            .skip)))) (
         .reg [0, 1, 5] [
           ⟨some 15, .op (.mv (.t 5)), none⟩,
           ⟨some 16, .op (.bin .add (.t 15) (.c (.int .i64 1))), none⟩,
           ⟨some 5, .op (.mv (.t 16)), none⟩])))))) (
    .seq (
     .reg [4] [
       ⟨some 4, .op (.mv (.c (.bool true))), none⟩]) (
     .ret))))
theorem cf18 : compF Try.prog Try.f18 h18 = some (ac18, rs18) := by kernel_rfl

/-! (*mailcoach/mailcoachref15.Table).All params 1 -/
def h19 : Hints := ⟨[(9, [2]), (4, [0, 3, 4]), (8, [0, 3, 4]), (7, [0, 3, 4, 5]), (6, [0, 3, 4, 5, 34]), (5, [0, 3, 4, 5]), (3, [0, 3, 4, 12]), (2, [0, 3, 4]), (1, [0, 3]), (0, [0])], [(6, [0, 3, 4, 5]), (3, [0, 3, 4])], [(6, [(0, []), (1, []), (2, []), (3, []), (4, []), (5, []), (6, []), (7, []), (8, []), (9, []), (10, []), (11, []), (12, []), (13, []), (14, []), (15, []), (16, []), (17, []), (18, []), (19, [])]), (8, [(0, []), (1, []), (2, []), (3, []), (4, []), (5, []), (6, []), (7, []), (8, []), (9, []), (10, []), (11, []), (12, []), (13, []), (14, []), (15, [3]), (16, []), (17, [])])]⟩
def rs19 : List ARes := [.t 2]
def ac19 : ACode :=
 .seq (
  .reg [0] [
    ⟨some 2, .op (.mv (.c (.nilsl))), none⟩]) (
  .seq (
   .reg [0, 3] [
     ⟨some 3, .op (.mv (.c (.nilsl))), none⟩]) (
   .seq (
    .seq (
     .reg [0, 3, 4] [
       ⟨some 4, .op (.mv (.c (.int .i64 0))), none⟩]) (
     .block 0 (
      .loop [0, 3, 4] (
       .seq (
        .seq (
         .reg [0, 3, 4, 12] [
           ⟨some 6, .op (.mv (.t 4)), none⟩,
           ⟨some 7, .op (.mv (.t 0)), none⟩,
           ⟨some 8, .op (.nilCheck (.t 7)), none⟩,
           ⟨some 9, .op (.fieldAddr 0 (.t 8)), none⟩,
           ⟨some 10, .op (.ld1 (.t 9)), none⟩,
           ⟨some 11, .op (.len 1 (.t 10)), none⟩,
           ⟨some 12, .op (.bin .lss (.t 6) (.t 11)), none⟩]) (
         .cond (.t 12) (
          .skip) (
          .exit 0))) (
        .seq (
         .block 1 (
          .seq (
           .reg [0, 3, 4, 5] [
             ⟨some 5, .op (.mv (.c (.int .i64 0))), none⟩]) (
           .seq (
            .block 2 (
             .loop [0, 3, 4, 5] (
              .seq (
               .seq (
                .dreg [0, 3, 4, 5, 34] [
                  (⟨some 15, .op (.mv (.t 5)), none⟩, []),
                  (⟨some 16, .op (.mv (.t 3)), none⟩, []),
                  (⟨some 17, .op (.len 1 (.t 16)), none⟩, []),
                  (⟨some 18, .op (.bin .lss (.t 15) (.t 17)), none⟩, []),
                  (⟨some 19, .op (.mv (.t 18)), none⟩, []),
                  (⟨some 20, .op (.mv (.t 3)), some (19, true)⟩, []),
                  (⟨some 21, .op (.mv (.t 5)), some (19, true)⟩, []),
                  (⟨some 22, .op (.idxAddr 5 (.t 20) (.t 21)), some (19, true)⟩, []),
                  (⟨some 23, .op (.fieldAddr 0 (.t 22)), some (19, true)⟩, []),
                  (⟨some 24, .op (.ld1 (.t 23)), some (19, true)⟩, []),
                  (⟨some 25, .op (.mv (.t 0)), some (19, true)⟩, []),
                  (⟨some 26, .op (.nilCheck (.t 25)), some (19, true)⟩, []),
                  (⟨some 27, .op (.fieldAddr 0 (.t 26)), some (19, true)⟩, []),
                  (⟨some 28, .op (.ld1 (.t 27)), some (19, true)⟩, []),
                  (⟨some 29, .op (.mv (.t 4)), some (19, true)⟩, []),
                  (⟨some 30, .op (.idxAddr 5 (.t 28) (.t 29)), some (19, true)⟩, []),
                  (⟨some 31, .op (.fieldAddr 0 (.t 30)), some (19, true)⟩, []),
                  (⟨some 32, .op (.ld1 (.t 31)), some (19, true)⟩, []),
                  (⟨some 33, .op (.bin .lss (.t 24) (.t 32)), some (19, true)⟩, []),
                  (⟨some 34, .pick (.t 19) (.t 33) (.c (.bool false)), none⟩, [])]) (
                .cond (.t 34) (
                 .skip) (
                 .exit 2))) (
               .block 3 (
                .reg [0, 3, 4, 5] [
                  ⟨some 35, .op (.mv (.t 5)), none⟩,
                  ⟨some 36, .op (.bin .add (.t 35) (.c (.int .i64 1))), none⟩,
                  ⟨some 5, .op (.mv (.t 36)), none⟩]))))) (
            .dreg [0, 3, 4] [
              (⟨some 37, .op (.mv (.t 3)), none⟩, []),
              (⟨some 38, .op (.mv (.t 5)), none⟩, []),
              (⟨some 39, .op (.mv (.t 5)), none⟩, []),
              (⟨some 40, .op (.slice 5 (.t 37) none (some (.t 38)) (some (.t 39))), none⟩, []),
              (⟨some 41, .op (.mv (.t 0)), none⟩, []),
              (⟨some 42, .op (.nilCheck (.t 41)), none⟩, []),
              (⟨some 43, .op (.fieldAddr 0 (.t 42)), none⟩, []),
              (⟨some 44, .op (.ld1 (.t 43)), none⟩, []),
              (⟨some 45, .op (.mv (.t 4)), none⟩, []),
              (⟨some 46, .op (.idxAddr 5 (.t 44) (.t 45)), none⟩, []),
              (⟨some 47, .op (.ldn 5 (.t 46)), none⟩, []),
              (⟨some 48, .op (.buildSl 5 [.str ⟨#[]⟩, .int .u64 0, .int .u64 0, .int .u64 0, .int .u64 0] 1 [(0, (.t 47))]), none⟩, []),
              (⟨some 49, .op (.mv (.t 3)), none⟩, []),
              (⟨some 50, .op (.mv (.t 5)), none⟩, []),
              (⟨some 51, .op (.slice 5 (.t 49) (some (.t 50)) none none), none⟩, []),
              (⟨some 52, .op (.append 5 48 (.t 48) (.t 51)), none⟩, [3]),
              (⟨some 53, .op (.append 5 48 (.t 40) (.t 52)), none⟩, []),
              (⟨some 3, .op (.mv (.t 53)), none⟩, [])])))) (
         .reg [0, 3, 4] [
           ⟨some 13, .op (.mv (.t 4)), none⟩,
           ⟨some 14, .op (.bin .add (.t 13) (.c (.int .i64 1))), none⟩,
           ⟨some 4, .op (.mv (.t 14)), none⟩])))))) (
    .seq (
     .reg [2] [
       ⟨some 54, .op (.mv (.t 3)), none⟩,
       ⟨some 2, .op (.mv (.t 54)), none⟩]) (
     .ret))))
theorem cf19 : compF Try.prog Try.f19 h19 = some (ac19, rs19) := by kernel_rfl

/-! mailcoach/mailcoachlaw15.bytes params 1 -/
def h20 : Hints := ⟨[(3, [2]), (2, [3]), (1, [0, 3]), (0, [0])], [], []⟩
def rs20 : List ARes := [.t 2]
def ac20 : ACode :=
 .seq (
  .reg [0] [
    ⟨some 2, .op (.mv (.c (.nilsl))), none⟩]) (
  .seq (
   .reg [0, 3] [
     ⟨some 4, .op (.build [.nilsl] []), none⟩,
     ⟨some 5, .op (.box (.t 4)), none⟩,
     ⟨some 3, .op (.mv (.t 5)), none⟩]) (
   .seq (
    .reg [3] [
      ⟨some 6, .op (.mv (.t 0)), none⟩,
      ⟨some 7, .op (.mv (.t 3)), none⟩,
      ⟨some 8, .call (.c (.fn 29 [] [])) [(.t 6), (.t 7)], none⟩]) (
    .seq (
     .reg [2] [
       ⟨some 9, .op (.mv (.t 3)), none⟩,
       ⟨some 10, .call (.c (.fn 13 [] [])) [(.t 9)], none⟩,
       ⟨some 2, .op (.mv (.t 10)), none⟩]) (
     .ret))))
theorem cf20 : compF Try.prog Try.f20 h20 = some (ac20, rs20) := by kernel_rfl

/-! (*mailcoach/mailcoachref15.Table).Bytes params 2 -/
def h21 : Hints := ⟨[(14, [4]), (11, [1, 5, 8]), (13, [1, 5, 8]), (12, [1, 5, 8]), (10, [1, 5, 8, 38]), (9, [1, 5, 8]), (8, [1, 5]), (5, [1, 5, 6, 7]), (7, [1, 5, 6, 7]), (6, [1, 5, 6, 7, 22]), (4, [1, 5, 6, 7, 14]), (3, [1, 5, 6, 7]), (2, [1, 5, 6]), (1, [0, 1, 5]), (0, [0, 1])], [(10, [1, 5, 8]), (4, [1, 5, 6, 7])], [(13, [(0, []), (1, []), (2, []), (3, []), (4, []), (5, []), (7, []), (8, []), (9, []), (10, []), (11, []), (12, []), (14, []), (15, []), (16, []), (17, []), (18, []), (19, []), (6, [11, 17]), (13, [17]), (20, []), (21, [])])]⟩
def rs21 : List ARes := [.t 4]
def ac21 : ACode :=
 .seq (
  .reg [0, 1] [
    ⟨some 4, .op (.mv (.c (.nilsl))), none⟩]) (
  .seq (
   .reg [0, 1, 5] [
     ⟨some 5, .op (.mv (.c (.nilsl))), none⟩]) (
   .seq (
    .reg [1, 5, 6] [
      ⟨some 9, .op (.mv (.t 0)), none⟩,
      ⟨some 10, .call (.c (.fn 19 [] [])) [(.t 9)], none⟩,
      ⟨some 6, .op (.mv (.t 10)), none⟩]) (
    .seq (
     .seq (
      .reg [1, 5, 6, 7] [
        ⟨some 7, .op (.mv (.c (.int .i64 0))), none⟩]) (
      .block 0 (
       .loop [1, 5, 6, 7] (
        .seq (
         .seq (
          .reg [1, 5, 6, 7, 14] [
            ⟨some 11, .op (.mv (.t 7)), none⟩,
            ⟨some 12, .op (.mv (.t 6)), none⟩,
            ⟨some 13, .op (.len 1 (.t 12)), none⟩,
            ⟨some 14, .op (.bin .lss (.t 11) (.t 13)), none⟩]) (
          .cond (.t 14) (
           .skip) (
           .exit 0))) (
         .seq (
          .block 1 (
           .seq (
            .reg [1, 5, 6, 7, 22] [
              ⟨some 17, .op (.mv (.t 6)), none⟩,
              ⟨some 18, .op (.mv (.t 7)), none⟩,
              ⟨some 19, .op (.idxAddr 5 (.t 17) (.t 18)), none⟩,
              ⟨some 20, .op (.fieldAddr 2 (.t 19)), none⟩,
              ⟨some 21, .op (.ld1 (.t 20)), none⟩,
              ⟨some 22, .op (.bin .gtr (.t 21) (.c (.int .u64 0))), none⟩]) (
            .cond (.t 22) (
             .reg [1, 5, 6, 7] [
               ⟨some 23, .op (.mv (.t 5)), none⟩,
               ⟨some 24, .op (.mv (.t 6)), none⟩,
               ⟨some 25, .op (.mv (.t 7)), none⟩,
               ⟨some 26, .op (.idxAddr 5 (.t 24) (.t 25)), none⟩,
               ⟨some 27, .op (.ldn 5 (.t 26)), none⟩,
               ⟨some 28, .op (.buildSl 5 [.str ⟨#[]⟩, .int .u64 0, .int .u64 0, .int .u64 0, .int .u64 0] 1 [(0, (.t 27))]), none⟩,
               ⟨some 29, .op (.append 5 48 (.t 23) (.t 28)), none⟩,
               ⟨some 5, .op (.mv (.t 29)), none⟩]) (
             .skip)))) (
          .reg [1, 5, 6, 7] [
            ⟨some 15, .op (.mv (.t 7)), none⟩,
            ⟨some 16, .op (.bin .add (.t 15) (.c (.int .i64 1))), none⟩,
            ⟨some 7, .op (.mv (.t 16)), none⟩])))))) (
     .seq (
      .reg [1, 5] [
        ⟨some 30, .op (.mv (.t 1)), none⟩,
        ⟨some 31, .op (.mv (.t 5)), none⟩,
        ⟨some 32, .op (.len 1 (.t 31)), none⟩,
        ⟨some 33, .op (.toInt .u64 (.t 32)), none⟩,
        ⟨some 34, .call (.c (.fn 30 [] [])) [(.t 30), (.t 33), (.c (.int .i64 1))], none⟩,
        ⟨some 1, .op (.mv (.t 34)), none⟩]) (
      .seq (
       .seq (
        .reg [1, 5, 8] [
          ⟨some 8, .op (.mv (.c (.int .i64 0))), none⟩]) (
        .block 2 (
         .loop [1, 5, 8] (
          .seq (
           .seq (
            .reg [1, 5, 8, 38] [
              ⟨some 35, .op (.mv (.t 8)), none⟩,
              ⟨some 36, .op (.mv (.t 5)), none⟩,
              ⟨some 37, .op (.len 1 (.t 36)), none⟩,
              ⟨some 38, .op (.bin .lss (.t 35) (.t 37)), none⟩]) (
            .cond (.t 38) (
             .skip) (
             .exit 2))) (
           .seq (
            .block 3 (
             .seq (
              .reg [1, 5, 8] [
                ⟨some 41, .op (.mv (.t 1)), none⟩,
                ⟨some 42, .op (.mv (.t 5)), none⟩,
                ⟨some 43, .op (.mv (.t 8)), none⟩,
                ⟨some 44, .op (.idxAddr 5 (.t 42) (.t 43)), none⟩,
                ⟨some 45, .op (.fieldAddr 0 (.t 44)), none⟩,
                ⟨some 46, .op (.ld1 (.t 45)), none⟩,
                ⟨some 47, .op (.strBytes (.t 46)), none⟩,
                ⟨some 48, .call (.c (.fn 31 [] [])) [(.t 41), (.t 47)], none⟩,
                ⟨some 1, .op (.mv (.t 48)), none⟩]) (
              .dreg [1, 5, 8] [
                (⟨some 49, .op (.mv (.t 1)), none⟩, []),
                (⟨some 50, .op (.mv (.t 5)), none⟩, []),
                (⟨some 51, .op (.mv (.t 8)), none⟩, []),
                (⟨some 52, .op (.idxAddr 5 (.t 50) (.t 51)), none⟩, []),
                (⟨some 53, .op (.fieldAddr 2 (.t 52)), none⟩, []),
                (⟨some 54, .op (.ld1 (.t 53)), none⟩, []),
                (⟨some 56, .op (.mv (.t 5)), none⟩, []),
                (⟨some 57, .op (.mv (.t 8)), none⟩, []),
                (⟨some 58, .op (.idxAddr 5 (.t 56) (.t 57)), none⟩, []),
                (⟨some 59, .op (.fieldAddr 3 (.t 58)), none⟩, []),
                (⟨some 60, .op (.fieldAddr 0 (.t 59)), none⟩, []),
                (⟨some 61, .op (.ld1 (.t 60)), none⟩, []),
                (⟨some 63, .op (.mv (.t 5)), none⟩, []),
                (⟨some 64, .op (.mv (.t 8)), none⟩, []),
                (⟨some 65, .op (.idxAddr 5 (.t 63) (.t 64)), none⟩, []),
                (⟨some 66, .op (.fieldAddr 3 (.t 65)), none⟩, []),
                (⟨some 67, .op (.fieldAddr 1 (.t 66)), none⟩, []),
                (⟨some 68, .op (.ld1 (.t 67)), none⟩, []),
                (⟨some 55, .call (.c (.fn 30 [] [])) [(.t 49), (.t 54), (.c (.int .i64 8))], none⟩, [11, 17]),
                (⟨some 62, .call (.c (.fn 30 [] [])) [(.t 55), (.t 61), (.c (.int .i64 8))], none⟩, [17]),
                (⟨some 69, .call (.c (.fn 30 [] [])) [(.t 62), (.t 68), (.c (.int .i64 8))], none⟩, []),
                (⟨some 1, .op (.mv (.t 69)), none⟩, [])]))) (
            .reg [1, 5, 8] [
              ⟨some 39, .op (.mv (.t 8)), none⟩,
              ⟨some 40, .op (.bin .add (.t 39) (.c (.int .i64 1))), none⟩,
              ⟨some 8, .op (.mv (.t 40)), none⟩])))))) (
       .seq (
        .reg [4] [
          ⟨some 70, .op (.mv (.t 1)), none⟩,
          ⟨some 4, .op (.mv (.t 70)), none⟩]) (
        .ret)))))))
theorem cf21 : compF Try.prog Try.f21 h21 = some (ac21, rs21) := by kernel_rfl

/-! mailcoach/mailcoachlaw15.has params 2 -/
def h22 : Hints := ⟨[(7, [4]), (6, [1, 10, 11, 12]), (5, [4]), (4, [1, 10, 11, 12, 19]), (3, [1, 6, 10, 11, 12]), (2, [1, 10, 11, 12, 13]), (1, [1, 10, 11, 12]), (0, [0, 1])], [(2, [1, 10, 11, 12])], []⟩
def rs22 : List ARes := [.t 4]
def ac22 : ACode :=
 .seq (
  .reg [0, 1] [
    ⟨some 4, .op (.mv (.c (.bool false))), none⟩]) (
  .seq (
   .seq (
    .reg [1, 10, 11, 12] [
      ⟨some 7, .op (.mv (.t 0)), none⟩,
      ⟨some 8, .op (.nilCheck (.t 7)), none⟩,
      ⟨some 9, .op (.fieldAddr 0 (.t 8)), none⟩,
      ⟨some 10, .op (.ld1 (.t 9)), none⟩,
      ⟨some 11, .op (.len 1 (.t 10)), none⟩,
      ⟨some 12, .op (.mv (.c (.int .i64 0))), none⟩]) (
    .block 0 (
     .loop [1, 10, 11, 12] (
      .seq (
       .reg [1, 10, 11, 12, 13] [
         ⟨some 13, .op (.bin .lss (.t 12) (.t 11)), none⟩]) (
       .seq (
        .cond (.t 13) (
         .skip) (
         .exit 0)) (
        .seq (
         .block 1 (
          .seq (
           .reg [1, 6, 10, 11, 12] [
             ⟨some 14, .op (.idxAddr 5 (.t 10) (.t 12)), none⟩,
             ⟨some 15, .op (.ldn 5 (.t 14)), none⟩,
             ⟨some 6, .op (.alloc [.str ⟨#[]⟩, .int .u64 0, .int .u64 0, .int .u64 0, .int .u64 0]), none⟩,
             ⟨none, .op (.st 5 (.t 6) (.t 15)), none⟩]) (
           .seq (
            .reg [1, 10, 11, 12, 19] [
              ⟨some 16, .op (.fieldAddr 0 (.t 6)), none⟩,
              ⟨some 17, .op (.ld1 (.t 16)), none⟩,
              ⟨some 18, .op (.mv (.t 1)), none⟩,
              ⟨some 19, .op (.bin .eql (.t 17) (.t 18)), none⟩]) (
            .cond (.t 19) (
             .seq (
              .reg [4] [
                ⟨some 4, .op (.mv (.c (.bool true))), none⟩]) (
              .ret)) (
             .skip))))) (
         .reg [1, 10, 11, 12] [
           ⟨some 20, .op (.bin .add (.t 12) (.c (.int .i64 1))), none⟩,
           ⟨some 12, .op (.mv (.t 20)), none⟩]))))))) (
   .seq (
    .reg [4] [
      ⟨some 4, .op (.mv (.c (.bool false))), none⟩]) (
    .ret)))
theorem cf22 : compF Try.prog Try.f22 h22 = some (ac22, rs22) := by kernel_rfl

/-! slices.SortedFunc[mailcoach/api.Line] params 2 -/
def h23 : Hints := ⟨[(3, [4]), (2, [5]), (1, [1, 5]), (0, [0, 1])], [], []⟩
def rs23 : List ARes := [.t 4]
def ac23 : ACode :=
 .seq (
  .reg [0, 1] [
    ⟨some 4, .op (.mv (.c (.nilsl))), none⟩]) (
  .seq (
   .reg [1, 5] [
     ⟨some 6, .op (.mv (.t 0)), none⟩,
     ⟨some 7, .call (.c (.fn 32 [] [])) [(.t 6)], none⟩,
     ⟨some 5, .op (.mv (.t 7)), none⟩]) (
   .seq (
    .reg [5] [
      ⟨some 8, .op (.mv (.t 5)), none⟩,
      ⟨some 9, .op (.mv (.t 1)), none⟩,
      ⟨some 10, .call (.c (.fn 33 [] [])) [(.t 8), (.t 9)], none⟩]) (
    .seq (
     .reg [4] [
       ⟨some 11, .op (.mv (.t 5)), none⟩,
       ⟨some 4, .op (.mv (.t 11)), none⟩]) (
     .ret))))
theorem cf23 : compF Try.prog Try.f23 h23 = some (ac23, rs23) := by kernel_rfl

/-! maps.Values[map[string]mailcoach/api.Line,string,mailcoach/api.Line] params 1 -/
def h24 : Hints := ⟨[(1, [2]), (0, [1])], [], []⟩
def rs24 : List ARes := [.t 2]
def ac24 : ACode :=
 .seq (
  .reg [1] [
    ⟨some 1, .op (.box (.t 0)), none⟩,
    ⟨some 2, .op (.mv (.c (.nilfn))), none⟩]) (
  .seq (
   .reg [2] [
     ⟨some 3, .op (.mkfn 34 [] [(.t 1)]), none⟩,
     ⟨some 2, .op (.mv (.t 3)), none⟩]) (
   .ret))
theorem cf24 : compF Try.prog Try.f24 h24 = some (ac24, rs24) := by kernel_rfl

/-! (*mailcoach/dedup.Table).All$1 params 2 -/
def h25 : Hints := ⟨[(1, [4]), (0, [2, 3])], [], []⟩
def rs25 : List ARes := [.t 4]
def ac25 : ACode :=
 .seq (
  .reg [2, 3] [
    ⟨some 2, .op (.box (.t 0)), none⟩,
    ⟨some 3, .op (.box (.t 1)), none⟩,
    ⟨some 4, .op (.mv (.c (.int .i64 0))), none⟩]) (
  .seq (
   .reg [4] [
     ⟨some 5, .op (.fieldAddr 0 (.t 2)), none⟩,
     ⟨some 6, .op (.ld1 (.t 5)), none⟩,
     ⟨some 7, .op (.fieldAddr 0 (.t 3)), none⟩,
     ⟨some 8, .op (.ld1 (.t 7)), none⟩,
     ⟨some 9, .call (.c (.fn 26 [] [])) [(.t 6), (.t 8)], none⟩,
     ⟨some 4, .op (.mv (.t 9)), none⟩]) (
   .ret))
theorem cf25 : compF Try.prog Try.f25 h25 = some (ac25, rs25) := by kernel_rfl

/-! cmp.Compare[string] params 2 -/
def h26 : Hints := ⟨[(13, [4]), (12, [4]), (11, [19]), (10, [4]), (9, [0, 1, 16]), (8, [4]), (7, [0, 1, 13]), (6, [4]), (5, [4]), (4, [12]), (3, [0, 1, 6, 11]), (2, [0, 1, 5, 6]), (1, [0, 1, 5]), (0, [0, 1])], [], []⟩
def rs26 : List ARes := [.t 4]
def ac26 : ACode :=
 .seq (
  .reg [0, 1] [
    ⟨some 4, .op (.mv (.c (.int .i64 0))), none⟩]) (
  .seq (
   .reg [0, 1, 5] [
     ⟨some 7, .op (.mv (.t 0)), none⟩,
     ⟨some 8, .call (.c (.fn 35 [] [])) [(.t 7)], none⟩,
     ⟨some 5, .op (.mv (.t 8)), none⟩]) (
   .seq (
    .reg [0, 1, 5, 6] [
      ⟨some 9, .op (.mv (.t 1)), none⟩,
      ⟨some 10, .call (.c (.fn 35 [] [])) [(.t 9)], none⟩,
      ⟨some 6, .op (.mv (.t 10)), none⟩]) (
    .seq (
     .seq (
      .reg [0, 1, 6, 11] [
        ⟨some 11, .op (.mv (.t 5)), none⟩]) (
      .cond (.t 11) (
       .seq (
        .seq (
         .reg [12] [
           ⟨some 12, .op (.mv (.t 6)), none⟩]) (
         .cond (.t 12) (
          .seq (
           .reg [4] [
             ⟨some 4, .op (.mv (.c (.int .i64 0))), none⟩]) (
           .ret)) (
          .skip))) (
        .seq (
         .reg [4] [
           ⟨some 4, .op (.mv (.c (.int .i64 (-1)))), none⟩]) (
         .ret))) (
       .skip))) (
     .seq (
      .seq (
       .reg [0, 1, 13] [
         ⟨some 13, .op (.mv (.t 6)), none⟩]) (
       .cond (.t 13) (
        .seq (
         .reg [4] [
           ⟨some 4, .op (.mv (.c (.int .i64 1))), none⟩]) (
         .ret)) (
        .skip))) (
      .seq (
       .seq (
        .reg [0, 1, 16] [
          ⟨some 14, .op (.mv (.t 0)), none⟩,
          ⟨some 15, .op (.mv (.t 1)), none⟩,
          ⟨some 16, .op (.bin .lss (.t 14) (.t 15)), none⟩]) (
        .cond (.t 16) (
         .seq (
          .reg [4] [
            ⟨some 4, .op (.mv (.c (.int .i64 (-1)))), none⟩]) (
          .ret)) (
         .skip))) (
       .seq (
        .seq (
         .reg [19] [
           ⟨some 17, .op (.mv (.t 0)), none⟩,
           ⟨some 18, .op (.mv (.t 1)), none⟩,
           ⟨some 19, .op (.bin .gtr (.t 17) (.t 18)), none⟩]) (
         .cond (.t 19) (
          .seq (
           .reg [4] [
             ⟨some 4, .op (.mv (.c (.int .i64 1))), none⟩]) (
           .ret)) (
          .skip))) (
        .seq (
         .reg [4] [
           ⟨some 4, .op (.mv (.c (.int .i64 0))), none⟩]) (
         .ret))))))))
theorem cf26 : compF Try.prog Try.f26 h26 = some (ac26, rs26) := by kernel_rfl

/-! slices.Clone[[]byte,byte] params 1 -/
def h27 : Hints := ⟨[(3, [2]), (2, [2]), (1, [0, 4]), (0, [0])], [], []⟩
def rs27 : List ARes := [.t 2]
def ac27 : ACode :=
 .seq (
  .reg [0] [
    ⟨some 2, .op (.mv (.c (.nilsl))), none⟩]) (
  .seq (
   .seq (
    .reg [0, 4] [
      ⟨some 3, .op (.mv (.t 0)), none⟩,
      ⟨some 4, .op (.eqn 1 false (.t 3) (.c (.nilsl))), none⟩]) (
    .cond (.t 4) (
     .seq (
      .reg [2] [
        ⟨some 2, .op (.mv (.c (.nilsl))), none⟩]) (
      .ret)) (
     .skip))) (
   .seq (
    .reg [2] [
      ⟨some 5, .op (.buildSl 1 [.int .u8 0] 0 []), none⟩,
      ⟨some 6, .op (.mv (.t 0)), none⟩,
      ⟨some 7, .op (.append 1 1 (.t 5) (.t 6)), none⟩,
      ⟨some 2, .op (.mv (.t 7)), none⟩]) (
    .ret)))
theorem cf27 : compF Try.prog Try.f27 h27 = some (ac27, rs27) := by kernel_rfl

/-! (*mailcoach/mailcoachref15.Table).at params 2 -/
def h28 : Hints := ⟨[(6, [4]), (3, [0, 1, 5]), (5, [4]), (4, [0, 1, 5, 24]), (2, [0, 1, 5, 12]), (1, [0, 1, 5]), (0, [0, 1])], [(2, [0, 1, 5])], []⟩
def rs28 : List ARes := [.t 4]
def ac28 : ACode :=
 .seq (
  .reg [0, 1] [
    ⟨some 4, .op (.mv (.c (.int .i64 0))), none⟩]) (
  .seq (
   .seq (
    .reg [0, 1, 5] [
      ⟨some 5, .op (.mv (.c (.int .i64 0))), none⟩]) (
    .block 0 (
     .loop [0, 1, 5] (
      .seq (
       .seq (
        .reg [0, 1, 5, 12] [
          ⟨some 6, .op (.mv (.t 5)), none⟩,
          ⟨some 7, .op (.mv (.t 0)), none⟩,
          ⟨some 8, .op (.nilCheck (.t 7)), none⟩,
          ⟨some 9, .op (.fieldAddr 0 (.t 8)), none⟩,
          ⟨some 10, .op (.ld1 (.t 9)), none⟩,
          ⟨some 11, .op (.len 1 (.t 10)), none⟩,
          ⟨some 12, .op (.bin .lss (.t 6) (.t 11)), none⟩]) (
        .cond (.t 12) (
         .skip) (
         .exit 0))) (
       .seq (
        .block 1 (
         .seq (
          .reg [0, 1, 5, 24] [
            ⟨some 15, .op (.mv (.t 0)), none⟩,
            ⟨some 16, .op (.nilCheck (.t 15)), none⟩,
            ⟨some 17, .op (.fieldAddr 0 (.t 16)), none⟩,
            ⟨some 18, .op (.ld1 (.t 17)), none⟩,
            ⟨some 19, .op (.mv (.t 5)), none⟩,
            ⟨some 20, .op (.idxAddr 5 (.t 18) (.t 19)), none⟩,
            ⟨some 21, .op (.fieldAddr 0 (.t 20)), none⟩,
            ⟨some 22, .op (.ld1 (.t 21)), none⟩,
            ⟨some 23, .op (.mv (.t 1)), none⟩,
            ⟨some 24, .op (.bin .eql (.t 22) (.t 23)), none⟩]) (
          .cond (.t 24) (
           .seq (
            .reg [4] [
              ⟨some 25, .op (.mv (.t 5)), none⟩,
              ⟨some 4, .op (.mv (.t 25)), none⟩]) (
            .ret)) (
           .skip)))) (
        .reg [0, 1, 5] [
          ⟨some 13, .op (.mv (.t 5)), none⟩,
          ⟨some 14, .op (.bin .add (.t 13) (.c (.int .i64 1))), none⟩,
          ⟨some 5, .op (.mv (.t 14)), none⟩])))))) (
   .seq (
    .reg [4] [
      ⟨some 4, .op (.mv (.c (.int .i64 (-1)))), none⟩]) (
    .ret)))
theorem cf28 : compF Try.prog Try.f28 h28 = some (ac28, rs28) := by kernel_rfl

/-! (*mailcoach/dedup.Table).Write params 2 -/
def h29 : Hints := ⟨[(15, [1, 29, 30, 31]), (14, [1, 29, 30, 31]), (13, [1, 8, 29, 30, 31]), (12, [1, 8, 29, 30, 31]), (11, [1, 8, 29, 30, 31]), (10, [1, 8, 29, 30, 31]), (9, [1, 29, 30, 31, 32]), (8, [1, 29, 30, 31]), (7, [1, 4]), (6, [1, 4, 10, 11, 12]), (5, [1, 4, 10, 11, 12]), (4, [1, 4, 6, 10, 11, 12, 18]), (3, [1, 4, 6, 10, 11, 12]), (2, [1, 4, 10, 11, 12, 13]), (1, [1, 4, 10, 11, 12]), (0, [0, 1, 4])], [(9, [1, 29, 30, 31]), (2, [1, 4, 10, 11, 12])], []⟩
def rs29 : List ARes := []
def ac29 : ACode :=
 .seq (
  .reg [0, 1, 4] [
    ⟨some 4, .op (.mv (.c (.nilsl))), none⟩]) (
  .seq (
   .seq (
    .reg [1, 4, 10, 11, 12] [
      ⟨some 9, .op (.mv (.t 0)), none⟩,
      ⟨some 10, .call (.c (.fn 12 [] [])) [(.t 9)], none⟩,
      ⟨some 11, .op (.len 1 (.t 10)), none⟩,
      ⟨some 12, .op (.mv (.c (.int .i64 0))), none⟩]) (
    .block 0 (
     .loop [1, 4, 10, 11, 12] (
      .seq (
       .reg [1, 4, 10, 11, 12, 13] [
         ⟨some 13, .op (.bin .lss (.t 12) (.t 11)), none⟩]) (
       .seq (
        .cond (.t 13) (
         .skip) (
         .exit 0)) (
        .seq (
         .block 1 (
          .seq (
           .reg [1, 4, 6, 10, 11, 12] [
             ⟨some 14, .op (.idxAddr 5 (.t 10) (.t 12)), none⟩,
             ⟨some 15, .op (.ldn 5 (.t 14)), none⟩,
             ⟨some 6, .op (.alloc [.str ⟨#[]⟩, .int .u64 0, .int .u64 0, .int .u64 0, .int .u64 0]), none⟩,
             ⟨none, .op (.st 5 (.t 6) (.t 15)), none⟩]) (
           .seq (
            .reg [1, 4, 6, 10, 11, 12, 18] [
              ⟨some 16, .op (.fieldAddr 2 (.t 6)), none⟩,
              ⟨some 17, .op (.ld1 (.t 16)), none⟩,
              ⟨some 18, .op (.bin .gtr (.t 17) (.c (.int .u64 0))), none⟩]) (
            .cond (.t 18) (
             .reg [1, 4, 10, 11, 12] [
               ⟨some 19, .op (.mv (.t 4)), none⟩,
               ⟨some 20, .op (.ldn 5 (.t 6)), none⟩,
               ⟨some 21, .op (.buildSl 5 [.str ⟨#[]⟩, .int .u64 0, .int .u64 0, .int .u64 0, .int .u64 0] 1 [(0, (.t 20))]), none⟩,
               ⟨some 22, .op (.append 5 48 (.t 19) (.t 21)), none⟩,
               ⟨some 4, .op (.mv (.t 22)), none⟩]) (
             .skip))))) (
         .reg [1, 4, 10, 11, 12] [
           ⟨some 23, .op (.bin .add (.t 12) (.c (.int .i64 1))), none⟩,
           ⟨some 12, .op (.mv (.t 23)), none⟩]))))))) (
   .seq (
    .reg [1, 4] [
      ⟨some 24, .op (.mv (.t 1)), none⟩,
      ⟨some 25, .op (.mv (.t 4)), none⟩,
      ⟨some 26, .op (.len 1 (.t 25)), none⟩,
      ⟨some 27, .op (.toInt .u8 (.t 26)), none⟩,
      ⟨some 28, .call (.c (.fn 36 [] [])) [(.t 24), (.t 27)], none⟩]) (
    .seq (
     .reg [1, 29, 30, 31] [
       ⟨some 29, .op (.mv (.t 4)), none⟩,
       ⟨some 30, .op (.len 1 (.t 29)), none⟩,
       ⟨some 31, .op (.mv (.c (.int .i64 0))), none⟩]) (
     .block 2 (
      .loop [1, 29, 30, 31] (
       .seq (
        .reg [1, 29, 30, 31, 32] [
          ⟨some 32, .op (.bin .lss (.t 31) (.t 30)), none⟩]) (
        .seq (
         .cond (.t 32) (
          .skip) (
          .exit 2)) (
         .seq (
          .block 3 (
           .seq (
            .reg [1, 8, 29, 30, 31] [
              ⟨some 33, .op (.idxAddr 5 (.t 29) (.t 31)), none⟩,
              ⟨some 34, .op (.ldn 5 (.t 33)), none⟩,
              ⟨some 8, .op (.alloc [.str ⟨#[]⟩, .int .u64 0, .int .u64 0, .int .u64 0, .int .u64 0]), none⟩,
              ⟨none, .op (.st 5 (.t 8) (.t 34)), none⟩]) (
            .seq (
             .reg [1, 8, 29, 30, 31] [
               ⟨some 35, .op (.mv (.t 1)), none⟩,
               ⟨some 36, .op (.fieldAddr 0 (.t 8)), none⟩,
               ⟨some 37, .op (.ld1 (.t 36)), none⟩,
               ⟨some 38, .call (.c (.fn 37 [] [])) [(.t 35), (.t 37)], none⟩]) (
             .seq (
              .reg [1, 8, 29, 30, 31] [
                ⟨some 39, .op (.mv (.t 1)), none⟩,
                ⟨some 40, .op (.fieldAddr 2 (.t 8)), none⟩,
                ⟨some 41, .op (.ld1 (.t 40)), none⟩,
                ⟨some 42, .call (.c (.fn 38 [] [])) [(.t 39), (.t 41)], none⟩]) (
              .seq (
               .reg [1, 8, 29, 30, 31] [
                 ⟨some 43, .op (.mv (.t 1)), none⟩,
                 ⟨some 44, .op (.fieldAddr 3 (.t 8)), none⟩,
                 ⟨some 45, .op (.fieldAddr 0 (.t 44)), none⟩,
                 ⟨some 46, .op (.ld1 (.t 45)), none⟩,
                 ⟨some 47, .call (.c (.fn 38 [] [])) [(.t 43), (.t 46)], none⟩]) (
               .reg [1, 29, 30, 31] [
                 ⟨some 48, .op (.mv (.t 1)), none⟩,
                 ⟨some 49, .op (.fieldAddr 3 (.t 8)), none⟩,
                 ⟨some 50, .op (.fieldAddr 1 (.t 49)), none⟩,
                 ⟨some 51, .op (.ld1 (.t 50)), none⟩,
                 ⟨some 52, .call (.c (.fn 38 [] [])) [(.t 48), (.t 51)], none⟩])))))) (
          .reg [1, 29, 30, 31] [
            ⟨some 53, .op (.bin .add (.t 31) (.c (.int .i64 1))), none⟩,
            ⟨some 31, .op (.mv (.t 53)), none⟩])))))))))
theorem cf29 : compF Try.prog Try.f29 h29 = some (ac29, rs29) := by kernel_rfl

/-! mailcoach/mailcoachref01.Put params 3 -/
def h30 : Hints := ⟨[(10, [6]), (3, [0, 1, 7]), (9, [0, 1, 7]), (7, [0, 1, 7, 8, 9]), (8, [0, 1, 7, 8, 9]), (6, [0, 1, 7, 8, 9, 19]), (5, [0, 1, 7, 8, 9]), (4, [0, 1, 7, 8]), (2, [0, 1, 7, 13]), (1, [0, 1, 7]), (0, [0, 1, 2])], [(6, [0, 1, 7, 8, 9]), (2, [0, 1, 7])], []⟩
def rs30 : List ARes := [.t 6]
def ac30 : ACode :=
 .seq (
  .reg [0, 1, 2] [
    ⟨some 6, .op (.mv (.c (.nilsl))), none⟩]) (
  .seq (
   .seq (
    .reg [0, 1, 7] [
      ⟨some 10, .op (.mv (.t 2)), none⟩,
      ⟨some 11, .op (.bin .sub (.t 10) (.c (.int .i64 1))), none⟩,
      ⟨some 7, .op (.mv (.t 11)), none⟩]) (
    .block 0 (
     .loop [0, 1, 7] (
      .seq (
       .seq (
        .reg [0, 1, 7, 13] [
          ⟨some 12, .op (.mv (.t 7)), none⟩,
          ⟨some 13, .op (.bin .geq (.t 12) (.c (.int .i64 0))), none⟩]) (
        .cond (.t 13) (
         .skip) (
         .exit 0))) (
       .seq (
        .block 1 (
         .seq (
          .reg [0, 1, 7, 8] [
            ⟨some 16, .op (.mv (.t 1)), none⟩,
            ⟨some 8, .op (.mv (.t 16)), none⟩]) (
          .seq (
           .seq (
            .reg [0, 1, 7, 8, 9] [
              ⟨some 9, .op (.mv (.c (.int .i64 0))), none⟩]) (
            .block 2 (
             .loop [0, 1, 7, 8, 9] (
              .seq (
               .seq (
                .reg [0, 1, 7, 8, 9, 19] [
                  ⟨some 17, .op (.mv (.t 9)), none⟩,
                  ⟨some 18, .op (.mv (.t 7)), none⟩,
                  ⟨some 19, .op (.bin .lss (.t 17) (.t 18)), none⟩]) (
                .cond (.t 19) (
                 .skip) (
                 .exit 2))) (
               .seq (
                .block 3 (
                 .reg [0, 1, 7, 8, 9] [
                   ⟨some 22, .op (.mv (.t 8)), none⟩,
                   ⟨some 23, .op (.bin .quo (.t 22) (.c (.int .u64 256))), none⟩,
                   ⟨some 8, .op (.mv (.t 23)), none⟩])) (
                .reg [0, 1, 7, 8, 9] [
                  ⟨some 20, .op (.mv (.t 9)), none⟩,
                  ⟨some 21, .op (.bin .add (.t 20) (.c (.int .i64 1))), none⟩,
                  ⟨some 9, .op (.mv (.t 21)), none⟩])))))) (
           .reg [0, 1, 7] [
             ⟨some 24, .op (.mv (.t 0)), none⟩,
             ⟨some 25, .op (.mv (.t 8)), none⟩,
             ⟨some 26, .op (.bin .rem (.t 25) (.c (.int .u64 256))), none⟩,
             ⟨some 27, .op (.toInt .u8 (.t 26)), none⟩,
             ⟨some 28, .op (.buildSl 1 [.int .u8 0] 1 [(0, (.t 27))]), none⟩,
             ⟨some 29, .op (.append 1 1 (.t 24) (.t 28)), none⟩,
             ⟨some 0, .op (.mv (.t 29)), none⟩])))) (
        .reg [0, 1, 7] [
          ⟨some 14, .op (.mv (.t 7)), none⟩,
          ⟨some 15, .op (.bin .sub (.t 14) (.c (.int .i64 1))), none⟩,
          ⟨some 7, .op (.mv (.t 15)), none⟩])))))) (
   .seq (
    .reg [6] [
      ⟨some 30, .op (.mv (.t 0)), none⟩,
      ⟨some 6, .op (.mv (.t 30)), none⟩]) (
    .ret)))
theorem cf30 : compF Try.prog Try.f30 h30 = some (ac30, rs30) := by kernel_rfl

/-! mailcoach/mailcoachref01.PutBytes params 2 -/
def h31 : Hints := ⟨[(1, [4]), (0, [0, 1])], [], []⟩
def rs31 : List ARes := [.t 4]
def ac31 : ACode :=
 .seq (
  .reg [0, 1] [
    ⟨some 4, .op (.mv (.c (.nilsl))), none⟩]) (
  .seq (
   .reg [4] [
     ⟨some 5, .op (.mv (.t 0)), none⟩,
     ⟨some 6, .op (.mv (.t 1)), none⟩,
     ⟨some 7, .op (.len 1 (.t 6)), none⟩,
     ⟨some 8, .op (.toInt .u64 (.t 7)), none⟩,
     ⟨some 9, .call (.c (.fn 30 [] [])) [(.t 5), (.t 8), (.c (.int .i64 4))], none⟩,
     ⟨some 10, .op (.mv (.t 1)), none⟩,
     ⟨some 11, .op (.append 1 1 (.t 9) (.t 10)), none⟩,
     ⟨some 4, .op (.mv (.t 11)), none⟩]) (
   .ret))
theorem cf31 : compF Try.prog Try.f31 h31 = some (ac31, rs31) := by kernel_rfl

/-! slices.Collect[mailcoach/api.Line] params 1 -/
def h32 : Hints := ⟨[(1, [2]), (0, [0])], [], []⟩
def rs32 : List ARes := [.t 2]
def ac32 : ACode :=
 .seq (
  .reg [0] [
    ⟨some 2, .op (.mv (.c (.nilsl))), none⟩]) (
  .seq (
   .reg [2] [
     ⟨some 3, .op (.mv (.t 0)), none⟩,
     ⟨some 4, .call (.c (.fn 39 [] [])) [(.c (.nilsl)), (.t 3)], none⟩,
     ⟨some 2, .op (.mv (.t 4)), none⟩]) (
   .ret))
theorem cf32 : compF Try.prog Try.f32 h32 = some (ac32, rs32) := by kernel_rfl

/-! maps.Values[map[string]mailcoach/api.Line,string,mailcoach/api.Line]$1 params 2 -/
def h34 : Hints := ⟨[(3, [0, 6, 14]), (2, [0, 4, 6]), (1, [0, 6, 8]), (0, [0, 6])], [(1, [0, 6])], []⟩
def rs34 : List ARes := []
def ac34 : ACode :=
 .seq (
  .reg [0, 6] [
    ⟨some 5, .op (.ld1 (.t 1)), none⟩,
    ⟨some 6, .op (.rangeM (.t 5)), none⟩]) (
  .block 0 (
   .loop [0, 6] (
    .seq (
     .reg [0, 6, 8] [
       ⟨some 7, .next (.t 6), none⟩,
       ⟨some 8, .op (.extract (.t 7) 0), none⟩]) (
     .seq (
      .cond (.t 8) (
       .skip) (
       .exit 0)) (
      .block 1 (
       .seq (
        .reg [0, 4, 6] [
          ⟨some 9, .op (.entryM (.t 6)), none⟩,
          ⟨some 10, .op (.extract (.t 9) 1), none⟩,
          ⟨some 4, .op (.alloc [.str ⟨#[]⟩, .int .u64 0, .int .u64 0, .int .u64 0, .int .u64 0]), none⟩,
          ⟨none, .op (.st 5 (.t 4) (.t 10)), none⟩]) (
        .seq (
         .reg [0, 6, 14] [
           ⟨some 11, .op (.mv (.t 0)), none⟩,
           ⟨some 12, .op (.ldn 5 (.t 4)), none⟩,
           ⟨some 13, .call (.t 11) [(.t 12)], none⟩,
           ⟨some 14, .op (.un .not (.t 13)), none⟩]) (
         .cond (.t 14) (
          .ret) (
          .skip)))))))))
theorem cf34 : compF Try.prog Try.f34 h34 = some (ac34, rs34) := by kernel_rfl

/-! cmp.isNaN[string] params 1 -/
def h35 : Hints := ⟨[(1, [2]), (0, [0])], [], []⟩
def rs35 : List ARes := [.t 2]
def ac35 : ACode :=
 .seq (
  .reg [0] [
    ⟨some 2, .op (.mv (.c (.bool false))), none⟩]) (
  .seq (
   .reg [2] [
     ⟨some 3, .op (.mv (.t 0)), none⟩,
     ⟨some 4, .op (.mv (.t 0)), none⟩,
     ⟨some 5, .op (.bin .neq (.t 3) (.t 4)), none⟩,
     ⟨some 2, .op (.mv (.t 5)), none⟩]) (
   .ret))
theorem cf35 : compF Try.prog Try.f35 h35 = some (ac35, rs35) := by kernel_rfl

/-! (*mailcoach/pack.Writer).U8 params 2 -/
def h36 : Hints := ⟨[(0, [])], [], []⟩
def rs36 : List ARes := []
def ac36 : ACode :=
 .reg [] [
   ⟨some 4, .op (.mv (.t 0)), none⟩,
   ⟨some 5, .op (.mv (.t 1)), none⟩,
   ⟨some 6, .op (.toInt .u64 (.t 5)), none⟩,
   ⟨some 7, .call (.c (.fn 42 [] [])) [(.t 4), (.t 6), (.c (.int .i64 1))], none⟩]
theorem cf36 : compF Try.prog Try.f36 h36 = some (ac36, rs36) := by kernel_rfl

/-! (*mailcoach/pack.Writer).Text params 2 -/
def h37 : Hints := ⟨[(0, [])], [], []⟩
def rs37 : List ARes := []
def ac37 : ACode :=
 .reg [] [
   ⟨some 4, .op (.mv (.t 0)), none⟩,
   ⟨some 5, .op (.mv (.t 1)), none⟩,
   ⟨some 6, .op (.strBytes (.t 5)), none⟩,
   ⟨some 7, .call (.c (.fn 43 [] [])) [(.t 4), (.t 6)], none⟩]
theorem cf37 : compF Try.prog Try.f37 h37 = some (ac37, rs37) := by kernel_rfl

/-! (*mailcoach/pack.Writer).U64 params 2 -/
def h38 : Hints := ⟨[(0, [])], [], []⟩
def rs38 : List ARes := []
def ac38 : ACode :=
 .reg [] [
   ⟨some 4, .op (.mv (.t 0)), none⟩,
   ⟨some 5, .op (.mv (.t 1)), none⟩,
   ⟨some 6, .call (.c (.fn 42 [] [])) [(.t 4), (.t 5), (.c (.int .i64 8))], none⟩]
theorem cf38 : compF Try.prog Try.f38 h38 = some (ac38, rs38) := by kernel_rfl

/-! slices.AppendSeq[[]mailcoach/api.Line,mailcoach/api.Line] params 2 -/
def h39 : Hints := ⟨[(4, [4]), (3, [2]), (2, [2, 5]), (1, [2, 6]), (0, [1, 2])], [], []⟩
def rs39 : List ARes := [.t 4]
def ac39 : ACode :=
 .seq (
  .reg [1, 2] [
    ⟨some 2, .op (.box (.t 0)), none⟩,
    ⟨some 4, .op (.mv (.c (.nilsl))), none⟩]) (
  .seq (
   .seq (
    .reg [2, 6] [
      ⟨some 6, .op (.mv (.t 1)), none⟩]) (
    .block 0 (
     .rangef (.t 6) [7] (
      .reg [2, 5] [
        ⟨some 5, .op (.alloc [.str ⟨#[]⟩, .int .u64 0, .int .u64 0, .int .u64 0, .int .u64 0]), none⟩,
        ⟨none, .op (.st 5 (.t 5) (.t 7)), none⟩]) (
      .block 1 (
       .reg [2] [
         ⟨some 8, .op (.ld1 (.t 2)), none⟩,
         ⟨some 9, .op (.ldn 5 (.t 5)), none⟩,
         ⟨some 10, .op (.buildSl 5 [.str ⟨#[]⟩, .int .u64 0, .int .u64 0, .int .u64 0, .int .u64 0] 1 [(0, (.t 9))]), none⟩,
         ⟨some 11, .op (.append 5 48 (.t 8) (.t 10)), none⟩,
         ⟨none, .op (.st 1 (.t 2) (.t 11)), none⟩]))))) (
   .seq (
    .reg [4] [
      ⟨some 12, .op (.ld1 (.t 2)), none⟩,
      ⟨some 4, .op (.mv (.t 12)), none⟩]) (
    .ret)))
theorem cf39 : compF Try.prog Try.f39 h39 = some (ac39, rs39) := by kernel_rfl

/-! (*mailcoach/pack.Writer).number params 3 -/
def h42 : Hints := ⟨[(7, []), (6, [0, 2, 6, 21]), (5, [0, 1, 2, 6, 8]), (4, [0, 1, 2, 6, 8]), (3, [0, 1, 2, 6, 7, 8]), (2, [0, 1, 2, 6, 8, 9]), (1, [0, 1, 2, 6, 8]), (0, [0, 1, 2, 6])], [(2, [0, 1, 2, 6, 8])], [(7, [(0, []), (1, []), (2, []), (3, []), (4, []), (5, []), (6, []), (7, []), (8, []), (9, []), (10, []), (11, [])])]⟩
def rs42 : List ARes := []
def ac42 : ACode :=
 .seq (
  .reg [0, 1, 2, 6] [
    ⟨some 6, .op (.allocA 1 [.int .u8 0, .int .u8 0, .int .u8 0, .int .u8 0, .int .u8 0, .int .u8 0, .int .u8 0, .int .u8 0]), none⟩]) (
  .seq (
   .seq (
    .reg [0, 1, 2, 6, 8] [
      ⟨some 8, .op (.mv (.c (.int .i64 0))), none⟩]) (
    .block 0 (
     .loop [0, 1, 2, 6, 8] (
      .seq (
       .reg [0, 1, 2, 6, 8, 9] [
         ⟨some 9, .op (.bin .lss (.t 8) (.c (.int .i64 8))), none⟩]) (
       .seq (
        .cond (.t 9) (
         .skip) (
         .exit 0)) (
        .seq (
         .block 1 (
          .seq (
           .reg [0, 1, 2, 6, 7, 8] [
             ⟨some 10, .op (.mv (.t 8)), none⟩,
             ⟨some 7, .op (.mv (.t 10)), none⟩]) (
           .reg [0, 1, 2, 6, 8] [
             ⟨some 11, .op (.mv (.t 7)), none⟩,
             ⟨some 12, .op (.bin .sub (.c (.int .i64 7)) (.t 11)), none⟩,
             ⟨some 13, .op (.mv (.t 1)), none⟩,
             ⟨some 14, .op (.mv (.t 7)), none⟩,
             ⟨some 15, .op (.bin .mul (.c (.int .i64 8)) (.t 14)), none⟩,
             ⟨some 16, .op (.bin .shr (.t 13) (.t 15)), none⟩,
             ⟨some 17, .op (.toInt .u8 (.t 16)), none⟩,
             ⟨some 18, .op (.idxArr 8 1 (.t 6) (.t 12)), none⟩,
             ⟨none, .op (.st 1 (.t 18) (.t 17)), none⟩]))) (
         .reg [0, 1, 2, 6, 8] [
           ⟨some 19, .op (.bin .add (.t 8) (.c (.int .i64 1))), none⟩,
           ⟨some 8, .op (.mv (.t 19)), none⟩]))))))) (
   .seq (
    .reg [0, 2, 6, 21] [
      ⟨some 20, .op (.mv (.t 0)), none⟩,
      ⟨some 21, .op (.eqn 0 true (.t 20) (.c (.nilp))), none⟩]) (
    .cond (.t 21) (
     .dreg [] [
       (⟨some 22, .op (.mv (.t 0)), none⟩, []),
       (⟨some 23, .op (.mv (.t 0)), none⟩, []),
       (⟨some 24, .op (.nilCheck (.t 23)), none⟩, []),
       (⟨some 25, .op (.fieldAddr 0 (.t 24)), none⟩, []),
       (⟨some 26, .op (.ld1 (.t 25)), none⟩, []),
       (⟨some 27, .op (.mv (.t 2)), none⟩, []),
       (⟨some 28, .op (.bin .sub (.c (.int .i64 8)) (.t 27)), none⟩, []),
       (⟨some 29, .op (.sliceArr 8 1 (.t 6) (some (.t 28)) none none), none⟩, []),
       (⟨some 30, .op (.append 1 1 (.t 26) (.t 29)), none⟩, []),
       (⟨some 31, .op (.nilCheck (.t 22)), none⟩, []),
       (⟨some 32, .op (.fieldAddr 0 (.t 31)), none⟩, []),
       (⟨none, .op (.st 1 (.t 32) (.t 30)), none⟩, [])]) (
     .skip))))
theorem cf42 : compF Try.prog Try.f42 h42 = some (ac42, rs42) := by kernel_rfl

/-! (*mailcoach/pack.Writer).Bytes params 2 -/
def h43 : Hints := ⟨[(2, []), (1, [0, 1, 10]), (0, [0, 1])], [], []⟩
def rs43 : List ARes := []
def ac43 : ACode :=
 .seq (
  .reg [0, 1] [
    ⟨some 4, .op (.mv (.t 0)), none⟩,
    ⟨some 5, .op (.mv (.t 1)), none⟩,
    ⟨some 6, .op (.len 1 (.t 5)), none⟩,
    ⟨some 7, .op (.toInt .u64 (.t 6)), none⟩,
    ⟨some 8, .call (.c (.fn 42 [] [])) [(.t 4), (.t 7), (.c (.int .i64 4))], none⟩]) (
  .seq (
   .reg [0, 1, 10] [
     ⟨some 9, .op (.mv (.t 0)), none⟩,
     ⟨some 10, .op (.eqn 0 true (.t 9) (.c (.nilp))), none⟩]) (
   .cond (.t 10) (
    .reg [] [
      ⟨some 11, .op (.mv (.t 0)), none⟩,
      ⟨some 12, .op (.mv (.t 0)), none⟩,
      ⟨some 13, .op (.nilCheck (.t 12)), none⟩,
      ⟨some 14, .op (.fieldAddr 0 (.t 13)), none⟩,
      ⟨some 15, .op (.ld1 (.t 14)), none⟩,
      ⟨some 16, .op (.mv (.t 1)), none⟩,
      ⟨some 17, .op (.append 1 1 (.t 15) (.t 16)), none⟩,
      ⟨some 18, .op (.nilCheck (.t 11)), none⟩,
      ⟨some 19, .op (.fieldAddr 0 (.t 18)), none⟩,
      ⟨none, .op (.st 1 (.t 19) (.t 17)), none⟩]) (
    .skip)))
theorem cf43 : compF Try.prog Try.f43 h43 = some (ac43, rs43) := by kernel_rfl


end Go.Proofs.Ytieieknhhfallaa.AM
