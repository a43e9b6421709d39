/- The code of chapter 115, told as the abstract machine's. -/
import Derived.Test.YtieieknhhfallaaDoorAm3
import Derived.Test.YtieieknhhfallaaDoorProg
import Derived.KernelRfl
namespace Go.Proofs.YtieieknhhfallaaDoor.AM
set_option maxRecDepth 100000
set_option maxHeartbeats 4000000
theorem hmx : Tryd.prog.follows .mixedOrders = true := by kernel_rfl

/-! mailcoach/mailcoachlaw15.DedupTakes params 4 -/
def h3 : Hints := ⟨[(29, [8]), (28, [80, 81, 82]), (27, [8]), (26, [80, 81, 82, 108]), (25, [15, 16, 18, 19, 80, 81, 82]), (24, [15, 16, 18, 19, 80, 81, 82, 99]), (23, [15, 16, 18, 19, 80, 81, 82]), (22, [15, 16, 17, 18, 80, 81, 82]), (21, [15, 16, 17, 80, 81, 82]), (20, [14, 15, 16, 80, 81, 82]), (19, [14, 80, 81, 82]), (18, [80, 81, 82, 83]), (17, [80, 81, 82]), (16, [0, 12]), (15, [0, 2, 3, 12, 62]), (14, [0, 2, 3, 12]), (13, [0, 2, 3, 9, 26, 27, 28]), (12, [0, 2, 3, 9, 26, 27, 28]), (11, [0, 2, 3, 9, 11, 26, 27, 28]), (10, [0, 2, 3, 9, 11, 26, 27, 28]), (9, [0, 2, 3, 9, 11, 26, 27, 28, 40]), (8, [0, 2, 3, 9, 10, 11, 26, 27, 28]), (7, [0, 2, 3, 9, 26, 27, 28, 29]), (6, [0, 2, 3, 9, 26, 27, 28]), (5, [0, 1, 2, 3, 9]), (4, [8]), (3, [0, 1, 2, 3, 24]), (2, [8]), (1, [0, 1, 2, 3, 21]), (0, [0, 1, 2, 3])], [(18, [80, 81, 82]), (7, [0, 2, 3, 9, 26, 27, 28])], []⟩
def rs3 : List ARes := [.t 8]
def ac3 : ACode :=
 .seq (
  .reg [0, 1, 2, 3] [
    ⟨some 8, .op (.mv (.c (.bool false))), none⟩]) (
  .seq (
   .seq (
    .reg [0, 1, 2, 3, 21] [
      ⟨some 20, .call (.c (.fn 6 [] [])) [], none⟩,
      ⟨some 21, .op (.un .not (.t 20)), none⟩]) (
    .cond (.t 21) (
     .seq (
      .reg [8] [
        ⟨some 8, .op (.mv (.c (.bool false))), none⟩]) (
      .ret)) (
     .skip))) (
   .seq (
    .seq (
     .reg [0, 1, 2, 3, 24] [
       ⟨some 22, .op (.mv (.t 0)), none⟩,
       ⟨some 23, .op (.len 1 (.t 22)), none⟩,
       ⟨some 24, .op (.bin .gtr (.t 23) (.c (.int .i64 3000))), none⟩]) (
     .cond (.t 24) (
      .seq (
       .reg [8] [
         ⟨some 8, .op (.mv (.c (.bool true))), none⟩]) (
       .ret)) (
      .skip))) (
    .seq (
     .reg [0, 1, 2, 3, 9] [
       ⟨some 25, .call (.c (.fn 7 [] [])) [], none⟩,
       ⟨some 9, .op (.mv (.t 25)), none⟩]) (
     .seq (
      .seq (
       .reg [0, 2, 3, 9, 26, 27, 28] [
         ⟨some 26, .op (.mv (.t 1)), none⟩,
         ⟨some 27, .op (.len 1 (.t 26)), none⟩,
         ⟨some 28, .op (.mv (.c (.int .i64 0))), none⟩]) (
       .block 0 (
        .loop [0, 2, 3, 9, 26, 27, 28] (
         .seq (
          .reg [0, 2, 3, 9, 26, 27, 28, 29] [
            ⟨some 29, .op (.bin .lss (.t 28) (.t 27)), none⟩]) (
          .seq (
           .cond (.t 29) (
            .skip) (
            .exit 0)) (
           .seq (
            .block 1 (
             .seq (
              .reg [0, 2, 3, 9, 10, 11, 26, 27, 28] [
                ⟨some 30, .op (.mv (.t 28)), none⟩,
                ⟨some 31, .op (.idxAddr 6 (.t 26) (.t 28)), none⟩,
                ⟨some 32, .op (.ldn 6 (.t 31)), none⟩,
                ⟨some 11, .op (.alloc [.int .u8 0, .str ⟨#[]⟩, .int .u64 0, .int .u64 0, .int .u64 0, .bool false]), none⟩,
                ⟨some 10, .op (.mv (.t 30)), none⟩,
                ⟨none, .op (.st 6 (.t 11) (.t 32)), none⟩]) (
              .seq (
               .reg [0, 2, 3, 9, 11, 26, 27, 28, 40] [
                 ⟨some 33, .op (.mv (.t 10)), none⟩,
                 ⟨some 34, .op (.bin .lss (.t 33) (.c (.int .i64 60))), none⟩,
                 ⟨some 35, .op (.mv (.t 34)), none⟩,
                 ⟨some 36, .op (.fieldAddr 1 (.t 11)), some (35, true)⟩,
                 ⟨some 37, .op (.ld1 (.t 36)), some (35, true)⟩,
                 ⟨some 38, .op (.len 9 (.t 37)), some (35, true)⟩,
                 ⟨some 39, .op (.bin .leq (.t 38) (.c (.int .i64 64))), some (35, true)⟩,
                 ⟨some 40, .pick (.t 35) (.t 39) (.c (.bool false)), none⟩]) (
               .cond (.t 40) (
                .seq (
                 .reg [0, 2, 3, 9, 11, 26, 27, 28] [
                   ⟨some 41, .op (.ldn 6 (.t 11)), none⟩,
                   ⟨some 42, .call (.c (.fn 8 [] [])) [(.t 41)], none⟩,
                   ⟨none, .op (.st 6 (.t 11) (.t 42)), none⟩]) (
                 .seq (
                  .reg [0, 2, 3, 9, 11, 26, 27, 28] [
                    ⟨some 43, .op (.mv (.t 9)), none⟩,
                    ⟨some 44, .op (.fieldAddr 1 (.t 11)), none⟩,
                    ⟨some 45, .op (.ld1 (.t 44)), none⟩,
                    ⟨some 46, .op (.fieldAddr 2 (.t 11)), none⟩,
                    ⟨some 47, .op (.ld1 (.t 46)), none⟩,
                    ⟨some 48, .call (.c (.fn 9 [] [])) [(.t 43), (.t 45), (.t 47)], none⟩]) (
                  .reg [0, 2, 3, 9, 26, 27, 28] [
                    ⟨some 49, .op (.mv (.t 9)), none⟩,
                    ⟨some 50, .op (.fieldAddr 1 (.t 11)), none⟩,
                    ⟨some 51, .op (.ld1 (.t 50)), none⟩,
                    ⟨some 52, .op (.fieldAddr 2 (.t 11)), none⟩,
                    ⟨some 53, .op (.ld1 (.t 52)), none⟩,
                    ⟨some 54, .op (.fieldAddr 3 (.t 11)), none⟩,
                    ⟨some 55, .op (.ldn 2 (.t 54)), none⟩,
                    ⟨some 56, .call (.c (.fn 10 [] [])) [(.t 49), (.t 51), (.t 53), (.t 55)], none⟩]))) (
                .skip))))) (
            .reg [0, 2, 3, 9, 26, 27, 28] [
              ⟨some 57, .op (.bin .add (.t 28) (.c (.int .i64 1))), none⟩,
              ⟨some 28, .op (.mv (.t 57)), none⟩]))))))) (
      .seq (
       .reg [0, 2, 3, 12] [
         ⟨some 58, .op (.mv (.t 9)), none⟩,
         ⟨some 59, .call (.c (.fn 11 [] [])) [(.t 58)], none⟩,
         ⟨some 12, .op (.mv (.t 59)), none⟩]) (
       .seq (
        .seq (
         .reg [0, 2, 3, 12, 62] [
           ⟨some 60, .op (.mv (.t 12)), none⟩,
           ⟨some 61, .op (.len 1 (.t 60)), none⟩,
           ⟨some 62, .op (.bin .gtr (.t 61) (.c (.int .i64 0))), none⟩]) (
         .cond (.t 62) (
          .reg [0, 12] [
            ⟨some 63, .op (.mv (.t 12)), none⟩,
            ⟨some 64, .op (.mv (.t 2)), none⟩,
            ⟨some 65, .op (.toInt .u64 (.t 64)), none⟩,
            ⟨some 66, .op (.mv (.t 12)), none⟩,
            ⟨some 67, .op (.len 1 (.t 66)), none⟩,
            ⟨some 68, .op (.toInt .u64 (.t 67)), none⟩,
            ⟨some 69, .op (.bin .rem (.t 65) (.t 68)), none⟩,
            ⟨some 70, .op (.toInt .i64 (.t 69)), none⟩,
            ⟨some 71, .op (.idxAddr 1 (.t 63) (.t 70)), none⟩,
            ⟨some 72, .op (.ld1 (.t 71)), none⟩,
            ⟨some 73, .op (.mv (.t 3)), none⟩,
            ⟨some 74, .op (.bin .rem (.t 73) (.c (.int .u8 9))), none⟩,
            ⟨some 75, .op (.bin .shl (.c (.int .u8 1)) (.t 74)), none⟩,
            ⟨some 76, .op (.bin .xor (.t 72) (.t 75)), none⟩,
            ⟨some 77, .op (.idxAddr 1 (.t 63) (.t 70)), none⟩,
            ⟨none, .op (.st 1 (.t 77) (.t 76)), none⟩]) (
          .skip))) (
        .seq (
         .seq (
          .reg [80, 81, 82] [
            ⟨some 78, .op (.mv (.t 0)), none⟩,
            ⟨some 79, .op (.mv (.t 12)), none⟩,
            ⟨some 80, .op (.buildSl 1 [.nilsl] 2 [(0, (.t 78)), (1, (.t 79))]), none⟩,
            ⟨some 81, .op (.len 1 (.t 80)), none⟩,
            ⟨some 82, .op (.mv (.c (.int .i64 0))), none⟩]) (
          .block 2 (
           .loop [80, 81, 82] (
            .seq (
             .reg [80, 81, 82, 83] [
               ⟨some 83, .op (.bin .lss (.t 82) (.t 81)), none⟩]) (
             .seq (
              .cond (.t 83) (
               .skip) (
               .exit 2)) (
              .seq (
               .block 3 (
                .seq (
                 .reg [14, 80, 81, 82] [
                   ⟨some 84, .op (.idxAddr 1 (.t 80) (.t 82)), none⟩,
                   ⟨some 85, .op (.ld1 (.t 84)), none⟩,
                   ⟨some 14, .op (.mv (.t 85)), none⟩]) (
                 .seq (
                  .reg [14, 15, 16, 80, 81, 82] [
                    ⟨some 87, .op (.mv (.t 14)), none⟩,
                    ⟨some 88, .call (.c (.fn 12 [] [])) [(.t 87)], none⟩,
                    ⟨some 86, .op (.mv (.t 88)), none⟩,
                    ⟨some 89, .op (.extract (.t 86) 0), none⟩,
                    ⟨some 90, .op (.extract (.t 86) 1), none⟩,
                    ⟨some 15, .op (.mv (.t 89)), none⟩,
                    ⟨some 16, .op (.mv (.t 90)), none⟩]) (
                  .seq (
                   .reg [15, 16, 17, 80, 81, 82] [
                     ⟨some 91, .op (.mv (.t 14)), none⟩,
                     ⟨some 92, .op (.build [.nilsl, .int .i64 0] [(0, 1, (.t 91))]), none⟩,
                     ⟨some 93, .op (.box (.t 92)), none⟩,
                     ⟨some 17, .op (.mv (.t 93)), none⟩]) (
                   .seq (
                    .reg [15, 16, 17, 18, 80, 81, 82] [
                      ⟨some 94, .op (.mv (.t 17)), none⟩,
                      ⟨some 95, .call (.c (.fn 13 [] [])) [(.t 94)], none⟩,
                      ⟨some 18, .op (.mv (.t 95)), none⟩]) (
                    .seq (
                     .reg [15, 16, 18, 19, 80, 81, 82] [
                       ⟨some 96, .op (.mv (.t 17)), none⟩,
                       ⟨some 97, .call (.c (.fn 14 [] [])) [(.t 96)], none⟩,
                       ⟨some 19, .op (.mv (.t 97)), none⟩]) (
                     .seq (
                      .seq (
                       .reg [15, 16, 18, 19, 80, 81, 82, 99] [
                         ⟨some 98, .op (.mv (.t 19)), none⟩,
                         ⟨some 99, .op (.bin .neq (.t 98) (.c (.int .i64 0))), none⟩]) (
                       .cond (.t 99) (
                        .reg [15, 16, 18, 19, 80, 81, 82] [
                          ⟨some 18, .op (.mv (.c (.nilsl))), none⟩]) (
                        .skip))) (
                      .seq (
                       .reg [80, 81, 82, 108] [
                         ⟨some 100, .op (.mv (.t 16)), none⟩,
                         ⟨some 101, .op (.mv (.t 19)), none⟩,
                         ⟨some 102, .op (.bin .neq (.t 100) (.t 101)), none⟩,
                         ⟨some 103, .op (.mv (.t 102)), none⟩,
                         ⟨some 104, .op (.mv (.t 15)), some (103, false)⟩,
                         ⟨some 105, .op (.mv (.t 18)), some (103, false)⟩,
                         ⟨some 106, .call (.c (.fn 15 [] [])) [(.t 104), (.t 105)], some (103, false)⟩,
                         ⟨some 107, .op (.un .not (.t 106)), some (103, false)⟩,
                         ⟨some 108, .pick (.t 103) (.c (.bool true)) (.t 107), none⟩]) (
                       .cond (.t 108) (
                        .seq (
                         .reg [8] [
                           ⟨some 8, .op (.mv (.c (.bool false))), none⟩]) (
                         .ret)) (
                        .skip)))))))))) (
               .reg [80, 81, 82] [
                 ⟨some 109, .op (.bin .add (.t 82) (.c (.int .i64 1))), none⟩,
                 ⟨some 82, .op (.mv (.t 109)), none⟩]))))))) (
         .seq (
          .reg [8] [
            ⟨some 8, .op (.mv (.c (.bool true))), none⟩]) (
          .ret)))))))))
theorem cf3 : compF Tryd.prog Tryd.f3 h3 = some (ac3, rs3) := by kernel_rfl

/-! mailcoach/mailcoachlaw15.DedupBack params 1 -/
def h5 : Hints := ⟨[(16, [2]), (15, [3, 6, 7]), (14, [3, 6, 7]), (13, [3, 11, 12, 13]), (12, [3, 11, 12, 13]), (11, [3, 5, 11, 12, 13, 47]), (10, [3, 5, 11, 12, 13]), (9, [3, 5, 11, 12, 13]), (8, [3, 5, 11, 12, 13]), (7, [3, 5, 11, 12, 13, 25]), (6, [3, 4, 5, 11, 12, 13]), (5, [3, 11, 12, 13, 14]), (4, [3, 11, 12, 13]), (3, [0, 3]), (2, [2]), (1, [0, 9]), (0, [0])], [(5, [3, 11, 12, 13])], []⟩
def rs5 : List ARes := [.t 2]
def ac5 : ACode :=
 .seq (
  .reg [0] [
    ⟨some 2, .op (.mv (.c (.bool false))), none⟩]) (
  .seq (
   .seq (
    .reg [0, 9] [
      ⟨some 8, .call (.c (.fn 6 [] [])) [], none⟩,
      ⟨some 9, .op (.un .not (.t 8)), none⟩]) (
    .cond (.t 9) (
     .seq (
      .reg [2] [
        ⟨some 2, .op (.mv (.c (.bool false))), none⟩]) (
      .ret)) (
     .skip))) (
   .seq (
    .reg [0, 3] [
      ⟨some 10, .call (.c (.fn 7 [] [])) [], none⟩,
      ⟨some 3, .op (.mv (.t 10)), none⟩]) (
    .seq (
     .seq (
      .reg [3, 11, 12, 13] [
        ⟨some 11, .op (.mv (.t 0)), none⟩,
        ⟨some 12, .op (.len 1 (.t 11)), none⟩,
        ⟨some 13, .op (.mv (.c (.int .i64 0))), none⟩]) (
      .block 0 (
       .loop [3, 11, 12, 13] (
        .seq (
         .reg [3, 11, 12, 13, 14] [
           ⟨some 14, .op (.bin .lss (.t 13) (.t 12)), none⟩]) (
         .seq (
          .cond (.t 14) (
           .skip) (
           .exit 0)) (
          .seq (
           .block 1 (
            .seq (
             .reg [3, 4, 5, 11, 12, 13] [
               ⟨some 15, .op (.mv (.t 13)), none⟩,
               ⟨some 16, .op (.idxAddr 6 (.t 11) (.t 13)), none⟩,
               ⟨some 17, .op (.ldn 6 (.t 16)), none⟩,
               ⟨some 5, .op (.alloc [.int .u8 0, .str ⟨#[]⟩, .int .u64 0, .int .u64 0, .int .u64 0, .bool false]), none⟩,
               ⟨some 4, .op (.mv (.t 15)), none⟩,
               ⟨none, .op (.st 6 (.t 5) (.t 17)), none⟩]) (
             .seq (
              .reg [3, 5, 11, 12, 13, 25] [
                ⟨some 18, .op (.mv (.t 4)), none⟩,
                ⟨some 19, .op (.bin .lss (.t 18) (.c (.int .i64 100))), none⟩,
                ⟨some 20, .op (.mv (.t 19)), none⟩,
                ⟨some 21, .op (.fieldAddr 1 (.t 5)), some (20, true)⟩,
                ⟨some 22, .op (.ld1 (.t 21)), some (20, true)⟩,
                ⟨some 23, .op (.len 9 (.t 22)), some (20, true)⟩,
                ⟨some 24, .op (.bin .leq (.t 23) (.c (.int .i64 64))), some (20, true)⟩,
                ⟨some 25, .pick (.t 20) (.t 24) (.c (.bool false)), none⟩]) (
              .cond (.t 25) (
               .seq (
                .reg [3, 5, 11, 12, 13] [
                  ⟨some 26, .op (.ldn 6 (.t 5)), none⟩,
                  ⟨some 27, .call (.c (.fn 8 [] [])) [(.t 26)], none⟩,
                  ⟨none, .op (.st 6 (.t 5) (.t 27)), none⟩]) (
                .seq (
                 .reg [3, 5, 11, 12, 13] [
                   ⟨some 28, .op (.fieldAddr 1 (.t 5)), none⟩,
                   ⟨some 29, .op (.ld1 (.t 28)), none⟩,
                   ⟨some 30, .op (.len 9 (.t 29)), none⟩,
                   ⟨some 31, .op (.bin .rem (.t 30) (.c (.int .i64 20))), none⟩,
                   ⟨some 32, .op (.bin .add (.c (.int .i64 97)) (.t 31)), none⟩,
                   ⟨some 33, .op (.toInt .u8 (.t 32)), none⟩,
                   ⟨some 34, .op (.buildSl 1 [.int .u8 0] 1 [(0, (.t 33))]), none⟩,
                   ⟨some 35, .op (.bytesStr (.t 34)), none⟩,
                   ⟨some 36, .op (.bin .add (.c (.str ⟨#[110]⟩)) (.t 35)), none⟩,
                   ⟨some 37, .op (.fieldAddr 1 (.t 5)), none⟩,
                   ⟨none, .op (.st 1 (.t 37) (.t 36)), none⟩]) (
                 .seq (
                  .reg [3, 5, 11, 12, 13] [
                    ⟨some 38, .op (.mv (.t 3)), none⟩,
                    ⟨some 39, .op (.fieldAddr 1 (.t 5)), none⟩,
                    ⟨some 40, .op (.ld1 (.t 39)), none⟩,
                    ⟨some 41, .op (.fieldAddr 2 (.t 5)), none⟩,
                    ⟨some 42, .op (.ld1 (.t 41)), none⟩,
                    ⟨some 43, .call (.c (.fn 9 [] [])) [(.t 38), (.t 40), (.t 42)], none⟩]) (
                  .seq (
                   .reg [3, 5, 11, 12, 13, 47] [
                     ⟨some 44, .op (.fieldAddr 0 (.t 5)), none⟩,
                     ⟨some 45, .op (.ld1 (.t 44)), none⟩,
                     ⟨some 46, .op (.bin .rem (.t 45) (.c (.int .u8 2))), none⟩,
                     ⟨some 47, .op (.bin .eql (.t 46) (.c (.int .u8 0))), none⟩]) (
                   .cond (.t 47) (
                    .reg [3, 11, 12, 13] [
                      ⟨some 48, .op (.mv (.t 3)), none⟩,
                      ⟨some 49, .op (.fieldAddr 1 (.t 5)), none⟩,
                      ⟨some 50, .op (.ld1 (.t 49)), none⟩,
                      ⟨some 51, .op (.fieldAddr 2 (.t 5)), none⟩,
                      ⟨some 52, .op (.ld1 (.t 51)), none⟩,
                      ⟨some 53, .op (.fieldAddr 3 (.t 5)), none⟩,
                      ⟨some 54, .op (.ldn 2 (.t 53)), none⟩,
                      ⟨some 55, .call (.c (.fn 10 [] [])) [(.t 48), (.t 50), (.t 52), (.t 54)], none⟩]) (
                    .skip)))))) (
               .skip))))) (
           .reg [3, 11, 12, 13] [
             ⟨some 56, .op (.bin .add (.t 13) (.c (.int .i64 1))), none⟩,
             ⟨some 13, .op (.mv (.t 56)), none⟩]))))))) (
     .seq (
      .reg [3, 6, 7] [
        ⟨some 58, .op (.mv (.t 3)), none⟩,
        ⟨some 59, .call (.c (.fn 11 [] [])) [(.t 58)], none⟩,
        ⟨some 60, .call (.c (.fn 12 [] [])) [(.t 59)], none⟩,
        ⟨some 57, .op (.mv (.t 60)), none⟩,
        ⟨some 61, .op (.extract (.t 57) 0), none⟩,
        ⟨some 62, .op (.extract (.t 57) 1), none⟩,
        ⟨some 6, .op (.mv (.t 61)), none⟩,
        ⟨some 7, .op (.mv (.t 62)), none⟩]) (
      .seq (
       .reg [3, 6, 7] [
         ⟨some 63, .op (.mv (.t 3)), none⟩,
         ⟨some 64, .call (.c (.fn 16 [] [])) [(.t 63)], none⟩]) (
       .seq (
        .reg [2] [
          ⟨some 65, .op (.mv (.t 7)), none⟩,
          ⟨some 66, .op (.bin .eql (.t 65) (.c (.int .i64 0))), none⟩,
          ⟨some 67, .op (.mv (.t 66)), none⟩,
          ⟨some 68, .op (.mv (.t 6)), some (67, true)⟩,
          ⟨some 69, .op (.mv (.t 3)), some (67, true)⟩,
          ⟨some 70, .call (.c (.fn 21 [] [])) [(.t 69)], some (67, true)⟩,
          ⟨some 71, .call (.c (.fn 15 [] [])) [(.t 68), (.t 70)], some (67, true)⟩,
          ⟨some 72, .pick (.t 67) (.t 71) (.c (.bool false)), none⟩,
          ⟨some 2, .op (.mv (.t 72)), none⟩]) (
        .ret)))))))
theorem cf5 : compF Tryd.prog Tryd.f5 h5 = some (ac5, rs5) := by kernel_rfl

/-! mailcoach/mailcoachlaw15.Awake params 0 -/
def h6 : Hints := ⟨[(7, [0]), (6, [2, 3, 4, 5, 6, 7, 8]), (5, [1, 2, 3, 4, 5, 6]), (4, [1, 2, 3, 4, 5, 6]), (3, [1, 2, 3, 4]), (2, [1, 2, 3]), (1, [1]), (0, [])], [], []⟩
def rs6 : List ARes := [.t 0]
def ac6 : ACode :=
 .seq (
  .reg [] [
    ⟨some 0, .op (.mv (.c (.bool false))), none⟩]) (
  .seq (
   .reg [1] [
     ⟨some 9, .call (.c (.fn 7 [] [])) [], none⟩,
     ⟨some 1, .op (.mv (.t 9)), none⟩]) (
   .seq (
    .reg [1, 2, 3] [
      ⟨some 10, .op (.mv (.t 1)), none⟩,
      ⟨some 11, .call (.c (.fn 9 [] [])) [(.t 10), (.c (.str ⟨#[97]⟩)), (.c (.int .u64 3))], none⟩,
      ⟨some 12, .op (.mv (.t 1)), none⟩,
      ⟨some 13, .call (.c (.fn 9 [] [])) [(.t 12), (.c (.str ⟨#[97]⟩)), (.c (.int .u64 3))], none⟩,
      ⟨some 2, .op (.mv (.t 11)), none⟩,
      ⟨some 3, .op (.mv (.t 13)), none⟩]) (
    .seq (
     .reg [1, 2, 3, 4] [
       ⟨some 14, .op (.mv (.t 1)), none⟩,
       ⟨some 15, .op (.build [.int .u64 0, .int .u64 0] [(0, 1, (.c (.int .u64 1)))]), none⟩,
       ⟨some 16, .call (.c (.fn 10 [] [])) [(.t 14), (.c (.str ⟨#[97]⟩)), (.c (.int .u64 3)), (.t 15)], none⟩,
       ⟨some 4, .op (.mv (.t 16)), none⟩]) (
     .seq (
      .reg [1, 2, 3, 4, 5, 6] [
        ⟨some 17, .op (.mv (.t 1)), none⟩,
        ⟨some 18, .call (.c (.fn 9 [] [])) [(.t 17), (.c (.str ⟨#[97]⟩)), (.c (.int .u64 2))], none⟩,
        ⟨some 19, .op (.mv (.t 1)), none⟩,
        ⟨some 20, .call (.c (.fn 9 [] [])) [(.t 19), (.c (.str ⟨#[97]⟩)), (.c (.int .u64 5))], none⟩,
        ⟨some 5, .op (.mv (.t 18)), none⟩,
        ⟨some 6, .op (.mv (.t 20)), none⟩]) (
      .seq (
       .reg [1, 2, 3, 4, 5, 6] [
         ⟨some 21, .op (.mv (.t 1)), none⟩,
         ⟨some 22, .call (.c (.fn 16 [] [])) [(.t 21)], none⟩]) (
       .seq (
        .reg [2, 3, 4, 5, 6, 7, 8] [
          ⟨some 24, .op (.mv (.t 1)), none⟩,
          ⟨some 25, .call (.c (.fn 20 [] [])) [(.t 24), (.c (.str ⟨#[97]⟩))], none⟩,
          ⟨some 23, .op (.mv (.t 25)), none⟩,
          ⟨some 26, .op (.extract (.t 23) 0), none⟩,
          ⟨some 27, .op (.extract (.t 23) 1), none⟩,
          ⟨some 7, .op (.alloc [.str ⟨#[]⟩, .int .u64 0, .int .u64 0, .int .u64 0, .int .u64 0]), none⟩,
          ⟨none, .op (.st 5 (.t 7) (.t 26)), none⟩,
          ⟨some 8, .op (.mv (.t 27)), none⟩]) (
        .seq (
         .reg [0] [
           ⟨some 28, .op (.mv (.t 2)), none⟩,
           ⟨some 29, .op (.bin .eql (.t 28) (.c (.int .i64 0))), none⟩,
           ⟨some 30, .op (.mv (.t 29)), none⟩,
           ⟨some 31, .op (.mv (.t 3)), some (30, true)⟩,
           ⟨some 32, .op (.bin .eql (.t 31) (.c (.int .i64 41))), some (30, true)⟩,
           ⟨some 33, .pick (.t 30) (.t 32) (.c (.bool false)), none⟩,
           ⟨some 34, .op (.mv (.t 33)), none⟩,
           ⟨some 35, .op (.mv (.t 4)), some (34, true)⟩,
           ⟨some 36, .op (.bin .eql (.t 35) (.c (.int .i64 0))), some (34, true)⟩,
           ⟨some 37, .pick (.t 34) (.t 36) (.c (.bool false)), none⟩,
           ⟨some 38, .op (.mv (.t 37)), none⟩,
           ⟨some 39, .op (.mv (.t 5)), some (38, true)⟩,
           ⟨some 40, .op (.bin .eql (.t 39) (.c (.int .i64 40))), some (38, true)⟩,
           ⟨some 41, .pick (.t 38) (.t 40) (.c (.bool false)), none⟩,
           ⟨some 42, .op (.mv (.t 41)), none⟩,
           ⟨some 43, .op (.mv (.t 6)), some (42, true)⟩,
           ⟨some 44, .op (.bin .eql (.t 43) (.c (.int .i64 0))), some (42, true)⟩,
           ⟨some 45, .pick (.t 42) (.t 44) (.c (.bool false)), none⟩,
           ⟨some 46, .op (.mv (.t 45)), none⟩,
           ⟨some 47, .op (.mv (.t 8)), some (46, true)⟩,
           ⟨some 48, .pick (.t 46) (.t 47) (.c (.bool false)), none⟩,
           ⟨some 49, .op (.mv (.t 48)), none⟩,
           ⟨some 50, .op (.fieldAddr 1 (.t 7)), some (49, true)⟩,
           ⟨some 51, .op (.ld1 (.t 50)), some (49, true)⟩,
           ⟨some 52, .op (.bin .eql (.t 51) (.c (.int .u64 3))), some (49, true)⟩,
           ⟨some 53, .pick (.t 49) (.t 52) (.c (.bool false)), none⟩,
           ⟨some 0, .op (.mv (.t 53)), none⟩]) (
         .ret))))))))
theorem cf6 : compF Tryd.prog Tryd.f6 h6 = some (ac6, rs6) := by kernel_rfl

/-! mailcoach/dedup.New params 0 -/
def h7 : Hints := ⟨[(1, [0]), (0, [])], [], []⟩
def rs7 : List ARes := [.t 0]
def ac7 : ACode :=
 .seq (
  .reg [] [
    ⟨some 0, .op (.mv (.c (.nilp))), none⟩]) (
  .seq (
   .reg [0] [
     ⟨some 1, .op (.mkmap), none⟩,
     ⟨some 2, .op (.build [.nilmap] [(0, 1, (.t 1))]), none⟩,
     ⟨some 3, .op (.box (.t 2)), none⟩,
     ⟨some 0, .op (.mv (.t 3)), none⟩]) (
   .ret))
theorem cf7 : compF Tryd.prog Tryd.f7 h7 = some (ac7, rs7) := by kernel_rfl

/-! mailcoach/mailcoachlaw15.few params 1 -/
def h8 : Hints := ⟨[(4, [2]), (3, [1, 2]), (2, [1, 2]), (1, [1, 2, 5]), (0, [1, 2])], [], []⟩
def rs8 : List ARes := [.cn 2 6]
def ac8 : ACode :=
 .seq (
  .reg [1, 2] [
    ⟨some 1, .op (.box (.t 0)), none⟩,
    ⟨some 2, .op (.alloc [.int .u8 0, .str ⟨#[]⟩, .int .u64 0, .int .u64 0, .int .u64 0, .bool false]), none⟩]) (
  .seq (
   .seq (
    .reg [1, 2, 5] [
      ⟨some 3, .op (.fieldAddr 5 (.t 1)), none⟩,
      ⟨some 4, .op (.ld1 (.t 3)), none⟩,
      ⟨some 5, .op (.un .not (.t 4)), none⟩]) (
    .cond (.t 5) (
     .seq (
      .reg [1, 2] [
        ⟨some 6, .op (.fieldAddr 2 (.t 1)), none⟩,
        ⟨some 7, .op (.ld1 (.t 6)), none⟩,
        ⟨some 8, .op (.bin .rem (.t 7) (.c (.int .u64 9))), none⟩,
        ⟨some 9, .op (.fieldAddr 2 (.t 1)), none⟩,
        ⟨none, .op (.st 1 (.t 9) (.t 8)), none⟩]) (
      .reg [1, 2] [
        ⟨some 10, .op (.fieldAddr 1 (.t 1)), none⟩,
        ⟨some 11, .op (.ld1 (.t 10)), none⟩,
        ⟨some 12, .op (.len 9 (.t 11)), none⟩,
        ⟨some 13, .op (.bin .rem (.t 12) (.c (.int .i64 3))), none⟩,
        ⟨some 14, .op (.bin .add (.c (.int .i64 97)) (.t 13)), none⟩,
        ⟨some 15, .op (.toInt .u8 (.t 14)), none⟩,
        ⟨some 16, .op (.buildSl 1 [.int .u8 0] 1 [(0, (.t 15))]), none⟩,
        ⟨some 17, .op (.bytesStr (.t 16)), none⟩,
        ⟨some 18, .op (.bin .add (.c (.str ⟨#[112]⟩)) (.t 17)), none⟩,
        ⟨some 19, .op (.fieldAddr 1 (.t 1)), none⟩,
        ⟨none, .op (.st 1 (.t 19) (.t 18)), none⟩])) (
     .skip))) (
   .seq (
    .reg [2] [
      ⟨some 20, .op (.ldn 6 (.t 1)), none⟩,
      ⟨none, .op (.st 6 (.t 2) (.t 20)), none⟩]) (
    .ret)))
theorem cf8 : compF Tryd.prog Tryd.f8 h8 = some (ac8, rs8) := by kernel_rfl

/-! (*mailcoach/dedup.Table).Begin params 3 -/
def h9 : Hints := ⟨[(16, [6]), (15, []), (14, [0, 1, 7]), (5, [6]), (7, [6]), (9, [6]), (11, [6]), (13, [6]), (12, [0, 1, 2, 7, 47]), (10, [0, 1, 2, 7, 8, 39]), (8, [0, 1, 2, 7, 8, 31]), (6, [0, 1, 2, 7, 8, 28]), (4, [0, 1, 2, 7, 8, 20]), (3, [0, 1, 2, 7, 8]), (2, [6]), (1, [0, 1, 2, 10]), (0, [0, 1, 2])], [], [(15, [(0, []), (1, []), (2, []), (3, []), (4, []), (5, []), (6, [])])]⟩
def rs9 : List ARes := [.t 6]
def ac9 : ACode :=
 .seq (
  .reg [0, 1, 2] [
    ⟨some 6, .op (.mv (.c (.int .i64 0))), none⟩]) (
  .seq (
   .seq (
    .reg [0, 1, 2, 10] [
      ⟨some 9, .op (.mv (.t 0)), none⟩,
      ⟨some 10, .op (.eqn 0 false (.t 9) (.c (.nilp))), none⟩]) (
    .cond (.t 10) (
     .seq (
      .reg [6] [
        ⟨some 6, .op (.mv (.c (.int .i64 1))), none⟩]) (
      .ret)) (
     .skip))) (
   .seq (
    .reg [0, 1, 2, 7, 8] [
      ⟨some 12, .op (.mv (.t 0)), none⟩,
      ⟨some 13, .op (.nilCheck (.t 12)), none⟩,
      ⟨some 14, .op (.fieldAddr 0 (.t 13)), none⟩,
      ⟨some 15, .op (.ld1 (.t 14)), none⟩,
      ⟨some 16, .op (.mv (.t 1)), none⟩,
      ⟨some 17, .op (.lookup (.agg [.str ⟨#[]⟩, .int .u64 0, .int .u64 0, .int .u64 0, .int .u64 0]) false [2] (.t 15) (.t 16) true), none⟩,
      ⟨some 11, .op (.mv (.t 17)), none⟩,
      ⟨some 18, .op (.extract (.t 11) 0), none⟩,
      ⟨some 19, .op (.extract (.t 11) 1), none⟩,
      ⟨some 7, .op (.alloc [.str ⟨#[]⟩, .int .u64 0, .int .u64 0, .int .u64 0, .int .u64 0]), none⟩,
      ⟨none, .op (.st 5 (.t 7) (.t 18)), none⟩,
      ⟨some 8, .op (.mv (.t 19)), none⟩]) (
    .seq (
     .block 0 (
      .seq (
       .reg [0, 1, 2, 7, 8, 20] [
         ⟨some 21, .op (.mv (.t 1)), none⟩,
         ⟨some 22, .op (.bin .eql (.t 21) (.c (.str ⟨#[]⟩))), none⟩,
         ⟨some 23, .op (.mv (.t 22)), none⟩,
         ⟨some 24, .op (.mv (.t 1)), some (23, false)⟩,
         ⟨some 25, .op (.len 9 (.t 24)), some (23, false)⟩,
         ⟨some 26, .op (.bin .gtr (.t 25) (.c (.int .i64 64))), some (23, false)⟩,
         ⟨some 27, .pick (.t 23) (.c (.bool true)) (.t 26), none⟩,
         ⟨some 20, .op (.mv (.t 27)), none⟩]) (
       .cond (.t 20) (
        .seq (
         .reg [6] [
           ⟨some 6, .op (.mv (.c (.int .i64 10))), none⟩]) (
         .ret)) (
        .seq (
         .reg [0, 1, 2, 7, 8, 28] [
           ⟨some 29, .op (.mv (.t 2)), none⟩,
           ⟨some 30, .op (.bin .eql (.t 29) (.c (.int .u64 0))), none⟩,
           ⟨some 28, .op (.mv (.t 30)), none⟩]) (
         .cond (.t 28) (
          .seq (
           .reg [6] [
             ⟨some 6, .op (.mv (.c (.int .i64 2))), none⟩]) (
           .ret)) (
          .seq (
           .reg [0, 1, 2, 7, 8, 31] [
             ⟨some 32, .op (.mv (.t 8)), none⟩,
             ⟨some 33, .op (.mv (.t 32)), none⟩,
             ⟨some 34, .op (.mv (.t 2)), some (33, true)⟩,
             ⟨some 35, .op (.fieldAddr 2 (.t 7)), some (33, true)⟩,
             ⟨some 36, .op (.ld1 (.t 35)), some (33, true)⟩,
             ⟨some 37, .op (.bin .leq (.t 34) (.t 36)), some (33, true)⟩,
             ⟨some 38, .pick (.t 33) (.t 37) (.c (.bool false)), none⟩,
             ⟨some 31, .op (.mv (.t 38)), none⟩]) (
           .cond (.t 31) (
            .seq (
             .reg [6] [
               ⟨some 6, .op (.mv (.c (.int .i64 40))), none⟩]) (
             .ret)) (
            .seq (
             .reg [0, 1, 2, 7, 8, 39] [
               ⟨some 40, .op (.mv (.t 8)), none⟩,
               ⟨some 41, .op (.mv (.t 40)), none⟩,
               ⟨some 42, .op (.mv (.t 2)), some (41, true)⟩,
               ⟨some 43, .op (.fieldAddr 1 (.t 7)), some (41, true)⟩,
               ⟨some 44, .op (.ld1 (.t 43)), some (41, true)⟩,
               ⟨some 45, .op (.bin .leq (.t 42) (.t 44)), some (41, true)⟩,
               ⟨some 46, .pick (.t 41) (.t 45) (.c (.bool false)), none⟩,
               ⟨some 39, .op (.mv (.t 46)), none⟩]) (
             .cond (.t 39) (
              .seq (
               .reg [6] [
                 ⟨some 6, .op (.mv (.c (.int .i64 41))), none⟩]) (
               .ret)) (
              .seq (
               .reg [0, 1, 2, 7, 47] [
                 ⟨some 48, .op (.mv (.t 8)), none⟩,
                 ⟨some 49, .op (.un .not (.t 48)), none⟩,
                 ⟨some 50, .op (.mv (.t 49)), none⟩,
                 ⟨some 51, .op (.mv (.t 0)), some (50, true)⟩,
                 ⟨some 52, .op (.nilCheck (.t 51)), some (50, true)⟩,
                 ⟨some 53, .op (.fieldAddr 0 (.t 52)), some (50, true)⟩,
                 ⟨some 54, .op (.ld1 (.t 53)), some (50, true)⟩,
                 ⟨some 55, .op (.len 2 (.t 54)), some (50, true)⟩,
                 ⟨some 56, .op (.bin .geq (.t 55) (.c (.int .i64 16))), some (50, true)⟩,
                 ⟨some 57, .pick (.t 50) (.t 56) (.c (.bool false)), none⟩,
                 ⟨some 47, .op (.mv (.t 57)), none⟩]) (
               .cond (.t 47) (
                .seq (
                 .reg [6] [
                   ⟨some 6, .op (.mv (.c (.int .i64 14))), none⟩]) (
                 .ret)) (
                .skip)))))))))))) (
     .seq (
      .reg [0, 1, 7] [
        ⟨some 58, .op (.mv (.t 1)), none⟩,
        ⟨some 59, .op (.mv (.t 2)), none⟩,
        ⟨some 60, .op (.fieldAddr 0 (.t 7)), none⟩,
        ⟨none, .op (.st 1 (.t 60) (.t 58)), none⟩,
        ⟨some 61, .op (.fieldAddr 1 (.t 7)), none⟩,
        ⟨none, .op (.st 1 (.t 61) (.t 59)), none⟩]) (
      .seq (
       .dreg [] [
         (⟨some 62, .op (.mv (.t 0)), none⟩, []),
         (⟨some 63, .op (.nilCheck (.t 62)), none⟩, []),
         (⟨some 64, .op (.fieldAddr 0 (.t 63)), none⟩, []),
         (⟨some 65, .op (.ld1 (.t 64)), none⟩, []),
         (⟨some 66, .op (.mv (.t 1)), none⟩, []),
         (⟨some 67, .op (.ldn 5 (.t 7)), none⟩, []),
         (⟨none, .op (.mapSet false [2] (.t 65) (.t 66) (.t 67)), none⟩, [])]) (
       .seq (
        .reg [6] [
          ⟨some 6, .op (.mv (.c (.int .i64 0))), none⟩]) (
        .ret)))))))
theorem cf9 : compF Tryd.prog Tryd.f9 h9 = some (ac9, rs9) := by kernel_rfl

/-! (*mailcoach/dedup.Table).Done params 4 -/
def h10 : Hints := ⟨[(10, [8]), (9, []), (8, [0, 1, 9]), (5, [8]), (7, [8]), (6, [0, 1, 2, 7, 9, 31]), (4, [0, 1, 2, 7, 9, 22]), (3, [0, 1, 2, 7, 9, 10]), (2, [8]), (1, [0, 1, 2, 7, 12]), (0, [0, 1, 2, 7])], [], [(8, [(0, []), (1, []), (2, []), (3, [1]), (4, []), (5, [])]), (9, [(0, []), (1, []), (2, []), (3, []), (4, []), (5, []), (6, [])])]⟩
def rs10 : List ARes := [.t 8]
def ac10 : ACode :=
 .seq (
  .reg [0, 1, 2, 7] [
    ⟨some 7, .op (.box (.t 3)), none⟩,
    ⟨some 8, .op (.mv (.c (.int .i64 0))), none⟩]) (
  .seq (
   .seq (
    .reg [0, 1, 2, 7, 12] [
      ⟨some 11, .op (.mv (.t 0)), none⟩,
      ⟨some 12, .op (.eqn 0 false (.t 11) (.c (.nilp))), none⟩]) (
    .cond (.t 12) (
     .seq (
      .reg [8] [
        ⟨some 8, .op (.mv (.c (.int .i64 1))), none⟩]) (
      .ret)) (
     .skip))) (
   .seq (
    .reg [0, 1, 2, 7, 9, 10] [
      ⟨some 14, .op (.mv (.t 0)), none⟩,
      ⟨some 15, .op (.nilCheck (.t 14)), none⟩,
      ⟨some 16, .op (.fieldAddr 0 (.t 15)), none⟩,
      ⟨some 17, .op (.ld1 (.t 16)), none⟩,
      ⟨some 18, .op (.mv (.t 1)), none⟩,
      ⟨some 19, .op (.lookup (.agg [.str ⟨#[]⟩, .int .u64 0, .int .u64 0, .int .u64 0, .int .u64 0]) false [2] (.t 17) (.t 18) true), none⟩,
      ⟨some 13, .op (.mv (.t 19)), none⟩,
      ⟨some 20, .op (.extract (.t 13) 0), none⟩,
      ⟨some 21, .op (.extract (.t 13) 1), none⟩,
      ⟨some 9, .op (.alloc [.str ⟨#[]⟩, .int .u64 0, .int .u64 0, .int .u64 0, .int .u64 0]), none⟩,
      ⟨none, .op (.st 5 (.t 9) (.t 20)), none⟩,
      ⟨some 10, .op (.mv (.t 21)), none⟩]) (
    .seq (
     .block 0 (
      .seq (
       .reg [0, 1, 2, 7, 9, 22] [
         ⟨some 23, .op (.mv (.t 10)), none⟩,
         ⟨some 24, .op (.un .not (.t 23)), none⟩,
         ⟨some 25, .op (.mv (.t 24)), none⟩,
         ⟨some 26, .op (.mv (.t 2)), some (25, false)⟩,
         ⟨some 27, .op (.fieldAddr 1 (.t 9)), some (25, false)⟩,
         ⟨some 28, .op (.ld1 (.t 27)), some (25, false)⟩,
         ⟨some 29, .op (.bin .gtr (.t 26) (.t 28)), some (25, false)⟩,
         ⟨some 30, .pick (.t 25) (.c (.bool true)) (.t 29), none⟩,
         ⟨some 22, .op (.mv (.t 30)), none⟩]) (
       .cond (.t 22) (
        .seq (
         .reg [8] [
           ⟨some 8, .op (.mv (.c (.int .i64 11))), none⟩]) (
         .ret)) (
        .seq (
         .reg [0, 1, 2, 7, 9, 31] [
           ⟨some 32, .op (.mv (.t 2)), none⟩,
           ⟨some 33, .op (.fieldAddr 2 (.t 9)), none⟩,
           ⟨some 34, .op (.ld1 (.t 33)), none⟩,
           ⟨some 35, .op (.bin .leq (.t 32) (.t 34)), none⟩,
           ⟨some 31, .op (.mv (.t 35)), none⟩]) (
         .cond (.t 31) (
          .seq (
           .reg [8] [
             ⟨some 8, .op (.mv (.c (.int .i64 40))), none⟩]) (
           .ret)) (
          .skip)))))) (
     .seq (
      .dreg [0, 1, 9] [
        (⟨some 36, .op (.mv (.t 2)), none⟩, []),
        (⟨some 37, .op (.ldn 2 (.t 7)), none⟩, []),
        (⟨some 38, .op (.fieldAddr 2 (.t 9)), none⟩, []),
        (⟨none, .op (.st 1 (.t 38) (.t 36)), none⟩, [1]),
        (⟨some 39, .op (.fieldAddr 3 (.t 9)), none⟩, []),
        (⟨none, .op (.st 2 (.t 39) (.t 37)), none⟩, [])]) (
      .seq (
       .dreg [] [
         (⟨some 40, .op (.mv (.t 0)), none⟩, []),
         (⟨some 41, .op (.nilCheck (.t 40)), none⟩, []),
         (⟨some 42, .op (.fieldAddr 0 (.t 41)), none⟩, []),
         (⟨some 43, .op (.ld1 (.t 42)), none⟩, []),
         (⟨some 44, .op (.mv (.t 1)), none⟩, []),
         (⟨some 45, .op (.ldn 5 (.t 9)), none⟩, []),
         (⟨none, .op (.mapSet false [2] (.t 43) (.t 44) (.t 45)), none⟩, [])]) (
       .seq (
        .reg [8] [
          ⟨some 8, .op (.mv (.c (.int .i64 0))), none⟩]) (
        .ret)))))))
theorem cf10 : compF Tryd.prog Tryd.f10 h10 = some (ac10, rs10) := by kernel_rfl

/-! mailcoach/mailcoachlaw15.bytes params 1 -/
def h11 : Hints := ⟨[(3, [2]), (2, [3]), (1, [0, 3]), (0, [0])], [], []⟩
def rs11 : List ARes := [.t 2]
def ac11 : ACode :=
 .seq (
  .reg [0] [
    ⟨some 2, .op (.mv (.c (.nilsl))), none⟩]) (
  .seq (
   .reg [0, 3] [
     ⟨some 4, .op (.build [.nilsl] []), none⟩,
     ⟨some 5, .op (.box (.t 4)), none⟩,
     ⟨some 3, .op (.mv (.t 5)), none⟩]) (
   .seq (
    .reg [3] [
      ⟨some 6, .op (.mv (.t 0)), none⟩,
      ⟨some 7, .op (.mv (.t 3)), none⟩,
      ⟨some 8, .call (.c (.fn 22 [] [])) [(.t 6), (.t 7)], none⟩]) (
    .seq (
     .reg [2] [
       ⟨some 9, .op (.mv (.t 3)), none⟩,
       ⟨some 10, .call (.c (.fn 23 [] [])) [(.t 9)], none⟩,
       ⟨some 2, .op (.mv (.t 10)), none⟩]) (
     .ret))))
theorem cf11 : compF Tryd.prog Tryd.f11 h11 = some (ac11, rs11) := by kernel_rfl

/-! mailcoach/mailcoachlaw15.taken params 1 -/
def h12 : Hints := ⟨[(4, [2, 3]), (3, [2, 3]), (2, [2, 3, 8]), (1, [2, 3]), (0, [0, 2])], [], []⟩
def rs12 : List ARes := [.c1 2, .t 3]
def ac12 : ACode :=
 .seq (
  .reg [0, 2] [
    ⟨some 2, .op (.alloc [.nilsl]), none⟩,
    ⟨some 3, .op (.mv (.c (.int .i64 0))), none⟩]) (
  .seq (
   .reg [2, 3] [
     ⟨some 4, .op (.mv (.t 0)), none⟩,
     ⟨some 5, .op (.mkfn 24 [] [(.t 2)]), none⟩,
     ⟨some 6, .call (.c (.fn 17 [] [])) [(.t 4), (.t 5)], none⟩,
     ⟨some 3, .op (.mv (.t 6)), none⟩]) (
   .seq (
    .seq (
     .reg [2, 3, 8] [
       ⟨some 7, .op (.mv (.t 3)), none⟩,
       ⟨some 8, .op (.bin .neq (.t 7) (.c (.int .i64 0))), none⟩]) (
     .cond (.t 8) (
      .seq (
       .reg [2, 3] [
         ⟨some 9, .op (.mv (.t 3)), none⟩,
         ⟨none, .op (.st 1 (.t 2) (.c (.nilsl))), none⟩,
         ⟨some 3, .op (.mv (.t 9)), none⟩]) (
       .ret)) (
      .skip))) (
    .seq (
     .reg [2, 3] [
       ⟨some 10, .op (.ld1 (.t 2)), none⟩,
       ⟨some 11, .op (.mv (.t 3)), none⟩,
       ⟨none, .op (.st 1 (.t 2) (.t 10)), none⟩,
       ⟨some 3, .op (.mv (.t 11)), none⟩]) (
     .ret))))
theorem cf12 : compF Tryd.prog Tryd.f12 h12 = some (ac12, rs12) := by kernel_rfl

/-! mailcoach/mailcoachref15.Take params 1 -/
def h13 : Hints := ⟨[(14, [2]), (5, [0, 3, 4, 5]), (13, [0, 3, 4, 5]), (12, [0, 3, 4, 5, 6]), (11, [0, 3, 4, 5, 6, 77]), (10, [0, 3, 4, 5, 6]), (9, [0, 3, 4, 5, 6]), (8, [0, 3, 4, 5, 6]), (7, [0, 3, 4, 5, 6]), (6, [0, 3, 4, 5, 6]), (4, [0, 3, 4, 5, 19]), (3, [0, 3, 4, 5]), (2, [0, 3, 4]), (1, [0, 3]), (0, [0])], [(4, [0, 3, 4, 5])], [(11, [(0, []), (1, []), (2, []), (3, []), (4, []), (5, []), (6, []), (7, []), (8, []), (9, []), (10, []), (11, []), (12, []), (13, []), (14, []), (15, []), (16, []), (17, []), (18, []), (19, []), (20, []), (21, []), (22, []), (23, []), (24, []), (25, []), (26, []), (27, []), (28, []), (29, []), (30, []), (31, []), (32, []), (33, []), (34, []), (35, []), (36, []), (37, []), (38, [])])]⟩
def rs13 : List ARes := [.t 2]
def ac13 : ACode :=
 .seq (
  .reg [0] [
    ⟨some 2, .op (.mv (.c (.nilsl))), none⟩]) (
  .seq (
   .reg [0, 3] [
     ⟨some 3, .op (.mv (.c (.nilsl))), none⟩]) (
   .seq (
    .reg [0, 3, 4] [
      ⟨some 7, .op (.mv (.t 0)), none⟩,
      ⟨some 8, .call (.c (.fn 25 [] [])) [(.t 7), (.c (.int .i64 1))], none⟩,
      ⟨some 9, .op (.toInt .i64 (.t 8)), none⟩,
      ⟨some 4, .op (.mv (.t 9)), none⟩]) (
    .seq (
     .seq (
      .reg [0, 3, 4, 5] [
        ⟨some 5, .op (.mv (.c (.int .i64 0))), none⟩]) (
      .block 0 (
       .loop [0, 3, 4, 5] (
        .seq (
         .seq (
          .reg [0, 3, 4, 5, 19] [
            ⟨some 10, .op (.mv (.t 5)), none⟩,
            ⟨some 11, .op (.mv (.t 4)), none⟩,
            ⟨some 12, .op (.bin .lss (.t 10) (.t 11)), none⟩,
            ⟨some 13, .op (.mv (.t 12)), none⟩,
            ⟨some 14, .op (.mv (.t 0)), some (13, true)⟩,
            ⟨some 15, .op (.nilCheck (.t 14)), some (13, true)⟩,
            ⟨some 16, .op (.fieldAddr 1 (.t 15)), some (13, true)⟩,
            ⟨some 17, .op (.ld1 (.t 16)), some (13, true)⟩,
            ⟨some 18, .op (.bin .eql (.t 17) (.c (.int .i64 0))), some (13, true)⟩,
            ⟨some 19, .pick (.t 13) (.t 18) (.c (.bool false)), none⟩]) (
          .cond (.t 19) (
           .skip) (
           .exit 0))) (
         .seq (
          .block 1 (
           .seq (
            .reg [0, 3, 4, 5, 6] [
              ⟨some 22, .op (.mv (.t 0)), none⟩,
              ⟨some 23, .call (.c (.fn 26 [] [])) [(.t 22)], none⟩,
              ⟨some 24, .op (.build [.str ⟨#[]⟩, .int .u64 0, .int .u64 0, .int .u64 0, .int .u64 0] [(0, 1, (.t 23))]), none⟩,
              ⟨some 6, .op (.alloc [.str ⟨#[]⟩, .int .u64 0, .int .u64 0, .int .u64 0, .int .u64 0]), none⟩,
              ⟨none, .op (.st 5 (.t 6) (.t 24)), none⟩]) (
            .seq (
             .reg [0, 3, 4, 5, 6] [
               ⟨some 25, .op (.mv (.t 0)), none⟩,
               ⟨some 26, .call (.c (.fn 25 [] [])) [(.t 25), (.c (.int .i64 8))], none⟩,
               ⟨some 27, .op (.fieldAddr 2 (.t 6)), none⟩,
               ⟨none, .op (.st 1 (.t 27) (.t 26)), none⟩]) (
             .seq (
              .reg [0, 3, 4, 5, 6] [
                ⟨some 28, .op (.mv (.t 0)), none⟩,
                ⟨some 29, .call (.c (.fn 25 [] [])) [(.t 28), (.c (.int .i64 8))], none⟩,
                ⟨some 30, .op (.fieldAddr 3 (.t 6)), none⟩,
                ⟨some 31, .op (.fieldAddr 0 (.t 30)), none⟩,
                ⟨none, .op (.st 1 (.t 31) (.t 29)), none⟩]) (
              .seq (
               .reg [0, 3, 4, 5, 6] [
                 ⟨some 32, .op (.mv (.t 0)), none⟩,
                 ⟨some 33, .call (.c (.fn 25 [] [])) [(.t 32), (.c (.int .i64 8))], none⟩,
                 ⟨some 34, .op (.fieldAddr 3 (.t 6)), none⟩,
                 ⟨some 35, .op (.fieldAddr 1 (.t 34)), none⟩,
                 ⟨none, .op (.st 1 (.t 35) (.t 33)), none⟩]) (
               .seq (
                .reg [0, 3, 4, 5, 6] [
                  ⟨some 36, .op (.fieldAddr 2 (.t 6)), none⟩,
                  ⟨some 37, .op (.ld1 (.t 36)), none⟩,
                  ⟨some 38, .op (.fieldAddr 1 (.t 6)), none⟩,
                  ⟨none, .op (.st 1 (.t 38) (.t 37)), none⟩]) (
                .seq (
                 .seq (
                  .dreg [0, 3, 4, 5, 6, 77] [
                    (⟨some 39, .op (.fieldAddr 0 (.t 6)), none⟩, []),
                    (⟨some 40, .op (.ld1 (.t 39)), none⟩, []),
                    (⟨some 41, .op (.bin .eql (.t 40) (.c (.str ⟨#[]⟩))), none⟩, []),
                    (⟨some 42, .op (.mv (.t 41)), none⟩, []),
                    (⟨some 43, .op (.fieldAddr 0 (.t 6)), some (42, false)⟩, []),
                    (⟨some 44, .op (.ld1 (.t 43)), some (42, false)⟩, []),
                    (⟨some 45, .op (.len 9 (.t 44)), some (42, false)⟩, []),
                    (⟨some 46, .op (.bin .gtr (.t 45) (.c (.int .i64 64))), some (42, false)⟩, []),
                    (⟨some 47, .pick (.t 42) (.c (.bool true)) (.t 46), none⟩, []),
                    (⟨some 48, .op (.mv (.t 47)), none⟩, []),
                    (⟨some 49, .op (.fieldAddr 2 (.t 6)), some (48, false)⟩, []),
                    (⟨some 50, .op (.ld1 (.t 49)), some (48, false)⟩, []),
                    (⟨some 51, .op (.bin .eql (.t 50) (.c (.int .u64 0))), some (48, false)⟩, []),
                    (⟨some 52, .pick (.t 48) (.c (.bool true)) (.t 51), none⟩, []),
                    (⟨some 53, .op (.mv (.t 52)), none⟩, []),
                    (⟨some 54, .op (.mv (.t 5)), some (53, false)⟩, []),
                    (⟨some 55, .op (.bin .eql (.t 54) (.c (.int .i64 16))), some (53, false)⟩, []),
                    (⟨some 56, .pick (.t 53) (.c (.bool true)) (.t 55), none⟩, []),
                    (⟨some 57, .op (.mv (.t 56)), none⟩, []),
                    (⟨some 58, .op (.mv (.t 5)), some (57, false)⟩, []),
                    (⟨some 59, .op (.bin .gtr (.t 58) (.c (.int .i64 0))), some (57, false)⟩, []),
                    (⟨some 60, .op (.mv (.t 59)), some (57, false)⟩, []),
                    (⟨some 61, .op (.mv (.t 3)), some (60, true)⟩, []),
                    (⟨some 62, .op (.len 1 (.t 61)), some (60, true)⟩, []),
                    (⟨some 63, .op (.bin .gtr (.t 62) (.c (.int .i64 0))), some (60, true)⟩, []),
                    (⟨some 64, .pick (.t 60) (.t 63) (.c (.bool false)), some (57, false)⟩, []),
                    (⟨some 65, .op (.mv (.t 64)), some (57, false)⟩, []),
                    (⟨some 66, .op (.mv (.t 3)), some (65, true)⟩, []),
                    (⟨some 67, .op (.mv (.t 3)), some (65, true)⟩, []),
                    (⟨some 68, .op (.len 1 (.t 67)), some (65, true)⟩, []),
                    (⟨some 69, .op (.bin .sub (.t 68) (.c (.int .i64 1))), some (65, true)⟩, []),
                    (⟨some 70, .op (.idxAddr 5 (.t 66) (.t 69)), some (65, true)⟩, []),
                    (⟨some 71, .op (.fieldAddr 0 (.t 70)), some (65, true)⟩, []),
                    (⟨some 72, .op (.ld1 (.t 71)), some (65, true)⟩, []),
                    (⟨some 73, .op (.fieldAddr 0 (.t 6)), some (65, true)⟩, []),
                    (⟨some 74, .op (.ld1 (.t 73)), some (65, true)⟩, []),
                    (⟨some 75, .op (.bin .geq (.t 72) (.t 74)), some (65, true)⟩, []),
                    (⟨some 76, .pick (.t 65) (.t 75) (.c (.bool false)), some (57, false)⟩, []),
                    (⟨some 77, .pick (.t 57) (.c (.bool true)) (.t 76), none⟩, [])]) (
                  .cond (.t 77) (
                   .reg [0, 3, 4, 5, 6] [
                     ⟨some 78, .op (.mv (.t 0)), none⟩,
                     ⟨some 79, .call (.c (.fn 27 [] [])) [(.t 78), (.c (.int .i64 23))], none⟩]) (
                   .skip))) (
                 .reg [0, 3, 4, 5] [
                   ⟨some 80, .op (.mv (.t 3)), none⟩,
                   ⟨some 81, .op (.ldn 5 (.t 6)), none⟩,
                   ⟨some 82, .op (.buildSl 5 [.str ⟨#[]⟩, .int .u64 0, .int .u64 0, .int .u64 0, .int .u64 0] 1 [(0, (.t 81))]), none⟩,
                   ⟨some 83, .op (.append 5 48 (.t 80) (.t 82)), none⟩,
                   ⟨some 3, .op (.mv (.t 83)), none⟩])))))))) (
          .reg [0, 3, 4, 5] [
            ⟨some 20, .op (.mv (.t 5)), none⟩,
            ⟨some 21, .op (.bin .add (.t 20) (.c (.int .i64 1))), none⟩,
            ⟨some 5, .op (.mv (.t 21)), none⟩])))))) (
     .seq (
      .reg [2] [
        ⟨some 84, .op (.mv (.t 3)), none⟩,
        ⟨some 2, .op (.mv (.t 84)), none⟩]) (
      .ret)))))
theorem cf13 : compF Tryd.prog Tryd.f13 h13 = some (ac13, rs13) := by kernel_rfl

/-! (*mailcoach/mailcoachref01.Reader).End params 1 -/
def h14 : Hints := ⟨[(3, [2]), (2, [0]), (1, [0, 15]), (0, [0])], [], []⟩
def rs14 : List ARes := [.t 2]
def ac14 : ACode :=
 .seq (
  .reg [0] [
    ⟨some 2, .op (.mv (.c (.int .i64 0))), none⟩]) (
  .seq (
   .seq (
    .reg [0, 15] [
      ⟨some 3, .op (.mv (.t 0)), none⟩,
      ⟨some 4, .op (.nilCheck (.t 3)), none⟩,
      ⟨some 5, .op (.fieldAddr 1 (.t 4)), none⟩,
      ⟨some 6, .op (.ld1 (.t 5)), none⟩,
      ⟨some 7, .op (.bin .eql (.t 6) (.c (.int .i64 0))), none⟩,
      ⟨some 8, .op (.mv (.t 7)), none⟩,
      ⟨some 9, .op (.mv (.t 0)), some (8, true)⟩,
      ⟨some 10, .op (.nilCheck (.t 9)), some (8, true)⟩,
      ⟨some 11, .op (.fieldAddr 0 (.t 10)), some (8, true)⟩,
      ⟨some 12, .op (.ld1 (.t 11)), some (8, true)⟩,
      ⟨some 13, .op (.len 1 (.t 12)), some (8, true)⟩,
      ⟨some 14, .op (.bin .gtr (.t 13) (.c (.int .i64 0))), some (8, true)⟩,
      ⟨some 15, .pick (.t 8) (.t 14) (.c (.bool false)), none⟩]) (
    .cond (.t 15) (
     .reg [0] [
       ⟨some 16, .op (.mv (.t 0)), none⟩,
       ⟨some 17, .op (.nilCheck (.t 16)), none⟩,
       ⟨some 18, .op (.fieldAddr 1 (.t 17)), none⟩,
       ⟨none, .op (.st 1 (.t 18) (.c (.int .i64 5))), none⟩]) (
     .skip))) (
   .seq (
    .reg [2] [
      ⟨some 19, .op (.mv (.t 0)), none⟩,
      ⟨some 20, .op (.nilCheck (.t 19)), none⟩,
      ⟨some 21, .op (.fieldAddr 1 (.t 20)), none⟩,
      ⟨some 22, .op (.ld1 (.t 21)), none⟩,
      ⟨some 2, .op (.mv (.t 22)), none⟩]) (
    .ret)))
theorem cf14 : compF Tryd.prog Tryd.f14 h14 = some (ac14, rs14) := by kernel_rfl

/-! mailcoach/mailcoachref15.SameLines params 2 -/
def h15 : Hints := ⟨[(8, [4]), (5, [0, 1, 5]), (7, [4]), (6, [0, 1, 5, 25]), (4, [0, 1, 5, 14]), (3, [0, 1, 5]), (2, [4]), (1, [0, 1, 10]), (0, [0, 1])], [(4, [0, 1, 5])], [(6, [(0, []), (1, []), (2, []), (3, []), (4, []), (5, []), (6, []), (7, []), (8, [])])]⟩
def rs15 : List ARes := [.t 4]
def ac15 : ACode :=
 .seq (
  .reg [0, 1] [
    ⟨some 4, .op (.mv (.c (.bool false))), none⟩]) (
  .seq (
   .seq (
    .reg [0, 1, 10] [
      ⟨some 6, .op (.mv (.t 0)), none⟩,
      ⟨some 7, .op (.len 1 (.t 6)), none⟩,
      ⟨some 8, .op (.mv (.t 1)), none⟩,
      ⟨some 9, .op (.len 1 (.t 8)), none⟩,
      ⟨some 10, .op (.bin .neq (.t 7) (.t 9)), none⟩]) (
    .cond (.t 10) (
     .seq (
      .reg [4] [
        ⟨some 4, .op (.mv (.c (.bool false))), none⟩]) (
      .ret)) (
     .skip))) (
   .seq (
    .seq (
     .reg [0, 1, 5] [
       ⟨some 5, .op (.mv (.c (.int .i64 0))), none⟩]) (
     .block 0 (
      .loop [0, 1, 5] (
       .seq (
        .seq (
         .reg [0, 1, 5, 14] [
           ⟨some 11, .op (.mv (.t 5)), none⟩,
           ⟨some 12, .op (.mv (.t 0)), none⟩,
           ⟨some 13, .op (.len 1 (.t 12)), none⟩,
           ⟨some 14, .op (.bin .lss (.t 11) (.t 13)), none⟩]) (
         .cond (.t 14) (
          .skip) (
          .exit 0))) (
        .seq (
         .block 1 (
          .seq (
           .dreg [0, 1, 5, 25] [
             (⟨some 17, .op (.mv (.t 0)), none⟩, []),
             (⟨some 18, .op (.mv (.t 5)), none⟩, []),
             (⟨some 19, .op (.idxAddr 5 (.t 17) (.t 18)), none⟩, []),
             (⟨some 20, .op (.ldn 5 (.t 19)), none⟩, []),
             (⟨some 21, .op (.mv (.t 1)), none⟩, []),
             (⟨some 22, .op (.mv (.t 5)), none⟩, []),
             (⟨some 23, .op (.idxAddr 5 (.t 21) (.t 22)), none⟩, []),
             (⟨some 24, .op (.ldn 5 (.t 23)), none⟩, []),
             (⟨some 25, .op (.eqs true [2, 1, 1, 1, 1] (.t 20) (.t 24)), none⟩, [])]) (
           .cond (.t 25) (
            .seq (
             .reg [4] [
               ⟨some 4, .op (.mv (.c (.bool false))), none⟩]) (
             .ret)) (
            .skip)))) (
         .reg [0, 1, 5] [
           ⟨some 15, .op (.mv (.t 5)), none⟩,
           ⟨some 16, .op (.bin .add (.t 15) (.c (.int .i64 1))), none⟩,
           ⟨some 5, .op (.mv (.t 16)), none⟩])))))) (
    .seq (
     .reg [4] [
       ⟨some 4, .op (.mv (.c (.bool true))), none⟩]) (
     .ret))))
theorem cf15 : compF Tryd.prog Tryd.f15 h15 = some (ac15, rs15) := by kernel_rfl

/-! (*mailcoach/dedup.Table).Forget params 1 -/
def h16 : Hints := ⟨[(7, [0, 10]), (6, [0, 2, 10, 27]), (5, [0, 2, 3, 10]), (4, [0, 2, 3, 10]), (3, [0, 2, 3, 10]), (2, [0, 10, 12]), (1, [0, 10]), (0, [0, 5])], [(2, [0, 10])], [(5, [(0, []), (1, []), (2, []), (3, []), (4, []), (5, []), (6, [])])]⟩
def rs16 : List ARes := []
def ac16 : ACode :=
 .seq (
  .seq (
   .reg [0, 5] [
     ⟨some 4, .op (.mv (.t 0)), none⟩,
     ⟨some 5, .op (.eqn 0 false (.t 4) (.c (.nilp))), none⟩]) (
   .cond (.t 5) (
    .ret) (
    .skip))) (
  .seq (
   .reg [0, 10] [
     ⟨some 6, .op (.mv (.t 0)), none⟩,
     ⟨some 7, .op (.nilCheck (.t 6)), none⟩,
     ⟨some 8, .op (.fieldAddr 0 (.t 7)), none⟩,
     ⟨some 9, .op (.ld1 (.t 8)), none⟩,
     ⟨some 10, .op (.rangeM (.t 9)), none⟩]) (
   .block 0 (
    .loop [0, 10] (
     .seq (
      .reg [0, 10, 12] [
        ⟨some 11, .next (.t 10), none⟩,
        ⟨some 12, .op (.extract (.t 11) 0), none⟩]) (
      .seq (
       .cond (.t 12) (
        .skip) (
        .exit 0)) (
       .block 1 (
        .seq (
         .reg [0, 2, 3, 10] [
           ⟨some 13, .op (.entryM (.t 10)), none⟩,
           ⟨some 14, .op (.extract (.t 13) 0), none⟩,
           ⟨some 15, .op (.extract (.t 13) 1), none⟩,
           ⟨some 3, .op (.alloc [.str ⟨#[]⟩, .int .u64 0, .int .u64 0, .int .u64 0, .int .u64 0]), none⟩,
           ⟨some 2, .op (.mv (.t 14)), none⟩,
           ⟨none, .op (.st 5 (.t 3) (.t 15)), none⟩]) (
         .seq (
          .reg [0, 2, 3, 10] [
            ⟨some 16, .op (.fieldAddr 2 (.t 3)), none⟩,
            ⟨some 17, .op (.ld1 (.t 16)), none⟩,
            ⟨some 18, .op (.fieldAddr 1 (.t 3)), none⟩,
            ⟨none, .op (.st 1 (.t 18) (.t 17)), none⟩]) (
          .seq (
           .dreg [0, 2, 3, 10] [
             (⟨some 19, .op (.mv (.t 0)), none⟩, []),
             (⟨some 20, .op (.nilCheck (.t 19)), none⟩, []),
             (⟨some 21, .op (.fieldAddr 0 (.t 20)), none⟩, []),
             (⟨some 22, .op (.ld1 (.t 21)), none⟩, []),
             (⟨some 23, .op (.mv (.t 2)), none⟩, []),
             (⟨some 24, .op (.ldn 5 (.t 3)), none⟩, []),
             (⟨none, .op (.mapSet false [2] (.t 22) (.t 23) (.t 24)), none⟩, [])]) (
           .seq (
            .reg [0, 2, 10, 27] [
              ⟨some 25, .op (.fieldAddr 2 (.t 3)), none⟩,
              ⟨some 26, .op (.ld1 (.t 25)), none⟩,
              ⟨some 27, .op (.bin .eql (.t 26) (.c (.int .u64 0))), none⟩]) (
            .cond (.t 27) (
             .reg [0, 10] [
               ⟨some 28, .op (.mv (.t 0)), none⟩,
               ⟨some 29, .op (.nilCheck (.t 28)), none⟩,
               ⟨some 30, .op (.fieldAddr 0 (.t 29)), none⟩,
               ⟨some 31, .op (.ld1 (.t 30)), none⟩,
               ⟨some 32, .op (.mv (.t 2)), none⟩,
               ⟨none, .op (.delete false [2] (.t 31) (.t 32)), none⟩]) (
             .skip))))))))))))
theorem cf16 : compF Tryd.prog Tryd.f16 h16 = some (ac16, rs16) := by kernel_rfl

/-! mailcoach/pack.Read params 2 -/
def h17 : Hints := ⟨[(6, [4]), (5, [4]), (4, [4, 18]), (3, [4, 5]), (2, [1, 4, 5]), (1, [0, 1, 4]), (0, [0, 1, 4])], [], []⟩
def rs17 : List ARes := [.c1 4]
def ac17 : ACode :=
 .seq (
  .reg [0, 1, 4] [
    ⟨some 4, .op (.alloc [.int .i64 0]), none⟩]) (
  .seq (
   .reg [0, 1, 4] [
     ⟨some 6, .op (.mkfn 28 [] [(.t 4)]), none⟩,
     ⟨none, .op (.stuck), none⟩]) (
   .seq (
    .reg [1, 4, 5] [
      ⟨some 7, .op (.mv (.t 0)), none⟩,
      ⟨some 8, .op (.build [.nilsl] [(0, 1, (.t 7))]), none⟩,
      ⟨some 9, .op (.box (.t 8)), none⟩,
      ⟨some 5, .op (.mv (.t 9)), none⟩]) (
    .seq (
     .reg [4, 5] [
       ⟨some 10, .op (.mv (.t 1)), none⟩,
       ⟨some 11, .op (.mv (.t 5)), none⟩,
       ⟨some 12, .call (.t 10) [(.t 11)], none⟩]) (
     .seq (
      .seq (
       .reg [4, 18] [
         ⟨some 13, .op (.mv (.t 5)), none⟩,
         ⟨some 14, .op (.nilCheck (.t 13)), none⟩,
         ⟨some 15, .op (.fieldAddr 0 (.t 14)), none⟩,
         ⟨some 16, .op (.ld1 (.t 15)), none⟩,
         ⟨some 17, .op (.len 1 (.t 16)), none⟩,
         ⟨some 18, .op (.bin .gtr (.t 17) (.c (.int .i64 0))), none⟩]) (
       .cond (.t 18) (
        .seq (
         .reg [4] [
           ⟨none, .op (.st 1 (.t 4) (.c (.int .i64 5))), none⟩]) (
         .ret)) (
        .skip))) (
      .seq (
       .reg [4] [
         ⟨none, .op (.st 1 (.t 4) (.c (.int .i64 0))), none⟩]) (
       .ret))))))
theorem cf17 : compF Tryd.prog Tryd.f17 h17 = some (ac17, rs17) := by kernel_rfl

/-! mailcoach/mailcoachlaw15.DedupOnce$1 params 2 -/
def h18 : Hints := ⟨[(0, [])], [], []⟩
def rs18 : List ARes := []
def ac18 : ACode :=
 .reg [] [
   ⟨some 3, .op (.mv (.t 0)), none⟩,
   ⟨some 4, .call (.c (.fn 19 [] [])) [(.t 3)], none⟩,
   ⟨none, .op (.st 1 (.t 1) (.t 4)), none⟩]
theorem cf18 : compF Tryd.prog Tryd.f18 h18 = some (ac18, rs18) := by kernel_rfl

/-! mailcoach/dedup.Take params 1 -/
def h19 : Hints := ⟨[(12, [2]), (11, [0, 3, 4, 8, 9]), (10, [0, 3, 4, 8, 9]), (9, [0, 3, 4, 5, 8, 9]), (8, [0, 3, 5, 8, 9]), (7, [0, 3, 5, 8, 9, 46]), (6, [0, 3, 4, 5, 8, 9]), (5, [0, 3, 4, 5, 8, 9]), (4, [0, 3, 4, 8, 9, 10]), (3, [0, 3, 4, 8, 9]), (2, [0, 3, 4]), (1, [0, 3]), (0, [0])], [(4, [0, 3, 4, 8, 9])], [(10, [(0, []), (1, []), (2, []), (3, []), (4, []), (5, []), (6, []), (7, [])])]⟩
def rs19 : List ARes := [.t 2]
def ac19 : ACode :=
 .seq (
  .reg [0] [
    ⟨some 2, .op (.mv (.c (.nilp))), none⟩]) (
  .seq (
   .reg [0, 3] [
     ⟨some 6, .call (.c (.fn 7 [] [])) [], none⟩,
     ⟨some 3, .op (.mv (.t 6)), none⟩]) (
   .seq (
    .reg [0, 3, 4] [
      ⟨some 4, .op (.mv (.c (.str ⟨#[]⟩))), none⟩]) (
    .seq (
     .seq (
      .reg [0, 3, 4, 8, 9] [
        ⟨some 7, .op (.mv (.t 0)), none⟩,
        ⟨some 8, .call (.c (.fn 29 [] [])) [(.t 7)], none⟩,
        ⟨some 9, .op (.mv (.c (.int .u8 0))), none⟩]) (
      .block 0 (
       .loop [0, 3, 4, 8, 9] (
        .seq (
         .reg [0, 3, 4, 8, 9, 10] [
           ⟨some 10, .op (.bin .lss (.t 9) (.t 8)), none⟩]) (
         .seq (
          .cond (.t 10) (
           .skip) (
           .exit 0)) (
          .seq (
           .block 1 (
            .seq (
             .reg [0, 3, 4, 5, 8, 9] [
               ⟨some 11, .op (.mv (.t 0)), none⟩,
               ⟨some 12, .call (.c (.fn 30 [] [])) [(.t 11)], none⟩,
               ⟨some 13, .op (.mv (.t 0)), none⟩,
               ⟨some 14, .call (.c (.fn 31 [] [])) [(.t 13)], none⟩,
               ⟨some 15, .op (.mv (.t 0)), none⟩,
               ⟨some 16, .call (.c (.fn 31 [] [])) [(.t 15)], none⟩,
               ⟨some 17, .op (.mv (.t 0)), none⟩,
               ⟨some 18, .call (.c (.fn 31 [] [])) [(.t 17)], none⟩,
               ⟨some 19, .op (.build [.int .u64 0, .int .u64 0] [(0, 1, (.t 16)), (1, 1, (.t 18))]), none⟩,
               ⟨some 20, .op (.build [.str ⟨#[]⟩, .int .u64 0, .int .u64 0, .int .u64 0, .int .u64 0] [(0, 1, (.t 12)), (2, 1, (.t 14)), (3, 2, (.t 19))]), none⟩,
               ⟨some 5, .op (.alloc [.str ⟨#[]⟩, .int .u64 0, .int .u64 0, .int .u64 0, .int .u64 0]), none⟩,
               ⟨none, .op (.st 5 (.t 5) (.t 20)), none⟩]) (
             .seq (
              .reg [0, 3, 4, 5, 8, 9] [
                ⟨some 21, .op (.fieldAddr 2 (.t 5)), none⟩,
                ⟨some 22, .op (.ld1 (.t 21)), none⟩,
                ⟨some 23, .op (.fieldAddr 1 (.t 5)), none⟩,
                ⟨none, .op (.st 1 (.t 23) (.t 22)), none⟩]) (
              .seq (
               .seq (
                .reg [0, 3, 5, 8, 9, 46] [
                  ⟨some 24, .op (.fieldAddr 0 (.t 5)), none⟩,
                  ⟨some 25, .op (.ld1 (.t 24)), none⟩,
                  ⟨some 26, .op (.mv (.t 4)), none⟩,
                  ⟨some 27, .op (.bin .leq (.t 25) (.t 26)), none⟩,
                  ⟨some 28, .op (.mv (.t 27)), none⟩,
                  ⟨some 29, .op (.fieldAddr 0 (.t 5)), some (28, false)⟩,
                  ⟨some 30, .op (.ld1 (.t 29)), some (28, false)⟩,
                  ⟨some 31, .op (.len 9 (.t 30)), some (28, false)⟩,
                  ⟨some 32, .op (.bin .gtr (.t 31) (.c (.int .i64 64))), some (28, false)⟩,
                  ⟨some 33, .pick (.t 28) (.c (.bool true)) (.t 32), none⟩,
                  ⟨some 34, .op (.mv (.t 33)), none⟩,
                  ⟨some 35, .op (.fieldAddr 2 (.t 5)), some (34, false)⟩,
                  ⟨some 36, .op (.ld1 (.t 35)), some (34, false)⟩,
                  ⟨some 37, .op (.bin .eql (.t 36) (.c (.int .u64 0))), some (34, false)⟩,
                  ⟨some 38, .pick (.t 34) (.c (.bool true)) (.t 37), none⟩,
                  ⟨some 39, .op (.mv (.t 38)), none⟩,
                  ⟨some 40, .op (.mv (.t 3)), some (39, false)⟩,
                  ⟨some 41, .op (.nilCheck (.t 40)), some (39, false)⟩,
                  ⟨some 42, .op (.fieldAddr 0 (.t 41)), some (39, false)⟩,
                  ⟨some 43, .op (.ld1 (.t 42)), some (39, false)⟩,
                  ⟨some 44, .op (.len 2 (.t 43)), some (39, false)⟩,
                  ⟨some 45, .op (.bin .geq (.t 44) (.c (.int .i64 16))), some (39, false)⟩,
                  ⟨some 46, .pick (.t 39) (.c (.bool true)) (.t 45), none⟩]) (
                .cond (.t 46) (
                 .reg [0, 3, 5, 8, 9] [
                   ⟨some 47, .op (.mv (.t 0)), none⟩,
                   ⟨some 48, .call (.c (.fn 32 [] [])) [(.t 47), (.c (.int .i64 23))], none⟩]) (
                 .skip))) (
               .seq (
                .reg [0, 3, 4, 5, 8, 9] [
                  ⟨some 49, .op (.fieldAddr 0 (.t 5)), none⟩,
                  ⟨some 50, .op (.ld1 (.t 49)), none⟩,
                  ⟨some 4, .op (.mv (.t 50)), none⟩]) (
                .dreg [0, 3, 4, 8, 9] [
                  (⟨some 51, .op (.mv (.t 3)), none⟩, []),
                  (⟨some 52, .op (.nilCheck (.t 51)), none⟩, []),
                  (⟨some 53, .op (.fieldAddr 0 (.t 52)), none⟩, []),
                  (⟨some 54, .op (.ld1 (.t 53)), none⟩, []),
                  (⟨some 55, .op (.fieldAddr 0 (.t 5)), none⟩, []),
                  (⟨some 56, .op (.ld1 (.t 55)), none⟩, []),
                  (⟨some 57, .op (.ldn 5 (.t 5)), none⟩, []),
                  (⟨none, .op (.mapSet false [2] (.t 54) (.t 56) (.t 57)), none⟩, [])])))))) (
           .reg [0, 3, 4, 8, 9] [
             ⟨some 58, .op (.bin .add (.t 9) (.c (.int .u8 1))), none⟩,
             ⟨some 9, .op (.mv (.t 58)), none⟩]))))))) (
     .seq (
      .reg [2] [
        ⟨some 59, .op (.mv (.t 3)), none⟩,
        ⟨some 2, .op (.mv (.t 59)), none⟩]) (
      .ret)))))
theorem cf19 : compF Tryd.prog Tryd.f19 h19 = some (ac19, rs19) := by kernel_rfl

/-! (*mailcoach/dedup.Table).Last params 2 -/
def h20 : Hints := ⟨[(4, [4, 5]), (3, [4, 6, 7]), (2, [4, 5]), (1, [0, 1, 4, 9]), (0, [0, 1, 4])], [], []⟩
def rs20 : List ARes := [.cn 4 5, .t 5]
def ac20 : ACode :=
 .seq (
  .reg [0, 1, 4] [
    ⟨some 4, .op (.alloc [.str ⟨#[]⟩, .int .u64 0, .int .u64 0, .int .u64 0, .int .u64 0]), none⟩,
    ⟨some 5, .op (.mv (.c (.bool false))), none⟩]) (
  .seq (
   .seq (
    .reg [0, 1, 4, 9] [
      ⟨some 8, .op (.mv (.t 0)), none⟩,
      ⟨some 9, .op (.eqn 0 false (.t 8) (.c (.nilp))), none⟩]) (
    .cond (.t 9) (
     .seq (
      .reg [4, 5] [
        ⟨some 10, .op (.build [.str ⟨#[]⟩, .int .u64 0, .int .u64 0, .int .u64 0, .int .u64 0] []), none⟩,
        ⟨none, .op (.st 5 (.t 4) (.t 10)), none⟩,
        ⟨some 5, .op (.mv (.c (.bool false))), none⟩]) (
      .ret)) (
     .skip))) (
   .seq (
    .reg [4, 6, 7] [
      ⟨some 12, .op (.mv (.t 0)), none⟩,
      ⟨some 13, .op (.nilCheck (.t 12)), none⟩,
      ⟨some 14, .op (.fieldAddr 0 (.t 13)), none⟩,
      ⟨some 15, .op (.ld1 (.t 14)), none⟩,
      ⟨some 16, .op (.mv (.t 1)), none⟩,
      ⟨some 17, .op (.lookup (.agg [.str ⟨#[]⟩, .int .u64 0, .int .u64 0, .int .u64 0, .int .u64 0]) false [2] (.t 15) (.t 16) true), none⟩,
      ⟨some 11, .op (.mv (.t 17)), none⟩,
      ⟨some 18, .op (.extract (.t 11) 0), none⟩,
      ⟨some 19, .op (.extract (.t 11) 1), none⟩,
      ⟨some 6, .op (.alloc [.str ⟨#[]⟩, .int .u64 0, .int .u64 0, .int .u64 0, .int .u64 0]), none⟩,
      ⟨none, .op (.st 5 (.t 6) (.t 18)), none⟩,
      ⟨some 7, .op (.mv (.t 19)), none⟩]) (
    .seq (
     .reg [4, 5] [
       ⟨some 20, .op (.ldn 5 (.t 6)), none⟩,
       ⟨some 21, .op (.mv (.t 7)), none⟩,
       ⟨none, .op (.st 5 (.t 4) (.t 20)), none⟩,
       ⟨some 5, .op (.mv (.t 21)), none⟩]) (
     .ret))))
theorem cf20 : compF Tryd.prog Tryd.f20 h20 = some (ac20, rs20) := by kernel_rfl

/-! (*mailcoach/dedup.Table).All params 1 -/
def h21 : Hints := ⟨[(3, [2]), (2, [2]), (1, [0, 4]), (0, [0])], [], []⟩
def rs21 : List ARes := [.t 2]
def ac21 : ACode :=
 .seq (
  .reg [0] [
    ⟨some 2, .op (.mv (.c (.nilsl))), none⟩]) (
  .seq (
   .seq (
    .reg [0, 4] [
      ⟨some 3, .op (.mv (.t 0)), none⟩,
      ⟨some 4, .op (.eqn 0 false (.t 3) (.c (.nilp))), none⟩]) (
    .cond (.t 4) (
     .seq (
      .reg [2] [
        ⟨some 2, .op (.mv (.c (.nilsl))), none⟩]) (
      .ret)) (
     .skip))) (
   .seq (
    .reg [2] [
      ⟨some 5, .op (.mv (.t 0)), none⟩,
      ⟨some 6, .op (.nilCheck (.t 5)), none⟩,
      ⟨some 7, .op (.fieldAddr 0 (.t 6)), none⟩,
      ⟨some 8, .op (.ld1 (.t 7)), none⟩,
      ⟨some 9, .call (.c (.fn 34 [] [])) [(.t 8)], none⟩,
      ⟨some 10, .call (.c (.fn 33 [] [])) [(.t 9), (.c (.fn 35 [] []))], none⟩,
      ⟨some 2, .op (.mv (.t 10)), none⟩]) (
    .ret)))
theorem cf21 : compF Tryd.prog Tryd.f21 h21 = some (ac21, rs21) := by kernel_rfl

/-! (*mailcoach/dedup.Table).Write params 2 -/
def h22 : Hints := ⟨[(15, [1, 29, 30, 31]), (14, [1, 29, 30, 31]), (13, [1, 8, 29, 30, 31]), (12, [1, 8, 29, 30, 31]), (11, [1, 8, 29, 30, 31]), (10, [1, 8, 29, 30, 31]), (9, [1, 29, 30, 31, 32]), (8, [1, 29, 30, 31]), (7, [1, 4]), (6, [1, 4, 10, 11, 12]), (5, [1, 4, 10, 11, 12]), (4, [1, 4, 6, 10, 11, 12, 18]), (3, [1, 4, 6, 10, 11, 12]), (2, [1, 4, 10, 11, 12, 13]), (1, [1, 4, 10, 11, 12]), (0, [0, 1, 4])], [(9, [1, 29, 30, 31]), (2, [1, 4, 10, 11, 12])], []⟩
def rs22 : List ARes := []
def ac22 : ACode :=
 .seq (
  .reg [0, 1, 4] [
    ⟨some 4, .op (.mv (.c (.nilsl))), none⟩]) (
  .seq (
   .seq (
    .reg [1, 4, 10, 11, 12] [
      ⟨some 9, .op (.mv (.t 0)), none⟩,
      ⟨some 10, .call (.c (.fn 21 [] [])) [(.t 9)], none⟩,
      ⟨some 11, .op (.len 1 (.t 10)), none⟩,
      ⟨some 12, .op (.mv (.c (.int .i64 0))), none⟩]) (
    .block 0 (
     .loop [1, 4, 10, 11, 12] (
      .seq (
       .reg [1, 4, 10, 11, 12, 13] [
         ⟨some 13, .op (.bin .lss (.t 12) (.t 11)), none⟩]) (
       .seq (
        .cond (.t 13) (
         .skip) (
         .exit 0)) (
        .seq (
         .block 1 (
          .seq (
           .reg [1, 4, 6, 10, 11, 12] [
             ⟨some 14, .op (.idxAddr 5 (.t 10) (.t 12)), none⟩,
             ⟨some 15, .op (.ldn 5 (.t 14)), none⟩,
             ⟨some 6, .op (.alloc [.str ⟨#[]⟩, .int .u64 0, .int .u64 0, .int .u64 0, .int .u64 0]), none⟩,
             ⟨none, .op (.st 5 (.t 6) (.t 15)), none⟩]) (
           .seq (
            .reg [1, 4, 6, 10, 11, 12, 18] [
              ⟨some 16, .op (.fieldAddr 2 (.t 6)), none⟩,
              ⟨some 17, .op (.ld1 (.t 16)), none⟩,
              ⟨some 18, .op (.bin .gtr (.t 17) (.c (.int .u64 0))), none⟩]) (
            .cond (.t 18) (
             .reg [1, 4, 10, 11, 12] [
               ⟨some 19, .op (.mv (.t 4)), none⟩,
               ⟨some 20, .op (.ldn 5 (.t 6)), none⟩,
               ⟨some 21, .op (.buildSl 5 [.str ⟨#[]⟩, .int .u64 0, .int .u64 0, .int .u64 0, .int .u64 0] 1 [(0, (.t 20))]), none⟩,
               ⟨some 22, .op (.append 5 48 (.t 19) (.t 21)), none⟩,
               ⟨some 4, .op (.mv (.t 22)), none⟩]) (
             .skip))))) (
         .reg [1, 4, 10, 11, 12] [
           ⟨some 23, .op (.bin .add (.t 12) (.c (.int .i64 1))), none⟩,
           ⟨some 12, .op (.mv (.t 23)), none⟩]))))))) (
   .seq (
    .reg [1, 4] [
      ⟨some 24, .op (.mv (.t 1)), none⟩,
      ⟨some 25, .op (.mv (.t 4)), none⟩,
      ⟨some 26, .op (.len 1 (.t 25)), none⟩,
      ⟨some 27, .op (.toInt .u8 (.t 26)), none⟩,
      ⟨some 28, .call (.c (.fn 37 [] [])) [(.t 24), (.t 27)], none⟩]) (
    .seq (
     .reg [1, 29, 30, 31] [
       ⟨some 29, .op (.mv (.t 4)), none⟩,
       ⟨some 30, .op (.len 1 (.t 29)), none⟩,
       ⟨some 31, .op (.mv (.c (.int .i64 0))), none⟩]) (
     .block 2 (
      .loop [1, 29, 30, 31] (
       .seq (
        .reg [1, 29, 30, 31, 32] [
          ⟨some 32, .op (.bin .lss (.t 31) (.t 30)), none⟩]) (
        .seq (
         .cond (.t 32) (
          .skip) (
          .exit 2)) (
         .seq (
          .block 3 (
           .seq (
            .reg [1, 8, 29, 30, 31] [
              ⟨some 33, .op (.idxAddr 5 (.t 29) (.t 31)), none⟩,
              ⟨some 34, .op (.ldn 5 (.t 33)), none⟩,
              ⟨some 8, .op (.alloc [.str ⟨#[]⟩, .int .u64 0, .int .u64 0, .int .u64 0, .int .u64 0]), none⟩,
              ⟨none, .op (.st 5 (.t 8) (.t 34)), none⟩]) (
            .seq (
             .reg [1, 8, 29, 30, 31] [
               ⟨some 35, .op (.mv (.t 1)), none⟩,
               ⟨some 36, .op (.fieldAddr 0 (.t 8)), none⟩,
               ⟨some 37, .op (.ld1 (.t 36)), none⟩,
               ⟨some 38, .call (.c (.fn 38 [] [])) [(.t 35), (.t 37)], none⟩]) (
             .seq (
              .reg [1, 8, 29, 30, 31] [
                ⟨some 39, .op (.mv (.t 1)), none⟩,
                ⟨some 40, .op (.fieldAddr 2 (.t 8)), none⟩,
                ⟨some 41, .op (.ld1 (.t 40)), none⟩,
                ⟨some 42, .call (.c (.fn 39 [] [])) [(.t 39), (.t 41)], none⟩]) (
              .seq (
               .reg [1, 8, 29, 30, 31] [
                 ⟨some 43, .op (.mv (.t 1)), none⟩,
                 ⟨some 44, .op (.fieldAddr 3 (.t 8)), none⟩,
                 ⟨some 45, .op (.fieldAddr 0 (.t 44)), none⟩,
                 ⟨some 46, .op (.ld1 (.t 45)), none⟩,
                 ⟨some 47, .call (.c (.fn 39 [] [])) [(.t 43), (.t 46)], none⟩]) (
               .reg [1, 29, 30, 31] [
                 ⟨some 48, .op (.mv (.t 1)), none⟩,
                 ⟨some 49, .op (.fieldAddr 3 (.t 8)), none⟩,
                 ⟨some 50, .op (.fieldAddr 1 (.t 49)), none⟩,
                 ⟨some 51, .op (.ld1 (.t 50)), none⟩,
                 ⟨some 52, .call (.c (.fn 39 [] [])) [(.t 48), (.t 51)], none⟩])))))) (
          .reg [1, 29, 30, 31] [
            ⟨some 53, .op (.bin .add (.t 31) (.c (.int .i64 1))), none⟩,
            ⟨some 31, .op (.mv (.t 53)), none⟩])))))))))
theorem cf22 : compF Tryd.prog Tryd.f22 h22 = some (ac22, rs22) := by kernel_rfl

/-! (*mailcoach/pack.Writer).Done params 1 -/
def h23 : Hints := ⟨[(3, [2]), (2, [2]), (1, [0, 4]), (0, [0])], [], []⟩
def rs23 : List ARes := [.t 2]
def ac23 : ACode :=
 .seq (
  .reg [0] [
    ⟨some 2, .op (.mv (.c (.nilsl))), none⟩]) (
  .seq (
   .seq (
    .reg [0, 4] [
      ⟨some 3, .op (.mv (.t 0)), none⟩,
      ⟨some 4, .op (.eqn 0 false (.t 3) (.c (.nilp))), none⟩]) (
    .cond (.t 4) (
     .seq (
      .reg [2] [
        ⟨some 2, .op (.mv (.c (.nilsl))), none⟩]) (
      .ret)) (
     .skip))) (
   .seq (
    .reg [2] [
      ⟨some 5, .op (.mv (.t 0)), none⟩,
      ⟨some 6, .op (.nilCheck (.t 5)), none⟩,
      ⟨some 7, .op (.fieldAddr 0 (.t 6)), none⟩,
      ⟨some 8, .op (.ld1 (.t 7)), none⟩,
      ⟨some 9, .call (.c (.fn 40 [] [])) [(.t 8)], none⟩,
      ⟨some 2, .op (.mv (.t 9)), none⟩]) (
    .ret)))
theorem cf23 : compF Tryd.prog Tryd.f23 h23 = some (ac23, rs23) := by kernel_rfl

/-! mailcoach/mailcoachlaw15.taken$1 params 2 -/
def h24 : Hints := ⟨[(0, [])], [], []⟩
def rs24 : List ARes := []
def ac24 : ACode :=
 .reg [] [
   ⟨some 3, .op (.mv (.t 0)), none⟩,
   ⟨some 4, .call (.c (.fn 19 [] [])) [(.t 3)], none⟩,
   ⟨some 5, .call (.c (.fn 21 [] [])) [(.t 4)], none⟩,
   ⟨none, .op (.st 1 (.t 1) (.t 5)), none⟩]
theorem cf24 : compF Tryd.prog Tryd.f24 h24 = some (ac24, rs24) := by kernel_rfl

/-! (*mailcoach/mailcoachref01.Reader).Number params 2 -/
def h25 : Hints := ⟨[(11, [4]), (10, [5]), (8, [0, 1, 5, 6]), (9, [0, 1, 5, 6]), (7, [0, 1, 5, 6, 31]), (6, [0, 1, 5, 6]), (5, [0, 1, 5]), (4, [4]), (3, [0, 1, 28]), (2, [0, 1]), (1, [0, 1, 20]), (0, [0, 1])], [(7, [0, 1, 5, 6])], []⟩
def rs25 : List ARes := [.t 4]
def ac25 : ACode :=
 .seq (
  .reg [0, 1] [
    ⟨some 4, .op (.mv (.c (.int .u64 0))), none⟩]) (
  .seq (
   .seq (
    .reg [0, 1, 20] [
      ⟨some 7, .op (.mv (.t 0)), none⟩,
      ⟨some 8, .op (.nilCheck (.t 7)), none⟩,
      ⟨some 9, .op (.fieldAddr 1 (.t 8)), none⟩,
      ⟨some 10, .op (.ld1 (.t 9)), none⟩,
      ⟨some 11, .op (.bin .eql (.t 10) (.c (.int .i64 0))), none⟩,
      ⟨some 12, .op (.mv (.t 11)), none⟩,
      ⟨some 13, .op (.mv (.t 0)), some (12, true)⟩,
      ⟨some 14, .op (.nilCheck (.t 13)), some (12, true)⟩,
      ⟨some 15, .op (.fieldAddr 0 (.t 14)), some (12, true)⟩,
      ⟨some 16, .op (.ld1 (.t 15)), some (12, true)⟩,
      ⟨some 17, .op (.len 1 (.t 16)), some (12, true)⟩,
      ⟨some 18, .op (.mv (.t 1)), some (12, true)⟩,
      ⟨some 19, .op (.bin .lss (.t 17) (.t 18)), some (12, true)⟩,
      ⟨some 20, .pick (.t 12) (.t 19) (.c (.bool false)), none⟩]) (
    .cond (.t 20) (
     .reg [0, 1] [
       ⟨some 21, .op (.mv (.t 0)), none⟩,
       ⟨some 22, .op (.nilCheck (.t 21)), none⟩,
       ⟨some 23, .op (.fieldAddr 1 (.t 22)), none⟩,
       ⟨none, .op (.st 1 (.t 23) (.c (.int .i64 4))), none⟩]) (
     .skip))) (
   .seq (
    .seq (
     .reg [0, 1, 28] [
       ⟨some 24, .op (.mv (.t 0)), none⟩,
       ⟨some 25, .op (.nilCheck (.t 24)), none⟩,
       ⟨some 26, .op (.fieldAddr 1 (.t 25)), none⟩,
       ⟨some 27, .op (.ld1 (.t 26)), none⟩,
       ⟨some 28, .op (.bin .neq (.t 27) (.c (.int .i64 0))), none⟩]) (
     .cond (.t 28) (
      .seq (
       .reg [4] [
         ⟨some 4, .op (.mv (.c (.int .u64 0))), none⟩]) (
       .ret)) (
      .skip))) (
    .seq (
     .reg [0, 1, 5] [
       ⟨some 5, .op (.mv (.c (.int .u64 0))), none⟩]) (
     .seq (
      .seq (
       .reg [0, 1, 5, 6] [
         ⟨some 6, .op (.mv (.c (.int .i64 0))), none⟩]) (
       .block 0 (
        .loop [0, 1, 5, 6] (
         .seq (
          .seq (
           .reg [0, 1, 5, 6, 31] [
             ⟨some 29, .op (.mv (.t 6)), none⟩,
             ⟨some 30, .op (.mv (.t 1)), none⟩,
             ⟨some 31, .op (.bin .lss (.t 29) (.t 30)), none⟩]) (
           .cond (.t 31) (
            .skip) (
            .exit 0))) (
          .seq (
           .block 1 (
            .reg [0, 1, 5, 6] [
              ⟨some 34, .op (.mv (.t 5)), none⟩,
              ⟨some 35, .op (.bin .mul (.t 34) (.c (.int .u64 256))), none⟩,
              ⟨some 36, .op (.mv (.t 0)), none⟩,
              ⟨some 37, .op (.nilCheck (.t 36)), none⟩,
              ⟨some 38, .op (.fieldAddr 0 (.t 37)), none⟩,
              ⟨some 39, .op (.ld1 (.t 38)), none⟩,
              ⟨some 40, .op (.mv (.t 6)), none⟩,
              ⟨some 41, .op (.idxAddr 1 (.t 39) (.t 40)), none⟩,
              ⟨some 42, .op (.ld1 (.t 41)), none⟩,
              ⟨some 43, .op (.toInt .u64 (.t 42)), none⟩,
              ⟨some 44, .op (.bin .add (.t 35) (.t 43)), none⟩,
              ⟨some 5, .op (.mv (.t 44)), none⟩])) (
           .reg [0, 1, 5, 6] [
             ⟨some 32, .op (.mv (.t 6)), none⟩,
             ⟨some 33, .op (.bin .add (.t 32) (.c (.int .i64 1))), none⟩,
             ⟨some 6, .op (.mv (.t 33)), none⟩])))))) (
      .seq (
       .reg [5] [
         ⟨some 45, .op (.mv (.t 0)), none⟩,
         ⟨some 46, .op (.mv (.t 0)), none⟩,
         ⟨some 47, .op (.nilCheck (.t 46)), none⟩,
         ⟨some 48, .op (.fieldAddr 0 (.t 47)), none⟩,
         ⟨some 49, .op (.ld1 (.t 48)), none⟩,
         ⟨some 50, .op (.mv (.t 1)), none⟩,
         ⟨some 51, .op (.slice 1 (.t 49) (some (.t 50)) none none), none⟩,
         ⟨some 52, .op (.nilCheck (.t 45)), none⟩,
         ⟨some 53, .op (.fieldAddr 0 (.t 52)), none⟩,
         ⟨none, .op (.st 1 (.t 53) (.t 51)), none⟩]) (
       .seq (
        .reg [4] [
          ⟨some 54, .op (.mv (.t 5)), none⟩,
          ⟨some 4, .op (.mv (.t 54)), none⟩]) (
        .ret)))))))
theorem cf25 : compF Tryd.prog Tryd.f25 h25 = some (ac25, rs25) := by kernel_rfl

/-! (*mailcoach/mailcoachref01.Reader).Text params 1 -/
def h26 : Hints := ⟨[(4, [2]), (3, [3]), (2, [0, 3, 15]), (1, [0, 3]), (0, [0])], [], []⟩
def rs26 : List ARes := [.t 2]
def ac26 : ACode :=
 .seq (
  .reg [0] [
    ⟨some 2, .op (.mv (.c (.str ⟨#[]⟩))), none⟩]) (
  .seq (
   .reg [0, 3] [
     ⟨some 4, .op (.mv (.t 0)), none⟩,
     ⟨some 5, .call (.c (.fn 41 [] [])) [(.t 4)], none⟩,
     ⟨some 3, .op (.mv (.t 5)), none⟩]) (
   .seq (
    .seq (
     .reg [0, 3, 15] [
       ⟨some 6, .op (.mv (.t 0)), none⟩,
       ⟨some 7, .op (.nilCheck (.t 6)), none⟩,
       ⟨some 8, .op (.fieldAddr 1 (.t 7)), none⟩,
       ⟨some 9, .op (.ld1 (.t 8)), none⟩,
       ⟨some 10, .op (.bin .eql (.t 9) (.c (.int .i64 0))), none⟩,
       ⟨some 11, .op (.mv (.t 10)), none⟩,
       ⟨some 12, .op (.mv (.t 3)), some (11, true)⟩,
       ⟨some 13, .call (.c (.fn 42 [] [])) [(.t 12)], some (11, true)⟩,
       ⟨some 14, .op (.un .not (.t 13)), some (11, true)⟩,
       ⟨some 15, .pick (.t 11) (.t 14) (.c (.bool false)), none⟩]) (
     .cond (.t 15) (
      .reg [3] [
        ⟨some 16, .op (.mv (.t 0)), none⟩,
        ⟨some 17, .op (.nilCheck (.t 16)), none⟩,
        ⟨some 18, .op (.fieldAddr 1 (.t 17)), none⟩,
        ⟨none, .op (.st 1 (.t 18) (.c (.int .i64 6))), none⟩]) (
      .skip))) (
    .seq (
     .reg [2] [
       ⟨some 19, .op (.mv (.t 3)), none⟩,
       ⟨some 20, .op (.bytesStr (.t 19)), none⟩,
       ⟨some 2, .op (.mv (.t 20)), none⟩]) (
     .ret))))
theorem cf26 : compF Tryd.prog Tryd.f26 h26 = some (ac26, rs26) := by kernel_rfl

/-! (*mailcoach/mailcoachref01.Reader).Fail params 2 -/
def h27 : Hints := ⟨[(1, []), (0, [0, 1, 8])], [], []⟩
def rs27 : List ARes := []
def ac27 : ACode :=
 .seq (
  .reg [0, 1, 8] [
    ⟨some 4, .op (.mv (.t 0)), none⟩,
    ⟨some 5, .op (.nilCheck (.t 4)), none⟩,
    ⟨some 6, .op (.fieldAddr 1 (.t 5)), none⟩,
    ⟨some 7, .op (.ld1 (.t 6)), none⟩,
    ⟨some 8, .op (.bin .eql (.t 7) (.c (.int .i64 0))), none⟩]) (
  .cond (.t 8) (
   .reg [] [
     ⟨some 9, .op (.mv (.t 0)), none⟩,
     ⟨some 10, .op (.mv (.t 1)), none⟩,
     ⟨some 11, .op (.nilCheck (.t 9)), none⟩,
     ⟨some 12, .op (.fieldAddr 1 (.t 11)), none⟩,
     ⟨none, .op (.st 1 (.t 12) (.t 10)), none⟩]) (
   .skip))
theorem cf27 : compF Tryd.prog Tryd.f27 h27 = some (ac27, rs27) := by kernel_rfl

/-! mailcoach/pack.Read$1 params 1 -/
def h28 : Hints := ⟨[(4, []), (7, []), (6, [0, 2]), (2, []), (1, [3]), (5, [0, 4, 8, 9]), (3, [0, 4, 6]), (0, [0, 4])], [], []⟩
def rs28 : List ARes := []
def ac28 : ACode :=
 .seq (
  .reg [0, 4] [
    ⟨some 4, .op (.stuck), none⟩]) (
  .block 0 (
   .seq (
    .reg [0, 4, 6] [
      ⟨some 6, .op (.stuck), none⟩]) (
    .cond (.t 6) (
     .reg [] [
       ⟨some 1, .op (.mv (.t 4)), none⟩]) (
     .seq (
      .reg [0, 4, 8, 9] [
        ⟨some 7, .op (.stuck), none⟩,
        ⟨some 8, .op (.extract (.t 7) 1), none⟩,
        ⟨some 9, .op (.extract (.t 7) 0), none⟩]) (
      .cond (.t 8) (
       .seq (
        .reg [0, 2] [
          ⟨some 2, .op (.alloc [.int .i64 0]), none⟩,
          ⟨none, .op (.st 1 (.t 2) (.t 9)), none⟩]) (
        .reg [] [
          ⟨some 10, .op (.fieldAddr 0 (.t 2)), none⟩,
          ⟨some 11, .op (.ld1 (.t 10)), none⟩,
          ⟨none, .op (.st 1 (.t 0) (.t 11)), none⟩])) (
       .seq (
        .reg [3] [
          ⟨some 3, .op (.mv (.t 4)), none⟩]) (
        .reg [] [
          ⟨some 5, .op (.mv (.t 3)), none⟩,
          ⟨none, .panic (.t 5), none⟩])))))))
theorem cf28 : compF Tryd.prog Tryd.f28 h28 = some (ac28, rs28) := by kernel_rfl

/-! (*mailcoach/pack.Reader).U8 params 1 -/
def h29 : Hints := ⟨[(1, [2]), (0, [0])], [], []⟩
def rs29 : List ARes := [.t 2]
def ac29 : ACode :=
 .seq (
  .reg [0] [
    ⟨some 2, .op (.mv (.c (.int .u8 0))), none⟩]) (
  .seq (
   .reg [2] [
     ⟨some 3, .op (.mv (.t 0)), none⟩,
     ⟨some 4, .call (.c (.fn 43 [] [])) [(.t 3), (.c (.int .u64 1))], none⟩,
     ⟨some 5, .op (.toInt .u8 (.t 4)), none⟩,
     ⟨some 2, .op (.mv (.t 5)), none⟩]) (
   .ret))
theorem cf29 : compF Tryd.prog Tryd.f29 h29 = some (ac29, rs29) := by kernel_rfl

/-! (*mailcoach/pack.Reader).Text params 1 -/
def h30 : Hints := ⟨[(4, [2]), (3, [3]), (2, [3, 8]), (1, [3]), (0, [0])], [], []⟩
def rs30 : List ARes := [.t 2]
def ac30 : ACode :=
 .seq (
  .reg [0] [
    ⟨some 2, .op (.mv (.c (.str ⟨#[]⟩))), none⟩]) (
  .seq (
   .reg [3] [
     ⟨some 4, .op (.mv (.t 0)), none⟩,
     ⟨some 5, .call (.c (.fn 44 [] [])) [(.t 4)], none⟩,
     ⟨some 3, .op (.mv (.t 5)), none⟩]) (
   .seq (
    .seq (
     .reg [3, 8] [
       ⟨some 6, .op (.mv (.t 3)), none⟩,
       ⟨some 7, .call (.c (.fn 42 [] [])) [(.t 6)], none⟩,
       ⟨some 8, .op (.un .not (.t 7)), none⟩]) (
     .cond (.t 8) (
      .reg [3] [
        ⟨some 9, .op (.build [.int .i64 0] [(0, 1, (.c (.int .i64 6)))]), none⟩,
        ⟨some 10, .op (.mkIface 74 (.t 9)), none⟩,
        ⟨none, .panic (.t 10), none⟩]) (
      .skip))) (
    .seq (
     .reg [2] [
       ⟨some 11, .op (.mv (.t 3)), none⟩,
       ⟨some 12, .op (.bytesStr (.t 11)), none⟩,
       ⟨some 2, .op (.mv (.t 12)), none⟩]) (
     .ret))))
theorem cf30 : compF Tryd.prog Tryd.f30 h30 = some (ac30, rs30) := by kernel_rfl

/-! (*mailcoach/pack.Reader).U64 params 1 -/
def h31 : Hints := ⟨[(1, [2]), (0, [0])], [], []⟩
def rs31 : List ARes := [.t 2]
def ac31 : ACode :=
 .seq (
  .reg [0] [
    ⟨some 2, .op (.mv (.c (.int .u64 0))), none⟩]) (
  .seq (
   .reg [2] [
     ⟨some 3, .op (.mv (.t 0)), none⟩,
     ⟨some 4, .call (.c (.fn 43 [] [])) [(.t 3), (.c (.int .u64 8))], none⟩,
     ⟨some 2, .op (.mv (.t 4)), none⟩]) (
   .ret))
theorem cf31 : compF Tryd.prog Tryd.f31 h31 = some (ac31, rs31) := by kernel_rfl

/-! (*mailcoach/pack.Reader).Fail params 2 -/
def h32 : Hints := ⟨[(1, []), (0, [1, 5])], [], []⟩
def rs32 : List ARes := []
def ac32 : ACode :=
 .seq (
  .reg [1, 5] [
    ⟨some 4, .op (.mv (.t 1)), none⟩,
    ⟨some 5, .op (.bin .neq (.t 4) (.c (.int .i64 0))), none⟩]) (
  .cond (.t 5) (
   .reg [] [
     ⟨some 6, .op (.mv (.t 1)), none⟩,
     ⟨some 7, .op (.build [.int .i64 0] [(0, 1, (.t 6))]), none⟩,
     ⟨some 8, .op (.mkIface 74 (.t 7)), none⟩,
     ⟨none, .panic (.t 8), none⟩]) (
   .skip))
theorem cf32 : compF Tryd.prog Tryd.f32 h32 = some (ac32, rs32) := by kernel_rfl

/-! slices.SortedFunc[mailcoach/api.Line] params 2 -/
def h33 : Hints := ⟨[(3, [4]), (2, [5]), (1, [1, 5]), (0, [0, 1])], [], []⟩
def rs33 : List ARes := [.t 4]
def ac33 : ACode :=
 .seq (
  .reg [0, 1] [
    ⟨some 4, .op (.mv (.c (.nilsl))), none⟩]) (
  .seq (
   .reg [1, 5] [
     ⟨some 6, .op (.mv (.t 0)), none⟩,
     ⟨some 7, .call (.c (.fn 45 [] [])) [(.t 6)], none⟩,
     ⟨some 5, .op (.mv (.t 7)), none⟩]) (
   .seq (
    .reg [5] [
      ⟨some 8, .op (.mv (.t 5)), none⟩,
      ⟨some 9, .op (.mv (.t 1)), none⟩,
      ⟨some 10, .call (.c (.fn 46 [] [])) [(.t 8), (.t 9)], none⟩]) (
    .seq (
     .reg [4] [
       ⟨some 11, .op (.mv (.t 5)), none⟩,
       ⟨some 4, .op (.mv (.t 11)), none⟩]) (
     .ret))))
theorem cf33 : compF Tryd.prog Tryd.f33 h33 = some (ac33, rs33) := by kernel_rfl

/-! maps.Values[map[string]mailcoach/api.Line,string,mailcoach/api.Line] params 1 -/
def h34 : Hints := ⟨[(1, [2]), (0, [1])], [], []⟩
def rs34 : List ARes := [.t 2]
def ac34 : ACode :=
 .seq (
  .reg [1] [
    ⟨some 1, .op (.box (.t 0)), none⟩,
    ⟨some 2, .op (.mv (.c (.nilfn))), none⟩]) (
  .seq (
   .reg [2] [
     ⟨some 3, .op (.mkfn 47 [] [(.t 1)]), none⟩,
     ⟨some 2, .op (.mv (.t 3)), none⟩]) (
   .ret))
theorem cf34 : compF Tryd.prog Tryd.f34 h34 = some (ac34, rs34) := by kernel_rfl

/-! (*mailcoach/dedup.Table).All$1 params 2 -/
def h35 : Hints := ⟨[(1, [4]), (0, [2, 3])], [], []⟩
def rs35 : List ARes := [.t 4]
def ac35 : ACode :=
 .seq (
  .reg [2, 3] [
    ⟨some 2, .op (.box (.t 0)), none⟩,
    ⟨some 3, .op (.box (.t 1)), none⟩,
    ⟨some 4, .op (.mv (.c (.int .i64 0))), none⟩]) (
  .seq (
   .reg [4] [
     ⟨some 5, .op (.fieldAddr 0 (.t 2)), none⟩,
     ⟨some 6, .op (.ld1 (.t 5)), none⟩,
     ⟨some 7, .op (.fieldAddr 0 (.t 3)), none⟩,
     ⟨some 8, .op (.ld1 (.t 7)), none⟩,
     ⟨some 9, .call (.c (.fn 36 [] [])) [(.t 6), (.t 8)], none⟩,
     ⟨some 4, .op (.mv (.t 9)), none⟩]) (
   .ret))
theorem cf35 : compF Tryd.prog Tryd.f35 h35 = some (ac35, rs35) := by kernel_rfl

/-! cmp.Compare[string] params 2 -/
def h36 : Hints := ⟨[(13, [4]), (12, [4]), (11, [19]), (10, [4]), (9, [0, 1, 16]), (8, [4]), (7, [0, 1, 13]), (6, [4]), (5, [4]), (4, [12]), (3, [0, 1, 6, 11]), (2, [0, 1, 5, 6]), (1, [0, 1, 5]), (0, [0, 1])], [], []⟩
def rs36 : List ARes := [.t 4]
def ac36 : ACode :=
 .seq (
  .reg [0, 1] [
    ⟨some 4, .op (.mv (.c (.int .i64 0))), none⟩]) (
  .seq (
   .reg [0, 1, 5] [
     ⟨some 7, .op (.mv (.t 0)), none⟩,
     ⟨some 8, .call (.c (.fn 48 [] [])) [(.t 7)], none⟩,
     ⟨some 5, .op (.mv (.t 8)), none⟩]) (
   .seq (
    .reg [0, 1, 5, 6] [
      ⟨some 9, .op (.mv (.t 1)), none⟩,
      ⟨some 10, .call (.c (.fn 48 [] [])) [(.t 9)], none⟩,
      ⟨some 6, .op (.mv (.t 10)), none⟩]) (
    .seq (
     .seq (
      .reg [0, 1, 6, 11] [
        ⟨some 11, .op (.mv (.t 5)), none⟩]) (
      .cond (.t 11) (
       .seq (
        .seq (
         .reg [12] [
           ⟨some 12, .op (.mv (.t 6)), none⟩]) (
         .cond (.t 12) (
          .seq (
           .reg [4] [
             ⟨some 4, .op (.mv (.c (.int .i64 0))), none⟩]) (
           .ret)) (
          .skip))) (
        .seq (
         .reg [4] [
           ⟨some 4, .op (.mv (.c (.int .i64 (-1)))), none⟩]) (
         .ret))) (
       .skip))) (
     .seq (
      .seq (
       .reg [0, 1, 13] [
         ⟨some 13, .op (.mv (.t 6)), none⟩]) (
       .cond (.t 13) (
        .seq (
         .reg [4] [
           ⟨some 4, .op (.mv (.c (.int .i64 1))), none⟩]) (
         .ret)) (
        .skip))) (
      .seq (
       .seq (
        .reg [0, 1, 16] [
          ⟨some 14, .op (.mv (.t 0)), none⟩,
          ⟨some 15, .op (.mv (.t 1)), none⟩,
          ⟨some 16, .op (.bin .lss (.t 14) (.t 15)), none⟩]) (
        .cond (.t 16) (
         .seq (
          .reg [4] [
            ⟨some 4, .op (.mv (.c (.int .i64 (-1)))), none⟩]) (
          .ret)) (
         .skip))) (
       .seq (
        .seq (
         .reg [19] [
           ⟨some 17, .op (.mv (.t 0)), none⟩,
           ⟨some 18, .op (.mv (.t 1)), none⟩,
           ⟨some 19, .op (.bin .gtr (.t 17) (.t 18)), none⟩]) (
         .cond (.t 19) (
          .seq (
           .reg [4] [
             ⟨some 4, .op (.mv (.c (.int .i64 1))), none⟩]) (
           .ret)) (
          .skip))) (
        .seq (
         .reg [4] [
           ⟨some 4, .op (.mv (.c (.int .i64 0))), none⟩]) (
         .ret))))))))
theorem cf36 : compF Tryd.prog Tryd.f36 h36 = some (ac36, rs36) := by kernel_rfl

/-! (*mailcoach/pack.Writer).U8 params 2 -/
def h37 : Hints := ⟨[(0, [])], [], []⟩
def rs37 : List ARes := []
def ac37 : ACode :=
 .reg [] [
   ⟨some 4, .op (.mv (.t 0)), none⟩,
   ⟨some 5, .op (.mv (.t 1)), none⟩,
   ⟨some 6, .op (.toInt .u64 (.t 5)), none⟩,
   ⟨some 7, .call (.c (.fn 49 [] [])) [(.t 4), (.t 6), (.c (.int .i64 1))], none⟩]
theorem cf37 : compF Tryd.prog Tryd.f37 h37 = some (ac37, rs37) := by kernel_rfl

/-! (*mailcoach/pack.Writer).Text params 2 -/
def h38 : Hints := ⟨[(0, [])], [], []⟩
def rs38 : List ARes := []
def ac38 : ACode :=
 .reg [] [
   ⟨some 4, .op (.mv (.t 0)), none⟩,
   ⟨some 5, .op (.mv (.t 1)), none⟩,
   ⟨some 6, .op (.strBytes (.t 5)), none⟩,
   ⟨some 7, .call (.c (.fn 50 [] [])) [(.t 4), (.t 6)], none⟩]
theorem cf38 : compF Tryd.prog Tryd.f38 h38 = some (ac38, rs38) := by kernel_rfl

/-! (*mailcoach/pack.Writer).U64 params 2 -/
def h39 : Hints := ⟨[(0, [])], [], []⟩
def rs39 : List ARes := []
def ac39 : ACode :=
 .reg [] [
   ⟨some 4, .op (.mv (.t 0)), none⟩,
   ⟨some 5, .op (.mv (.t 1)), none⟩,
   ⟨some 6, .call (.c (.fn 49 [] [])) [(.t 4), (.t 5), (.c (.int .i64 8))], none⟩]
theorem cf39 : compF Tryd.prog Tryd.f39 h39 = some (ac39, rs39) := by kernel_rfl

/-! slices.Clone[[]byte,byte] params 1 -/
def h40 : Hints := ⟨[(3, [2]), (2, [2]), (1, [0, 4]), (0, [0])], [], []⟩
def rs40 : List ARes := [.t 2]
def ac40 : ACode :=
 .seq (
  .reg [0] [
    ⟨some 2, .op (.mv (.c (.nilsl))), none⟩]) (
  .seq (
   .seq (
    .reg [0, 4] [
      ⟨some 3, .op (.mv (.t 0)), none⟩,
      ⟨some 4, .op (.eqn 1 false (.t 3) (.c (.nilsl))), none⟩]) (
    .cond (.t 4) (
     .seq (
      .reg [2] [
        ⟨some 2, .op (.mv (.c (.nilsl))), none⟩]) (
      .ret)) (
     .skip))) (
   .seq (
    .reg [2] [
      ⟨some 5, .op (.buildSl 1 [.int .u8 0] 0 []), none⟩,
      ⟨some 6, .op (.mv (.t 0)), none⟩,
      ⟨some 7, .op (.append 1 1 (.t 5) (.t 6)), none⟩,
      ⟨some 2, .op (.mv (.t 7)), none⟩]) (
    .ret)))
theorem cf40 : compF Tryd.prog Tryd.f40 h40 = some (ac40, rs40) := by kernel_rfl

/-! (*mailcoach/mailcoachref01.Reader).Bytes params 1 -/
def h41 : Hints := ⟨[(8, [2]), (7, [4]), (6, [0, 3, 4]), (5, [2]), (4, [0, 3, 29]), (3, [0, 3]), (2, [0, 3, 21]), (1, [0, 3]), (0, [0])], [], []⟩
def rs41 : List ARes := [.t 2]
def ac41 : ACode :=
 .seq (
  .reg [0] [
    ⟨some 2, .op (.mv (.c (.nilsl))), none⟩]) (
  .seq (
   .reg [0, 3] [
     ⟨some 5, .op (.mv (.t 0)), none⟩,
     ⟨some 6, .call (.c (.fn 25 [] [])) [(.t 5), (.c (.int .i64 4))], none⟩,
     ⟨some 3, .op (.mv (.t 6)), none⟩]) (
   .seq (
    .seq (
     .reg [0, 3, 21] [
       ⟨some 7, .op (.mv (.t 0)), none⟩,
       ⟨some 8, .op (.nilCheck (.t 7)), none⟩,
       ⟨some 9, .op (.fieldAddr 1 (.t 8)), none⟩,
       ⟨some 10, .op (.ld1 (.t 9)), none⟩,
       ⟨some 11, .op (.bin .eql (.t 10) (.c (.int .i64 0))), none⟩,
       ⟨some 12, .op (.mv (.t 11)), none⟩,
       ⟨some 13, .op (.mv (.t 3)), some (12, true)⟩,
       ⟨some 14, .op (.mv (.t 0)), some (12, true)⟩,
       ⟨some 15, .op (.nilCheck (.t 14)), some (12, true)⟩,
       ⟨some 16, .op (.fieldAddr 0 (.t 15)), some (12, true)⟩,
       ⟨some 17, .op (.ld1 (.t 16)), some (12, true)⟩,
       ⟨some 18, .op (.len 1 (.t 17)), some (12, true)⟩,
       ⟨some 19, .op (.toInt .u64 (.t 18)), some (12, true)⟩,
       ⟨some 20, .op (.bin .gtr (.t 13) (.t 19)), some (12, true)⟩,
       ⟨some 21, .pick (.t 12) (.t 20) (.c (.bool false)), none⟩]) (
     .cond (.t 21) (
      .reg [0, 3] [
        ⟨some 22, .op (.mv (.t 0)), none⟩,
        ⟨some 23, .op (.nilCheck (.t 22)), none⟩,
        ⟨some 24, .op (.fieldAddr 1 (.t 23)), none⟩,
        ⟨none, .op (.st 1 (.t 24) (.c (.int .i64 4))), none⟩]) (
      .skip))) (
    .seq (
     .seq (
      .reg [0, 3, 29] [
        ⟨some 25, .op (.mv (.t 0)), none⟩,
        ⟨some 26, .op (.nilCheck (.t 25)), none⟩,
        ⟨some 27, .op (.fieldAddr 1 (.t 26)), none⟩,
        ⟨some 28, .op (.ld1 (.t 27)), none⟩,
        ⟨some 29, .op (.bin .neq (.t 28) (.c (.int .i64 0))), none⟩]) (
      .cond (.t 29) (
       .seq (
        .reg [2] [
          ⟨some 2, .op (.mv (.c (.nilsl))), none⟩]) (
        .ret)) (
       .skip))) (
     .seq (
      .reg [0, 3, 4] [
        ⟨some 30, .op (.mv (.t 0)), none⟩,
        ⟨some 31, .op (.nilCheck (.t 30)), none⟩,
        ⟨some 32, .op (.fieldAddr 0 (.t 31)), none⟩,
        ⟨some 33, .op (.ld1 (.t 32)), none⟩,
        ⟨some 34, .op (.mv (.t 3)), none⟩,
        ⟨some 35, .op (.slice 1 (.t 33) none (some (.t 34)) none), none⟩,
        ⟨some 4, .op (.mv (.t 35)), none⟩]) (
      .seq (
       .reg [4] [
         ⟨some 36, .op (.mv (.t 0)), none⟩,
         ⟨some 37, .op (.mv (.t 0)), none⟩,
         ⟨some 38, .op (.nilCheck (.t 37)), none⟩,
         ⟨some 39, .op (.fieldAddr 0 (.t 38)), none⟩,
         ⟨some 40, .op (.ld1 (.t 39)), none⟩,
         ⟨some 41, .op (.mv (.t 3)), none⟩,
         ⟨some 42, .op (.slice 1 (.t 40) (some (.t 41)) none none), none⟩,
         ⟨some 43, .op (.nilCheck (.t 36)), none⟩,
         ⟨some 44, .op (.fieldAddr 0 (.t 43)), none⟩,
         ⟨none, .op (.st 1 (.t 44) (.t 42)), none⟩]) (
       .seq (
        .reg [2] [
          ⟨some 45, .op (.mv (.t 4)), none⟩,
          ⟨some 2, .op (.mv (.t 45)), none⟩]) (
        .ret)))))))
theorem cf41 : compF Tryd.prog Tryd.f41 h41 = some (ac41, rs41) := by kernel_rfl

/-! unicode/utf8.Valid params 1 -/
def h42 : Hints := ⟨[(29, [2]), (20, [0]), (19, [2]), (18, [0, 103]), (24, [0]), (23, [2]), (22, [0, 138]), (28, [0]), (27, [2]), (26, [0, 185]), (16, [2]), (25, [0, 6, 141]), (21, [0, 6, 82, 106]), (17, [0, 6, 82, 83]), (15, [0, 6, 82]), (14, [0, 5, 6]), (13, [0, 4, 5]), (12, [0, 4]), (11, [0]), (10, [0, 69]), (9, [0]), (8, [0, 46]), (7, [0]), (6, [0, 31]), (5, [0]), (4, [0, 3, 20]), (3, [0, 3]), (2, [0, 15]), (1, [0]), (0, [0])], [(10, [0]), (2, [0])], [(8, [(0, []), (1, []), (2, []), (3, []), (4, []), (6, []), (7, []), (5, [6]), (8, []), (9, []), (10, []), (11, []), (12, [])]), (10, [(0, []), (1, []), (2, []), (3, []), (4, []), (6, []), (7, []), (10, []), (11, []), (13, []), (14, []), (5, [6, 8, 10]), (8, [8, 10]), (9, []), (12, [10]), (15, []), (16, []), (17, []), (18, []), (19, []), (20, [])]), (18, [(0, []), (1, []), (2, []), (3, []), (4, []), (5, []), (6, []), (7, []), (8, []), (9, []), (10, []), (11, []), (12, []), (13, []), (14, []), (15, []), (16, []), (17, []), (18, [])]), (22, [(0, []), (1, []), (2, []), (3, []), (4, []), (5, []), (6, []), (7, []), (8, []), (9, []), (10, []), (11, []), (12, []), (13, []), (14, []), (15, []), (16, []), (17, []), (18, []), (19, []), (20, []), (21, []), (22, []), (23, []), (24, []), (25, []), (26, []), (27, []), (28, []), (29, []), (30, [])]), (26, [(0, []), (1, []), (2, []), (3, []), (4, []), (5, []), (6, []), (7, []), (8, []), (9, []), (10, []), (11, []), (12, []), (13, []), (14, []), (15, []), (16, []), (17, []), (18, []), (19, []), (20, []), (21, []), (22, []), (23, []), (24, []), (25, []), (26, []), (27, []), (28, []), (29, []), (30, []), (31, []), (32, []), (33, []), (34, []), (35, []), (36, []), (37, []), (38, []), (39, []), (40, []), (41, []), (42, [])])]⟩
def rs42 : List ARes := [.t 2]
def ac42 : ACode :=
 .seq (
  .reg [0] [
    ⟨some 2, .op (.mv (.c (.bool false))), none⟩]) (
  .seq (
   .reg [0] [
     ⟨some 7, .op (.mv (.t 0)), none⟩,
     ⟨some 8, .op (.mv (.t 0)), none⟩,
     ⟨some 9, .op (.len 1 (.t 8)), none⟩,
     ⟨some 10, .op (.mv (.t 0)), none⟩,
     ⟨some 11, .op (.len 1 (.t 10)), none⟩,
     ⟨some 12, .op (.slice 1 (.t 7) none (some (.t 9)) (some (.t 11))), none⟩,
     ⟨some 0, .op (.mv (.t 12)), none⟩]) (
   .seq (
    .block 0 (
     .loop [0] (
      .seq (
       .seq (
        .reg [0, 15] [
          ⟨some 13, .op (.mv (.t 0)), none⟩,
          ⟨some 14, .op (.len 1 (.t 13)), none⟩,
          ⟨some 15, .op (.bin .gtr (.t 14) (.c (.int .i64 0))), none⟩]) (
        .cond (.t 15) (
         .skip) (
         .exit 0))) (
       .block 1 (
        .seq (
         .reg [0, 3] [
           ⟨some 16, .op (.mv (.t 0)), none⟩,
           ⟨some 17, .op (.idxAddr 1 (.t 16) (.c (.int .i64 0))), none⟩,
           ⟨some 18, .op (.ld1 (.t 17)), none⟩,
           ⟨some 3, .op (.mv (.t 18)), none⟩]) (
         .seq (
          .seq (
           .reg [0, 3, 20] [
             ⟨some 19, .op (.mv (.t 3)), none⟩,
             ⟨some 20, .op (.bin .lss (.t 19) (.c (.int .u8 128))), none⟩]) (
           .cond (.t 20) (
            .seq (
             .reg [0] [
               ⟨some 21, .op (.mv (.t 0)), none⟩,
               ⟨some 22, .op (.slice 1 (.t 21) (some (.c (.int .i64 1))) none none), none⟩,
               ⟨some 0, .op (.mv (.t 22)), none⟩]) (
             .seq (
              .seq (
               .reg [0, 31] [
                 ⟨some 23, .op (.mv (.t 0)), none⟩,
                 ⟨some 24, .op (.len 1 (.t 23)), none⟩,
                 ⟨some 25, .op (.bin .gtr (.t 24) (.c (.int .i64 8))), none⟩,
                 ⟨some 26, .op (.mv (.t 25)), none⟩,
                 ⟨some 27, .op (.mv (.t 0)), some (26, true)⟩,
                 ⟨some 28, .call (.c (.fn 51 [] [])) [(.t 27)], some (26, true)⟩,
                 ⟨some 29, .op (.bin .and (.t 28) (.c (.int .u64 9259542123273814144))), some (26, true)⟩,
                 ⟨some 30, .op (.bin .eql (.t 29) (.c (.int .u64 0))), some (26, true)⟩,
                 ⟨some 31, .pick (.t 26) (.t 30) (.c (.bool false)), none⟩]) (
               .cond (.t 31) (
                .seq (
                 .reg [0] [
                   ⟨some 32, .op (.mv (.t 0)), none⟩,
                   ⟨some 33, .op (.slice 1 (.t 32) (some (.c (.int .i64 8))) none none), none⟩,
                   ⟨some 0, .op (.mv (.t 33)), none⟩]) (
                 .seq (
                  .dreg [0, 46] [
                    (⟨some 34, .op (.mv (.t 0)), none⟩, []),
                    (⟨some 35, .op (.len 1 (.t 34)), none⟩, []),
                    (⟨some 36, .op (.bin .gtr (.t 35) (.c (.int .i64 16))), none⟩, []),
                    (⟨some 37, .op (.mv (.t 36)), none⟩, []),
                    (⟨some 38, .op (.mv (.t 0)), some (37, true)⟩, []),
                    (⟨some 40, .op (.mv (.t 0)), some (37, true)⟩, []),
                    (⟨some 41, .op (.slice 1 (.t 40) (some (.c (.int .i64 8))) none none), some (37, true)⟩, []),
                    (⟨some 39, .call (.c (.fn 51 [] [])) [(.t 38)], some (37, true)⟩, [6]),
                    (⟨some 42, .call (.c (.fn 51 [] [])) [(.t 41)], some (37, true)⟩, []),
                    (⟨some 43, .op (.bin .or (.t 39) (.t 42)), some (37, true)⟩, []),
                    (⟨some 44, .op (.bin .and (.t 43) (.c (.int .u64 9259542123273814144))), some (37, true)⟩, []),
                    (⟨some 45, .op (.bin .eql (.t 44) (.c (.int .u64 0))), some (37, true)⟩, []),
                    (⟨some 46, .pick (.t 37) (.t 45) (.c (.bool false)), none⟩, [])]) (
                  .cond (.t 46) (
                   .seq (
                    .reg [0] [
                      ⟨some 47, .op (.mv (.t 0)), none⟩,
                      ⟨some 48, .op (.slice 1 (.t 47) (some (.c (.int .i64 16))) none none), none⟩,
                      ⟨some 0, .op (.mv (.t 48)), none⟩]) (
                    .block 2 (
                     .loop [0] (
                      .seq (
                       .seq (
                        .dreg [0, 69] [
                          (⟨some 49, .op (.mv (.t 0)), none⟩, []),
                          (⟨some 50, .op (.len 1 (.t 49)), none⟩, []),
                          (⟨some 51, .op (.bin .gtr (.t 50) (.c (.int .i64 32))), none⟩, []),
                          (⟨some 52, .op (.mv (.t 51)), none⟩, []),
                          (⟨some 53, .op (.mv (.t 0)), some (52, true)⟩, []),
                          (⟨some 55, .op (.mv (.t 0)), some (52, true)⟩, []),
                          (⟨some 56, .op (.slice 1 (.t 55) (some (.c (.int .i64 8))) none none), some (52, true)⟩, []),
                          (⟨some 59, .op (.mv (.t 0)), some (52, true)⟩, []),
                          (⟨some 60, .op (.slice 1 (.t 59) (some (.c (.int .i64 16))) none none), some (52, true)⟩, []),
                          (⟨some 62, .op (.mv (.t 0)), some (52, true)⟩, []),
                          (⟨some 63, .op (.slice 1 (.t 62) (some (.c (.int .i64 24))) none none), some (52, true)⟩, []),
                          (⟨some 54, .call (.c (.fn 51 [] [])) [(.t 53)], some (52, true)⟩, [6, 8, 10]),
                          (⟨some 57, .call (.c (.fn 51 [] [])) [(.t 56)], some (52, true)⟩, [8, 10]),
                          (⟨some 58, .op (.bin .or (.t 54) (.t 57)), some (52, true)⟩, []),
                          (⟨some 61, .call (.c (.fn 51 [] [])) [(.t 60)], some (52, true)⟩, [10]),
                          (⟨some 64, .call (.c (.fn 51 [] [])) [(.t 63)], some (52, true)⟩, []),
                          (⟨some 65, .op (.bin .or (.t 61) (.t 64)), some (52, true)⟩, []),
                          (⟨some 66, .op (.bin .or (.t 58) (.t 65)), some (52, true)⟩, []),
                          (⟨some 67, .op (.bin .and (.t 66) (.c (.int .u64 9259542123273814144))), some (52, true)⟩, []),
                          (⟨some 68, .op (.bin .eql (.t 67) (.c (.int .u64 0))), some (52, true)⟩, []),
                          (⟨some 69, .pick (.t 52) (.t 68) (.c (.bool false)), none⟩, [])]) (
                        .cond (.t 69) (
                         .skip) (
                         .exit 2))) (
                       .block 3 (
                        .reg [0] [
                          ⟨some 70, .op (.mv (.t 0)), none⟩,
                          ⟨some 71, .op (.slice 1 (.t 70) (some (.c (.int .i64 32))) none none), none⟩,
                          ⟨some 0, .op (.mv (.t 71)), none⟩])))))) (
                   .skip)))) (
                .skip))) (
              .exit 1))) (
            .skip))) (
          .seq (
           .reg [0, 4] [
             ⟨some 72, .op (.mv (.t 3)), none⟩,
             ⟨some 73, .op (.idxArr 256 1 (.c (.iptr (gl 0))) (.t 72)), none⟩,
             ⟨some 74, .op (.ld1 (.t 73)), none⟩,
             ⟨some 4, .op (.mv (.t 74)), none⟩]) (
           .seq (
            .reg [0, 4, 5] [
              ⟨some 75, .op (.mv (.t 4)), none⟩,
              ⟨some 76, .op (.bin .and (.t 75) (.c (.int .u8 7))), none⟩,
              ⟨some 77, .op (.toInt .i64 (.t 76)), none⟩,
              ⟨some 5, .op (.mv (.t 77)), none⟩]) (
            .seq (
             .reg [0, 5, 6] [
               ⟨some 78, .op (.mv (.t 4)), none⟩,
               ⟨some 79, .op (.bin .shr (.t 78) (.c (.int .u64 4))), none⟩,
               ⟨some 80, .op (.idxArr 16 2 (.c (.iptr (gl 1))) (.t 79)), none⟩,
               ⟨some 81, .op (.ldn 2 (.t 80)), none⟩,
               ⟨some 6, .op (.alloc [.int .u8 0, .int .u8 0]), none⟩,
               ⟨none, .op (.st 2 (.t 6) (.t 81)), none⟩]) (
             .seq (
              .reg [0, 6, 82] [
                ⟨some 82, .op (.mv (.t 5)), none⟩]) (
              .block 4 (
               .seq (
                .reg [0, 6, 82, 83] [
                  ⟨some 84, .op (.bin .eql (.t 82) (.c (.int .i64 2))), none⟩,
                  ⟨some 83, .op (.mv (.t 84)), none⟩]) (
                .cond (.t 83) (
                 .seq (
                  .seq (
                   .dreg [0, 103] [
                     (⟨some 85, .op (.mv (.t 0)), none⟩, []),
                     (⟨some 86, .op (.len 1 (.t 85)), none⟩, []),
                     (⟨some 87, .op (.bin .lss (.t 86) (.c (.int .i64 2))), none⟩, []),
                     (⟨some 88, .op (.mv (.t 87)), none⟩, []),
                     (⟨some 89, .op (.mv (.t 0)), some (88, false)⟩, []),
                     (⟨some 90, .op (.idxAddr 1 (.t 89) (.c (.int .i64 1))), some (88, false)⟩, []),
                     (⟨some 91, .op (.ld1 (.t 90)), some (88, false)⟩, []),
                     (⟨some 92, .op (.fieldAddr 0 (.t 6)), some (88, false)⟩, []),
                     (⟨some 93, .op (.ld1 (.t 92)), some (88, false)⟩, []),
                     (⟨some 94, .op (.bin .lss (.t 91) (.t 93)), some (88, false)⟩, []),
                     (⟨some 95, .pick (.t 88) (.c (.bool true)) (.t 94), none⟩, []),
                     (⟨some 96, .op (.mv (.t 95)), none⟩, []),
                     (⟨some 97, .op (.fieldAddr 1 (.t 6)), some (96, false)⟩, []),
                     (⟨some 98, .op (.ld1 (.t 97)), some (96, false)⟩, []),
                     (⟨some 99, .op (.mv (.t 0)), some (96, false)⟩, []),
                     (⟨some 100, .op (.idxAddr 1 (.t 99) (.c (.int .i64 1))), some (96, false)⟩, []),
                     (⟨some 101, .op (.ld1 (.t 100)), some (96, false)⟩, []),
                     (⟨some 102, .op (.bin .lss (.t 98) (.t 101)), some (96, false)⟩, []),
                     (⟨some 103, .pick (.t 96) (.c (.bool true)) (.t 102), none⟩, [])]) (
                   .cond (.t 103) (
                    .seq (
                     .reg [2] [
                       ⟨some 2, .op (.mv (.c (.bool false))), none⟩]) (
                     .ret)) (
                    .skip))) (
                  .reg [0] [
                    ⟨some 104, .op (.mv (.t 0)), none⟩,
                    ⟨some 105, .op (.slice 1 (.t 104) (some (.c (.int .i64 2))) none none), none⟩,
                    ⟨some 0, .op (.mv (.t 105)), none⟩])) (
                 .seq (
                  .reg [0, 6, 82, 106] [
                    ⟨some 107, .op (.bin .eql (.t 82) (.c (.int .i64 3))), none⟩,
                    ⟨some 106, .op (.mv (.t 107)), none⟩]) (
                  .cond (.t 106) (
                   .seq (
                    .seq (
                     .dreg [0, 138] [
                       (⟨some 108, .op (.mv (.t 0)), none⟩, []),
                       (⟨some 109, .op (.len 1 (.t 108)), none⟩, []),
                       (⟨some 110, .op (.bin .lss (.t 109) (.c (.int .i64 3))), none⟩, []),
                       (⟨some 111, .op (.mv (.t 110)), none⟩, []),
                       (⟨some 112, .op (.mv (.t 0)), some (111, false)⟩, []),
                       (⟨some 113, .op (.idxAddr 1 (.t 112) (.c (.int .i64 1))), some (111, false)⟩, []),
                       (⟨some 114, .op (.ld1 (.t 113)), some (111, false)⟩, []),
                       (⟨some 115, .op (.fieldAddr 0 (.t 6)), some (111, false)⟩, []),
                       (⟨some 116, .op (.ld1 (.t 115)), some (111, false)⟩, []),
                       (⟨some 117, .op (.bin .lss (.t 114) (.t 116)), some (111, false)⟩, []),
                       (⟨some 118, .pick (.t 111) (.c (.bool true)) (.t 117), none⟩, []),
                       (⟨some 119, .op (.mv (.t 118)), none⟩, []),
                       (⟨some 120, .op (.fieldAddr 1 (.t 6)), some (119, false)⟩, []),
                       (⟨some 121, .op (.ld1 (.t 120)), some (119, false)⟩, []),
                       (⟨some 122, .op (.mv (.t 0)), some (119, false)⟩, []),
                       (⟨some 123, .op (.idxAddr 1 (.t 122) (.c (.int .i64 1))), some (119, false)⟩, []),
                       (⟨some 124, .op (.ld1 (.t 123)), some (119, false)⟩, []),
                       (⟨some 125, .op (.bin .lss (.t 121) (.t 124)), some (119, false)⟩, []),
                       (⟨some 126, .pick (.t 119) (.c (.bool true)) (.t 125), none⟩, []),
                       (⟨some 127, .op (.mv (.t 126)), none⟩, []),
                       (⟨some 128, .op (.mv (.t 0)), some (127, false)⟩, []),
                       (⟨some 129, .op (.idxAddr 1 (.t 128) (.c (.int .i64 2))), some (127, false)⟩, []),
                       (⟨some 130, .op (.ld1 (.t 129)), some (127, false)⟩, []),
                       (⟨some 131, .op (.bin .lss (.t 130) (.c (.int .u8 128))), some (127, false)⟩, []),
                       (⟨some 132, .pick (.t 127) (.c (.bool true)) (.t 131), none⟩, []),
                       (⟨some 133, .op (.mv (.t 132)), none⟩, []),
                       (⟨some 134, .op (.mv (.t 0)), some (133, false)⟩, []),
                       (⟨some 135, .op (.idxAddr 1 (.t 134) (.c (.int .i64 2))), some (133, false)⟩, []),
                       (⟨some 136, .op (.ld1 (.t 135)), some (133, false)⟩, []),
                       (⟨some 137, .op (.bin .lss (.c (.int .u8 191)) (.t 136)), some (133, false)⟩, []),
                       (⟨some 138, .pick (.t 133) (.c (.bool true)) (.t 137), none⟩, [])]) (
                     .cond (.t 138) (
                      .seq (
                       .reg [2] [
                         ⟨some 2, .op (.mv (.c (.bool false))), none⟩]) (
                       .ret)) (
                      .skip))) (
                    .reg [0] [
                      ⟨some 139, .op (.mv (.t 0)), none⟩,
                      ⟨some 140, .op (.slice 1 (.t 139) (some (.c (.int .i64 3))) none none), none⟩,
                      ⟨some 0, .op (.mv (.t 140)), none⟩])) (
                   .seq (
                    .reg [0, 6, 141] [
                      ⟨some 142, .op (.bin .eql (.t 82) (.c (.int .i64 4))), none⟩,
                      ⟨some 141, .op (.mv (.t 142)), none⟩]) (
                    .cond (.t 141) (
                     .seq (
                      .seq (
                       .dreg [0, 185] [
                         (⟨some 143, .op (.mv (.t 0)), none⟩, []),
                         (⟨some 144, .op (.len 1 (.t 143)), none⟩, []),
                         (⟨some 145, .op (.bin .lss (.t 144) (.c (.int .i64 4))), none⟩, []),
                         (⟨some 146, .op (.mv (.t 145)), none⟩, []),
                         (⟨some 147, .op (.mv (.t 0)), some (146, false)⟩, []),
                         (⟨some 148, .op (.idxAddr 1 (.t 147) (.c (.int .i64 1))), some (146, false)⟩, []),
                         (⟨some 149, .op (.ld1 (.t 148)), some (146, false)⟩, []),
                         (⟨some 150, .op (.fieldAddr 0 (.t 6)), some (146, false)⟩, []),
                         (⟨some 151, .op (.ld1 (.t 150)), some (146, false)⟩, []),
                         (⟨some 152, .op (.bin .lss (.t 149) (.t 151)), some (146, false)⟩, []),
                         (⟨some 153, .pick (.t 146) (.c (.bool true)) (.t 152), none⟩, []),
                         (⟨some 154, .op (.mv (.t 153)), none⟩, []),
                         (⟨some 155, .op (.fieldAddr 1 (.t 6)), some (154, false)⟩, []),
                         (⟨some 156, .op (.ld1 (.t 155)), some (154, false)⟩, []),
                         (⟨some 157, .op (.mv (.t 0)), some (154, false)⟩, []),
                         (⟨some 158, .op (.idxAddr 1 (.t 157) (.c (.int .i64 1))), some (154, false)⟩, []),
                         (⟨some 159, .op (.ld1 (.t 158)), some (154, false)⟩, []),
                         (⟨some 160, .op (.bin .lss (.t 156) (.t 159)), some (154, false)⟩, []),
                         (⟨some 161, .pick (.t 154) (.c (.bool true)) (.t 160), none⟩, []),
                         (⟨some 162, .op (.mv (.t 161)), none⟩, []),
                         (⟨some 163, .op (.mv (.t 0)), some (162, false)⟩, []),
                         (⟨some 164, .op (.idxAddr 1 (.t 163) (.c (.int .i64 2))), some (162, false)⟩, []),
                         (⟨some 165, .op (.ld1 (.t 164)), some (162, false)⟩, []),
                         (⟨some 166, .op (.bin .lss (.t 165) (.c (.int .u8 128))), some (162, false)⟩, []),
                         (⟨some 167, .pick (.t 162) (.c (.bool true)) (.t 166), none⟩, []),
                         (⟨some 168, .op (.mv (.t 167)), none⟩, []),
                         (⟨some 169, .op (.mv (.t 0)), some (168, false)⟩, []),
                         (⟨some 170, .op (.idxAddr 1 (.t 169) (.c (.int .i64 2))), some (168, false)⟩, []),
                         (⟨some 171, .op (.ld1 (.t 170)), some (168, false)⟩, []),
                         (⟨some 172, .op (.bin .lss (.c (.int .u8 191)) (.t 171)), some (168, false)⟩, []),
                         (⟨some 173, .pick (.t 168) (.c (.bool true)) (.t 172), none⟩, []),
                         (⟨some 174, .op (.mv (.t 173)), none⟩, []),
                         (⟨some 175, .op (.mv (.t 0)), some (174, false)⟩, []),
                         (⟨some 176, .op (.idxAddr 1 (.t 175) (.c (.int .i64 3))), some (174, false)⟩, []),
                         (⟨some 177, .op (.ld1 (.t 176)), some (174, false)⟩, []),
                         (⟨some 178, .op (.bin .lss (.t 177) (.c (.int .u8 128))), some (174, false)⟩, []),
                         (⟨some 179, .pick (.t 174) (.c (.bool true)) (.t 178), none⟩, []),
                         (⟨some 180, .op (.mv (.t 179)), none⟩, []),
                         (⟨some 181, .op (.mv (.t 0)), some (180, false)⟩, []),
                         (⟨some 182, .op (.idxAddr 1 (.t 181) (.c (.int .i64 3))), some (180, false)⟩, []),
                         (⟨some 183, .op (.ld1 (.t 182)), some (180, false)⟩, []),
                         (⟨some 184, .op (.bin .lss (.c (.int .u8 191)) (.t 183)), some (180, false)⟩, []),
                         (⟨some 185, .pick (.t 180) (.c (.bool true)) (.t 184), none⟩, [])]) (
                       .cond (.t 185) (
                        .seq (
                         .reg [2] [
                           ⟨some 2, .op (.mv (.c (.bool false))), none⟩]) (
                         .ret)) (
                        .skip))) (
                      .reg [0] [
                        ⟨some 186, .op (.mv (.t 0)), none⟩,
                        ⟨some 187, .op (.slice 1 (.t 186) (some (.c (.int .i64 4))) none none), none⟩,
                        ⟨some 0, .op (.mv (.t 187)), none⟩])) (
                     .seq (
                      .reg [2] [
                        ⟨some 2, .op (.mv (.c (.bool false))), none⟩]) (
                      .ret))))))))))))))))))) (
    .seq (
     .reg [2] [
       ⟨some 2, .op (.mv (.c (.bool true))), none⟩]) (
     .ret))))
theorem cf42 : compF Tryd.prog Tryd.f42 h42 = some (ac42, rs42) := by kernel_rfl

/-! (*mailcoach/pack.Reader).number params 2 -/
def h43 : Hints := ⟨[(7, [4]), (6, [5, 10, 11, 12]), (5, [5, 10, 11, 12]), (4, [5, 7, 10, 11, 12]), (3, [5, 10, 11, 12, 13]), (2, [5, 10, 11, 12]), (1, [0, 1, 5]), (0, [0, 1])], [(3, [5, 10, 11, 12])], []⟩
def rs43 : List ARes := [.t 4]
def ac43 : ACode :=
 .seq (
  .reg [0, 1] [
    ⟨some 4, .op (.mv (.c (.int .u64 0))), none⟩]) (
  .seq (
   .reg [0, 1, 5] [
     ⟨some 5, .op (.mv (.c (.int .u64 0))), none⟩]) (
   .seq (
    .seq (
     .reg [5, 10, 11, 12] [
       ⟨some 8, .op (.mv (.t 0)), none⟩,
       ⟨some 9, .op (.mv (.t 1)), none⟩,
       ⟨some 10, .call (.c (.fn 52 [] [])) [(.t 8), (.t 9)], none⟩,
       ⟨some 11, .op (.len 1 (.t 10)), none⟩,
       ⟨some 12, .op (.mv (.c (.int .i64 0))), none⟩]) (
     .block 0 (
      .loop [5, 10, 11, 12] (
       .seq (
        .reg [5, 10, 11, 12, 13] [
          ⟨some 13, .op (.bin .lss (.t 12) (.t 11)), none⟩]) (
        .seq (
         .cond (.t 13) (
          .skip) (
          .exit 0)) (
         .seq (
          .block 1 (
           .seq (
            .reg [5, 7, 10, 11, 12] [
              ⟨some 14, .op (.idxAddr 1 (.t 10) (.t 12)), none⟩,
              ⟨some 15, .op (.ld1 (.t 14)), none⟩,
              ⟨some 7, .op (.mv (.t 15)), none⟩]) (
            .reg [5, 10, 11, 12] [
              ⟨some 16, .op (.mv (.t 5)), none⟩,
              ⟨some 17, .op (.bin .shl (.t 16) (.c (.int .u64 8))), none⟩,
              ⟨some 18, .op (.mv (.t 7)), none⟩,
              ⟨some 19, .op (.toInt .u64 (.t 18)), none⟩,
              ⟨some 20, .op (.bin .or (.t 17) (.t 19)), none⟩,
              ⟨some 5, .op (.mv (.t 20)), none⟩]))) (
          .reg [5, 10, 11, 12] [
            ⟨some 21, .op (.bin .add (.t 12) (.c (.int .i64 1))), none⟩,
            ⟨some 12, .op (.mv (.t 21)), none⟩]))))))) (
    .seq (
     .reg [4] [
       ⟨some 22, .op (.mv (.t 5)), none⟩,
       ⟨some 4, .op (.mv (.t 22)), none⟩]) (
     .ret))))
theorem cf43 : compF Tryd.prog Tryd.f43 h43 = some (ac43, rs43) := by kernel_rfl

/-! (*mailcoach/pack.Reader).Bytes params 1 -/
def h44 : Hints := ⟨[(1, [2]), (0, [0])], [], []⟩
def rs44 : List ARes := [.t 2]
def ac44 : ACode :=
 .seq (
  .reg [0] [
    ⟨some 2, .op (.mv (.c (.nilsl))), none⟩]) (
  .seq (
   .reg [2] [
     ⟨some 3, .op (.mv (.t 0)), none⟩,
     ⟨some 4, .op (.mv (.t 0)), none⟩,
     ⟨some 5, .call (.c (.fn 43 [] [])) [(.t 4), (.c (.int .u64 4))], none⟩,
     ⟨some 6, .call (.c (.fn 52 [] [])) [(.t 3), (.t 5)], none⟩,
     ⟨some 7, .call (.c (.fn 40 [] [])) [(.t 6)], none⟩,
     ⟨some 2, .op (.mv (.t 7)), none⟩]) (
   .ret))
theorem cf44 : compF Tryd.prog Tryd.f44 h44 = some (ac44, rs44) := by kernel_rfl

/-! slices.Collect[mailcoach/api.Line] params 1 -/
def h45 : Hints := ⟨[(1, [2]), (0, [0])], [], []⟩
def rs45 : List ARes := [.t 2]
def ac45 : ACode :=
 .seq (
  .reg [0] [
    ⟨some 2, .op (.mv (.c (.nilsl))), none⟩]) (
  .seq (
   .reg [2] [
     ⟨some 3, .op (.mv (.t 0)), none⟩,
     ⟨some 4, .call (.c (.fn 53 [] [])) [(.c (.nilsl)), (.t 3)], none⟩,
     ⟨some 2, .op (.mv (.t 4)), none⟩]) (
   .ret))
theorem cf45 : compF Tryd.prog Tryd.f45 h45 = some (ac45, rs45) := by kernel_rfl

/-! maps.Values[map[string]mailcoach/api.Line,string,mailcoach/api.Line]$1 params 2 -/
def h47 : Hints := ⟨[(3, [0, 6, 14]), (2, [0, 4, 6]), (1, [0, 6, 8]), (0, [0, 6])], [(1, [0, 6])], []⟩
def rs47 : List ARes := []
def ac47 : ACode :=
 .seq (
  .reg [0, 6] [
    ⟨some 5, .op (.ld1 (.t 1)), none⟩,
    ⟨some 6, .op (.rangeM (.t 5)), none⟩]) (
  .block 0 (
   .loop [0, 6] (
    .seq (
     .reg [0, 6, 8] [
       ⟨some 7, .next (.t 6), none⟩,
       ⟨some 8, .op (.extract (.t 7) 0), none⟩]) (
     .seq (
      .cond (.t 8) (
       .skip) (
       .exit 0)) (
      .block 1 (
       .seq (
        .reg [0, 4, 6] [
          ⟨some 9, .op (.entryM (.t 6)), none⟩,
          ⟨some 10, .op (.extract (.t 9) 1), none⟩,
          ⟨some 4, .op (.alloc [.str ⟨#[]⟩, .int .u64 0, .int .u64 0, .int .u64 0, .int .u64 0]), none⟩,
          ⟨none, .op (.st 5 (.t 4) (.t 10)), none⟩]) (
        .seq (
         .reg [0, 6, 14] [
           ⟨some 11, .op (.mv (.t 0)), none⟩,
           ⟨some 12, .op (.ldn 5 (.t 4)), none⟩,
           ⟨some 13, .call (.t 11) [(.t 12)], none⟩,
           ⟨some 14, .op (.un .not (.t 13)), none⟩]) (
         .cond (.t 14) (
          .ret) (
          .skip)))))))))
theorem cf47 : compF Tryd.prog Tryd.f47 h47 = some (ac47, rs47) := by kernel_rfl

/-! cmp.isNaN[string] params 1 -/
def h48 : Hints := ⟨[(1, [2]), (0, [0])], [], []⟩
def rs48 : List ARes := [.t 2]
def ac48 : ACode :=
 .seq (
  .reg [0] [
    ⟨some 2, .op (.mv (.c (.bool false))), none⟩]) (
  .seq (
   .reg [2] [
     ⟨some 3, .op (.mv (.t 0)), none⟩,
     ⟨some 4, .op (.mv (.t 0)), none⟩,
     ⟨some 5, .op (.bin .neq (.t 3) (.t 4)), none⟩,
     ⟨some 2, .op (.mv (.t 5)), none⟩]) (
   .ret))
theorem cf48 : compF Tryd.prog Tryd.f48 h48 = some (ac48, rs48) := by kernel_rfl

/-! (*mailcoach/pack.Writer).number params 3 -/
def h49 : Hints := ⟨[(7, []), (6, [0, 2, 6, 21]), (5, [0, 1, 2, 6, 8]), (4, [0, 1, 2, 6, 8]), (3, [0, 1, 2, 6, 7, 8]), (2, [0, 1, 2, 6, 8, 9]), (1, [0, 1, 2, 6, 8]), (0, [0, 1, 2, 6])], [(2, [0, 1, 2, 6, 8])], [(7, [(0, []), (1, []), (2, []), (3, []), (4, []), (5, []), (6, []), (7, []), (8, []), (9, []), (10, []), (11, [])])]⟩
def rs49 : List ARes := []
def ac49 : ACode :=
 .seq (
  .reg [0, 1, 2, 6] [
    ⟨some 6, .op (.allocA 1 [.int .u8 0, .int .u8 0, .int .u8 0, .int .u8 0, .int .u8 0, .int .u8 0, .int .u8 0, .int .u8 0]), none⟩]) (
  .seq (
   .seq (
    .reg [0, 1, 2, 6, 8] [
      ⟨some 8, .op (.mv (.c (.int .i64 0))), none⟩]) (
    .block 0 (
     .loop [0, 1, 2, 6, 8] (
      .seq (
       .reg [0, 1, 2, 6, 8, 9] [
         ⟨some 9, .op (.bin .lss (.t 8) (.c (.int .i64 8))), none⟩]) (
       .seq (
        .cond (.t 9) (
         .skip) (
         .exit 0)) (
        .seq (
         .block 1 (
          .seq (
           .reg [0, 1, 2, 6, 7, 8] [
             ⟨some 10, .op (.mv (.t 8)), none⟩,
             ⟨some 7, .op (.mv (.t 10)), none⟩]) (
           .reg [0, 1, 2, 6, 8] [
             ⟨some 11, .op (.mv (.t 7)), none⟩,
             ⟨some 12, .op (.bin .sub (.c (.int .i64 7)) (.t 11)), none⟩,
             ⟨some 13, .op (.mv (.t 1)), none⟩,
             ⟨some 14, .op (.mv (.t 7)), none⟩,
             ⟨some 15, .op (.bin .mul (.c (.int .i64 8)) (.t 14)), none⟩,
             ⟨some 16, .op (.bin .shr (.t 13) (.t 15)), none⟩,
             ⟨some 17, .op (.toInt .u8 (.t 16)), none⟩,
             ⟨some 18, .op (.idxArr 8 1 (.t 6) (.t 12)), none⟩,
             ⟨none, .op (.st 1 (.t 18) (.t 17)), none⟩]))) (
         .reg [0, 1, 2, 6, 8] [
           ⟨some 19, .op (.bin .add (.t 8) (.c (.int .i64 1))), none⟩,
           ⟨some 8, .op (.mv (.t 19)), none⟩]))))))) (
   .seq (
    .reg [0, 2, 6, 21] [
      ⟨some 20, .op (.mv (.t 0)), none⟩,
      ⟨some 21, .op (.eqn 0 true (.t 20) (.c (.nilp))), none⟩]) (
    .cond (.t 21) (
     .dreg [] [
       (⟨some 22, .op (.mv (.t 0)), none⟩, []),
       (⟨some 23, .op (.mv (.t 0)), none⟩, []),
       (⟨some 24, .op (.nilCheck (.t 23)), none⟩, []),
       (⟨some 25, .op (.fieldAddr 0 (.t 24)), none⟩, []),
       (⟨some 26, .op (.ld1 (.t 25)), none⟩, []),
       (⟨some 27, .op (.mv (.t 2)), none⟩, []),
       (⟨some 28, .op (.bin .sub (.c (.int .i64 8)) (.t 27)), none⟩, []),
       (⟨some 29, .op (.sliceArr 8 1 (.t 6) (some (.t 28)) none none), none⟩, []),
       (⟨some 30, .op (.append 1 1 (.t 26) (.t 29)), none⟩, []),
       (⟨some 31, .op (.nilCheck (.t 22)), none⟩, []),
       (⟨some 32, .op (.fieldAddr 0 (.t 31)), none⟩, []),
       (⟨none, .op (.st 1 (.t 32) (.t 30)), none⟩, [])]) (
     .skip))))
theorem cf49 : compF Tryd.prog Tryd.f49 h49 = some (ac49, rs49) := by kernel_rfl

/-! (*mailcoach/pack.Writer).Bytes params 2 -/
def h50 : Hints := ⟨[(2, []), (1, [0, 1, 10]), (0, [0, 1])], [], []⟩
def rs50 : List ARes := []
def ac50 : ACode :=
 .seq (
  .reg [0, 1] [
    ⟨some 4, .op (.mv (.t 0)), none⟩,
    ⟨some 5, .op (.mv (.t 1)), none⟩,
    ⟨some 6, .op (.len 1 (.t 5)), none⟩,
    ⟨some 7, .op (.toInt .u64 (.t 6)), none⟩,
    ⟨some 8, .call (.c (.fn 49 [] [])) [(.t 4), (.t 7), (.c (.int .i64 4))], none⟩]) (
  .seq (
   .reg [0, 1, 10] [
     ⟨some 9, .op (.mv (.t 0)), none⟩,
     ⟨some 10, .op (.eqn 0 true (.t 9) (.c (.nilp))), none⟩]) (
   .cond (.t 10) (
    .reg [] [
      ⟨some 11, .op (.mv (.t 0)), none⟩,
      ⟨some 12, .op (.mv (.t 0)), none⟩,
      ⟨some 13, .op (.nilCheck (.t 12)), none⟩,
      ⟨some 14, .op (.fieldAddr 0 (.t 13)), none⟩,
      ⟨some 15, .op (.ld1 (.t 14)), none⟩,
      ⟨some 16, .op (.mv (.t 1)), none⟩,
      ⟨some 17, .op (.append 1 1 (.t 15) (.t 16)), none⟩,
      ⟨some 18, .op (.nilCheck (.t 11)), none⟩,
      ⟨some 19, .op (.fieldAddr 0 (.t 18)), none⟩,
      ⟨none, .op (.st 1 (.t 19) (.t 17)), none⟩]) (
    .skip)))
theorem cf50 : compF Tryd.prog Tryd.f50 h50 = some (ac50, rs50) := by kernel_rfl

/-! unicode/utf8.word[[]byte] params 1 -/
def h51 : Hints := ⟨[(2, [2]), (1, [2]), (0, [0])], [], [(1, [(0, []), (1, []), (2, []), (3, []), (4, []), (5, []), (6, []), (7, []), (8, []), (9, []), (10, []), (11, []), (12, []), (13, []), (14, []), (15, []), (16, []), (17, []), (18, []), (19, []), (20, []), (21, []), (22, [])]), (2, [(0, []), (1, []), (2, []), (3, []), (4, []), (5, []), (6, []), (7, []), (8, []), (9, []), (10, []), (11, []), (12, []), (13, []), (14, []), (15, []), (16, []), (17, []), (18, []), (19, []), (20, []), (21, []), (22, []), (23, []), (24, []), (25, []), (26, []), (27, []), (28, []), (29, []), (30, []), (31, []), (32, []), (33, []), (34, []), (35, []), (36, []), (37, []), (38, []), (39, []), (40, []), (41, []), (42, []), (43, []), (44, []), (45, []), (46, [])])]⟩
def rs51 : List ARes := [.t 2]
def ac51 : ACode :=
 .seq (
  .reg [0] [
    ⟨some 2, .op (.mv (.c (.int .u64 0))), none⟩]) (
  .seq (
   .cond (.c (.bool false)) (
    .seq (
     .dreg [2] [
       (⟨some 3, .op (.mv (.t 0)), none⟩, []),
       (⟨some 4, .op (.idxAddr 1 (.t 3) (.c (.int .i64 0))), none⟩, []),
       (⟨some 5, .op (.ld1 (.t 4)), none⟩, []),
       (⟨some 6, .op (.toInt .u64 (.t 5)), none⟩, []),
       (⟨some 7, .op (.mv (.t 0)), none⟩, []),
       (⟨some 8, .op (.idxAddr 1 (.t 7) (.c (.int .i64 1))), none⟩, []),
       (⟨some 9, .op (.ld1 (.t 8)), none⟩, []),
       (⟨some 10, .op (.toInt .u64 (.t 9)), none⟩, []),
       (⟨some 11, .op (.bin .shl (.t 10) (.c (.int .u64 8))), none⟩, []),
       (⟨some 12, .op (.bin .or (.t 6) (.t 11)), none⟩, []),
       (⟨some 13, .op (.mv (.t 0)), none⟩, []),
       (⟨some 14, .op (.idxAddr 1 (.t 13) (.c (.int .i64 2))), none⟩, []),
       (⟨some 15, .op (.ld1 (.t 14)), none⟩, []),
       (⟨some 16, .op (.toInt .u64 (.t 15)), none⟩, []),
       (⟨some 17, .op (.bin .shl (.t 16) (.c (.int .u64 16))), none⟩, []),
       (⟨some 18, .op (.bin .or (.t 12) (.t 17)), none⟩, []),
       (⟨some 19, .op (.mv (.t 0)), none⟩, []),
       (⟨some 20, .op (.idxAddr 1 (.t 19) (.c (.int .i64 3))), none⟩, []),
       (⟨some 21, .op (.ld1 (.t 20)), none⟩, []),
       (⟨some 22, .op (.toInt .u64 (.t 21)), none⟩, []),
       (⟨some 23, .op (.bin .shl (.t 22) (.c (.int .u64 24))), none⟩, []),
       (⟨some 24, .op (.bin .or (.t 18) (.t 23)), none⟩, []),
       (⟨some 2, .op (.mv (.t 24)), none⟩, [])]) (
     .ret)) (
    .skip)) (
   .seq (
    .dreg [2] [
      (⟨some 25, .op (.mv (.t 0)), none⟩, []),
      (⟨some 26, .op (.idxAddr 1 (.t 25) (.c (.int .i64 0))), none⟩, []),
      (⟨some 27, .op (.ld1 (.t 26)), none⟩, []),
      (⟨some 28, .op (.toInt .u64 (.t 27)), none⟩, []),
      (⟨some 29, .op (.mv (.t 0)), none⟩, []),
      (⟨some 30, .op (.idxAddr 1 (.t 29) (.c (.int .i64 1))), none⟩, []),
      (⟨some 31, .op (.ld1 (.t 30)), none⟩, []),
      (⟨some 32, .op (.toInt .u64 (.t 31)), none⟩, []),
      (⟨some 33, .op (.bin .shl (.t 32) (.c (.int .u64 8))), none⟩, []),
      (⟨some 34, .op (.bin .or (.t 28) (.t 33)), none⟩, []),
      (⟨some 35, .op (.mv (.t 0)), none⟩, []),
      (⟨some 36, .op (.idxAddr 1 (.t 35) (.c (.int .i64 2))), none⟩, []),
      (⟨some 37, .op (.ld1 (.t 36)), none⟩, []),
      (⟨some 38, .op (.toInt .u64 (.t 37)), none⟩, []),
      (⟨some 39, .op (.bin .shl (.t 38) (.c (.int .u64 16))), none⟩, []),
      (⟨some 40, .op (.bin .or (.t 34) (.t 39)), none⟩, []),
      (⟨some 41, .op (.mv (.t 0)), none⟩, []),
      (⟨some 42, .op (.idxAddr 1 (.t 41) (.c (.int .i64 3))), none⟩, []),
      (⟨some 43, .op (.ld1 (.t 42)), none⟩, []),
      (⟨some 44, .op (.toInt .u64 (.t 43)), none⟩, []),
      (⟨some 45, .op (.bin .shl (.t 44) (.c (.int .u64 24))), none⟩, []),
      (⟨some 46, .op (.bin .or (.t 40) (.t 45)), none⟩, []),
      (⟨some 47, .op (.mv (.t 0)), none⟩, []),
      (⟨some 48, .op (.idxAddr 1 (.t 47) (.c (.int .i64 4))), none⟩, []),
      (⟨some 49, .op (.ld1 (.t 48)), none⟩, []),
      (⟨some 50, .op (.toInt .u64 (.t 49)), none⟩, []),
      (⟨some 51, .op (.bin .shl (.t 50) (.c (.int .u64 32))), none⟩, []),
      (⟨some 52, .op (.bin .or (.t 46) (.t 51)), none⟩, []),
      (⟨some 53, .op (.mv (.t 0)), none⟩, []),
      (⟨some 54, .op (.idxAddr 1 (.t 53) (.c (.int .i64 5))), none⟩, []),
      (⟨some 55, .op (.ld1 (.t 54)), none⟩, []),
      (⟨some 56, .op (.toInt .u64 (.t 55)), none⟩, []),
      (⟨some 57, .op (.bin .shl (.t 56) (.c (.int .u64 40))), none⟩, []),
      (⟨some 58, .op (.bin .or (.t 52) (.t 57)), none⟩, []),
      (⟨some 59, .op (.mv (.t 0)), none⟩, []),
      (⟨some 60, .op (.idxAddr 1 (.t 59) (.c (.int .i64 6))), none⟩, []),
      (⟨some 61, .op (.ld1 (.t 60)), none⟩, []),
      (⟨some 62, .op (.toInt .u64 (.t 61)), none⟩, []),
      (⟨some 63, .op (.bin .shl (.t 62) (.c (.int .u64 48))), none⟩, []),
      (⟨some 64, .op (.bin .or (.t 58) (.t 63)), none⟩, []),
      (⟨some 65, .op (.mv (.t 0)), none⟩, []),
      (⟨some 66, .op (.idxAddr 1 (.t 65) (.c (.int .i64 7))), none⟩, []),
      (⟨some 67, .op (.ld1 (.t 66)), none⟩, []),
      (⟨some 68, .op (.toInt .u64 (.t 67)), none⟩, []),
      (⟨some 69, .op (.bin .shl (.t 68) (.c (.int .u64 56))), none⟩, []),
      (⟨some 70, .op (.bin .or (.t 64) (.t 69)), none⟩, []),
      (⟨some 2, .op (.mv (.t 70)), none⟩, [])]) (
    .ret)))
theorem cf51 : compF Tryd.prog Tryd.f51 h51 = some (ac51, rs51) := by kernel_rfl

/-! (*mailcoach/pack.Reader).take params 2 -/
def h52 : Hints := ⟨[(5, [4]), (4, [5]), (3, [0, 1, 5]), (2, [0, 1]), (1, [0, 1, 13]), (0, [0, 1])], [], []⟩
def rs52 : List ARes := [.t 4]
def ac52 : ACode :=
 .seq (
  .reg [0, 1] [
    ⟨some 4, .op (.mv (.c (.nilsl))), none⟩]) (
  .seq (
   .seq (
    .reg [0, 1, 13] [
      ⟨some 6, .op (.mv (.t 1)), none⟩,
      ⟨some 7, .op (.mv (.t 0)), none⟩,
      ⟨some 8, .op (.nilCheck (.t 7)), none⟩,
      ⟨some 9, .op (.fieldAddr 0 (.t 8)), none⟩,
      ⟨some 10, .op (.ld1 (.t 9)), none⟩,
      ⟨some 11, .op (.len 1 (.t 10)), none⟩,
      ⟨some 12, .op (.toInt .u64 (.t 11)), none⟩,
      ⟨some 13, .op (.bin .gtr (.t 6) (.t 12)), none⟩]) (
    .cond (.t 13) (
     .reg [0, 1] [
       ⟨some 14, .op (.build [.int .i64 0] [(0, 1, (.c (.int .i64 4)))]), none⟩,
       ⟨some 15, .op (.mkIface 74 (.t 14)), none⟩,
       ⟨none, .panic (.t 15), none⟩]) (
     .skip))) (
   .seq (
    .reg [0, 1, 5] [
      ⟨some 16, .op (.mv (.t 0)), none⟩,
      ⟨some 17, .op (.nilCheck (.t 16)), none⟩,
      ⟨some 18, .op (.fieldAddr 0 (.t 17)), none⟩,
      ⟨some 19, .op (.ld1 (.t 18)), none⟩,
      ⟨some 20, .op (.mv (.t 1)), none⟩,
      ⟨some 21, .op (.slice 1 (.t 19) none (some (.t 20)) none), none⟩,
      ⟨some 5, .op (.mv (.t 21)), none⟩]) (
    .seq (
     .reg [5] [
       ⟨some 22, .op (.mv (.t 0)), none⟩,
       ⟨some 23, .op (.mv (.t 0)), none⟩,
       ⟨some 24, .op (.nilCheck (.t 23)), none⟩,
       ⟨some 25, .op (.fieldAddr 0 (.t 24)), none⟩,
       ⟨some 26, .op (.ld1 (.t 25)), none⟩,
       ⟨some 27, .op (.mv (.t 1)), none⟩,
       ⟨some 28, .op (.slice 1 (.t 26) (some (.t 27)) none none), none⟩,
       ⟨some 29, .op (.nilCheck (.t 22)), none⟩,
       ⟨some 30, .op (.fieldAddr 0 (.t 29)), none⟩,
       ⟨none, .op (.st 1 (.t 30) (.t 28)), none⟩]) (
     .seq (
      .reg [4] [
        ⟨some 31, .op (.mv (.t 5)), none⟩,
        ⟨some 4, .op (.mv (.t 31)), none⟩]) (
      .ret)))))
theorem cf52 : compF Tryd.prog Tryd.f52 h52 = some (ac52, rs52) := by kernel_rfl

/-! slices.AppendSeq[[]mailcoach/api.Line,mailcoach/api.Line] params 2 -/
def h53 : Hints := ⟨[(4, [4]), (3, [2]), (2, [2, 5]), (1, [2, 6]), (0, [1, 2])], [], []⟩
def rs53 : List ARes := [.t 4]
def ac53 : ACode :=
 .seq (
  .reg [1, 2] [
    ⟨some 2, .op (.box (.t 0)), none⟩,
    ⟨some 4, .op (.mv (.c (.nilsl))), none⟩]) (
  .seq (
   .seq (
    .reg [2, 6] [
      ⟨some 6, .op (.mv (.t 1)), none⟩]) (
    .block 0 (
     .rangef (.t 6) [7] (
      .reg [2, 5] [
        ⟨some 5, .op (.alloc [.str ⟨#[]⟩, .int .u64 0, .int .u64 0, .int .u64 0, .int .u64 0]), none⟩,
        ⟨none, .op (.st 5 (.t 5) (.t 7)), none⟩]) (
      .block 1 (
       .reg [2] [
         ⟨some 8, .op (.ld1 (.t 2)), none⟩,
         ⟨some 9, .op (.ldn 5 (.t 5)), none⟩,
         ⟨some 10, .op (.buildSl 5 [.str ⟨#[]⟩, .int .u64 0, .int .u64 0, .int .u64 0, .int .u64 0] 1 [(0, (.t 9))]), none⟩,
         ⟨some 11, .op (.append 5 48 (.t 8) (.t 10)), none⟩,
         ⟨none, .op (.st 1 (.t 2) (.t 11)), none⟩]))))) (
   .seq (
    .reg [4] [
      ⟨some 12, .op (.ld1 (.t 2)), none⟩,
      ⟨some 4, .op (.mv (.t 12)), none⟩]) (
    .ret)))
theorem cf53 : compF Tryd.prog Tryd.f53 h53 = some (ac53, rs53) := by kernel_rfl


end Go.Proofs.YtieieknhhfallaaDoor.AM
