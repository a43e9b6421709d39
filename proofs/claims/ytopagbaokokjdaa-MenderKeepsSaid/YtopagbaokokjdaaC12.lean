/- The code of chapter 12, told as the abstract machine's. -/
import Derived.Test.YtopagbaokokjdaaAm3
import Derived.Test.YtopagbaokokjdaaProg
import Derived.KernelRfl
namespace Go.Proofs.Ytopagbaokokjdaa.AM
set_option maxRecDepth 100000
set_option maxHeartbeats 4000000
theorem hmx : Try.prog.follows .mixedOrders = true := by kernel_rfl

/-! mailcoach/mailcoachlaw12.MenderKeeps params 2 -/
def h7 : Hints := ⟨[(58, [4]), (57, [6, 14, 15, 31, 32]), (56, [6, 8, 12, 14, 15, 224, 225, 226]), (55, [6, 8, 12, 14, 15, 224, 225, 226]), (54, [6, 8, 12, 14, 15, 30, 224, 225, 226, 235]), (53, [6, 8, 12, 14, 15, 30, 224, 225, 226]), (52, [6, 8, 12, 14, 15, 224, 225, 226, 227]), (51, [6, 8, 12, 14, 15, 224, 225, 226]), (50, [4]), (49, [6, 8, 12, 13, 14, 15, 223]), (48, [5, 6, 8, 10, 12, 13, 14, 15, 63, 64, 65]), (31, [5, 6, 8, 10, 12, 13, 14, 15, 19, 20, 21, 63, 64, 65, 106, 107, 108]), (30, [5, 6, 8, 10, 12, 13, 14, 15, 19, 20, 21, 63, 64, 65, 106, 107, 108]), (29, [5, 6, 8, 10, 12, 13, 14, 15, 19, 20, 21, 23, 63, 64, 65, 106, 107, 108, 113]), (28, [5, 6, 8, 10, 12, 13, 14, 15, 19, 20, 21, 23, 63, 64, 65, 106, 107, 108]), (27, [5, 6, 8, 10, 12, 13, 14, 15, 19, 20, 21, 63, 64, 65, 106, 107, 108, 109]), (26, [5, 6, 8, 10, 12, 13, 14, 15, 19, 20, 21, 63, 64, 65, 106, 107, 108]), (25, [5, 6, 8, 10, 12, 13, 14, 15, 19, 20, 21, 63, 64, 65]), (24, [5, 6, 8, 10, 12, 13, 14, 15, 19, 20, 21, 63, 64, 65, 99]), (23, [5, 6, 8, 10, 12, 13, 14, 15, 19, 20, 21, 63, 64, 65]), (22, [5, 6, 8, 10, 12, 13, 14, 15, 19, 63, 64, 65]), (38, [5, 6, 8, 10, 12, 13, 14, 15, 63, 64, 65]), (37, [5, 6, 8, 10, 12, 13, 14, 15, 25, 63, 64, 65]), (36, [5, 6, 8, 10, 12, 13, 14, 15, 25, 63, 64, 65, 162]), (35, [5, 6, 8, 10, 12, 13, 14, 15, 17, 25, 63, 64, 65]), (34, [5, 6, 8, 10, 12, 13, 14, 15, 17, 24, 25, 63, 64, 65]), (33, [5, 6, 8, 10, 12, 13, 14, 15, 17, 24, 63, 64, 65]), (47, [4]), (46, [5, 6, 8, 10, 12, 13, 14, 15, 63, 64, 65, 219]), (45, [5, 6, 8, 10, 12, 13, 14, 15, 18, 26, 63, 64, 65, 203]), (44, [5, 6, 8, 10, 12, 13, 14, 15, 18, 26, 27, 28, 63, 64, 65, 203]), (43, [5, 6, 8, 10, 12, 13, 14, 15, 18, 26, 63, 64, 65, 203, 205]), (42, [5, 6, 8, 10, 12, 13, 14, 15, 18, 26, 63, 64, 65, 203]), (41, [5, 6, 8, 10, 12, 13, 14, 15, 18, 26, 63, 64, 65]), (40, [5, 6, 8, 10, 12, 13, 14, 15, 18, 63, 64, 65]), (39, [5, 6, 8, 10, 12, 13, 14, 15, 18, 63, 64, 65, 184]), (32, [5, 6, 8, 10, 12, 13, 14, 15, 17, 18, 63, 64, 65, 123]), (21, [5, 6, 8, 10, 12, 13, 14, 15, 16, 17, 18, 63, 64, 65, 82]), (20, [5, 6, 8, 10, 12, 13, 14, 15, 16, 17, 18, 63, 64, 65]), (19, [5, 6, 8, 10, 12, 13, 14, 15, 16, 17, 63, 64, 65, 75]), (18, [5, 6, 8, 10, 12, 13, 14, 15, 16, 17, 63, 64, 65]), (17, [5, 6, 8, 10, 12, 13, 14, 15, 63, 64, 65, 66]), (16, [5, 6, 8, 10, 12, 13, 14, 15, 63, 64, 65]), (15, [1, 5, 6, 8, 10, 12, 13, 14, 15]), (14, [1, 5, 6, 8, 10, 12, 13, 14]), (13, [1, 5, 6, 8, 10, 12, 13]), (12, [1, 5, 6, 8, 10, 12]), (11, [1, 5, 6, 8, 10, 51, 52]), (10, [1, 5, 6, 8, 10, 51, 52]), (9, [1, 5, 6, 8, 10, 11, 51, 52]), (8, [1, 5, 6, 8, 10, 51, 52, 53]), (7, [1, 5, 6, 8, 10, 51, 52]), (6, [1, 5, 6, 8, 10]), (5, [1, 5, 6, 8]), (4, [1, 5, 6]), (3, [1, 5]), (2, [4]), (1, [0, 1, 34]), (0, [0, 1])], [(52, [6, 8, 12, 14, 15, 224, 225, 226]), (27, [5, 6, 8, 10, 12, 13, 14, 15, 19, 20, 21, 63, 64, 65, 106, 107, 108]), (43, [5, 6, 8, 10, 12, 13, 14, 15, 18, 26, 63, 64, 65, 203]), (17, [5, 6, 8, 10, 12, 13, 14, 15, 63, 64, 65]), (8, [1, 5, 6, 8, 10, 51, 52])], [(35, [(0, []), (1, []), (2, []), (3, []), (4, []), (5, []), (6, []), (7, []), (8, []), (9, [])]), (37, [(0, []), (1, []), (2, []), (3, []), (4, []), (5, []), (6, []), (7, []), (8, []), (9, []), (10, []), (11, [])])]⟩
def rs7 : List ARes := [.t 4]
def ac7 : ACode :=
 .seq (
  .reg [0, 1] [
    ⟨some 4, .op (.mv (.c (.bool false))), none⟩]) (
  .seq (
   .seq (
    .reg [0, 1, 34] [
      ⟨some 33, .call (.c (.fn 8 [] [])) [], none⟩,
      ⟨some 34, .op (.un .not (.t 33)), none⟩]) (
    .cond (.t 34) (
     .seq (
      .reg [4] [
        ⟨some 4, .op (.mv (.c (.bool false))), none⟩]) (
      .ret)) (
     .skip))) (
   .seq (
    .reg [1, 5] [
      ⟨some 35, .op (.mv (.t 0)), none⟩,
      ⟨some 36, .call (.c (.fn 11 [] [])) [(.t 35)], none⟩,
      ⟨some 5, .op (.alloc [.int .i64 0, .int .i64 0, .int .i64 0]), none⟩,
      ⟨none, .op (.st 3 (.t 5) (.t 36)), none⟩]) (
    .seq (
     .reg [1, 5, 6] [
       ⟨some 38, .op (.ldn 3 (.t 5)), none⟩,
       ⟨some 39, .call (.c (.fn 20 [] [])) [(.t 38)], none⟩,
       ⟨some 37, .op (.mv (.t 39)), none⟩,
       ⟨some 40, .op (.extract (.t 37) 0), none⟩,
       ⟨some 41, .op (.extract (.t 37) 1), none⟩,
       ⟨some 6, .op (.mv (.t 40)), none⟩,
       ⟨some 7, .op (.mv (.t 41)), none⟩]) (
     .seq (
      .reg [1, 5, 6, 8] [
        ⟨some 43, .op (.ldn 3 (.t 5)), none⟩,
        ⟨some 44, .call (.c (.fn 9 [] [])) [(.t 43)], none⟩,
        ⟨some 42, .op (.mv (.t 44)), none⟩,
        ⟨some 45, .op (.extract (.t 42) 0), none⟩,
        ⟨some 46, .op (.extract (.t 42) 1), none⟩,
        ⟨some 8, .op (.mv (.t 45)), none⟩,
        ⟨some 9, .op (.mv (.t 46)), none⟩]) (
      .seq (
       .reg [1, 5, 6, 8, 10] [
         ⟨some 47, .op (.fieldAddr 0 (.t 5)), none⟩,
         ⟨some 48, .op (.ld1 (.t 47)), none⟩,
         ⟨some 49, .op (.mkslice 1 8 [.nilmap] (.t 48) (.t 48)), none⟩,
         ⟨some 10, .op (.mv (.t 49)), none⟩]) (
       .seq (
        .seq (
         .reg [1, 5, 6, 8, 10, 51, 52] [
           ⟨some 50, .op (.mv (.t 10)), none⟩,
           ⟨some 51, .op (.len 1 (.t 50)), none⟩,
           ⟨some 52, .op (.mv (.c (.int .i64 0))), none⟩]) (
         .block 0 (
          .loop [1, 5, 6, 8, 10, 51, 52] (
           .seq (
            .reg [1, 5, 6, 8, 10, 51, 52, 53] [
              ⟨some 53, .op (.bin .lss (.t 52) (.t 51)), none⟩]) (
            .seq (
             .cond (.t 53) (
              .skip) (
              .exit 0)) (
             .seq (
              .block 1 (
               .seq (
                .reg [1, 5, 6, 8, 10, 11, 51, 52] [
                  ⟨some 54, .op (.mv (.t 52)), none⟩,
                  ⟨some 11, .op (.mv (.t 54)), none⟩]) (
                .reg [1, 5, 6, 8, 10, 51, 52] [
                  ⟨some 55, .op (.mv (.t 10)), none⟩,
                  ⟨some 56, .op (.mv (.t 11)), none⟩,
                  ⟨some 57, .op (.mkmap), none⟩,
                  ⟨some 58, .op (.idxAddr 1 (.t 55) (.t 56)), none⟩,
                  ⟨none, .op (.st 1 (.t 58) (.t 57)), none⟩]))) (
              .reg [1, 5, 6, 8, 10, 51, 52] [
                ⟨some 59, .op (.bin .add (.t 52) (.c (.int .i64 1))), none⟩,
                ⟨some 52, .op (.mv (.t 59)), none⟩]))))))) (
        .seq (
         .reg [1, 5, 6, 8, 10, 12] [
           ⟨some 60, .op (.fieldAddr 0 (.t 5)), none⟩,
           ⟨some 61, .op (.ld1 (.t 60)), none⟩,
           ⟨some 62, .op (.mkslice 1 1 [.bool false] (.t 61) (.t 61)), none⟩,
           ⟨some 12, .op (.mv (.t 62)), none⟩]) (
         .seq (
          .reg [1, 5, 6, 8, 10, 12, 13] [
            ⟨some 13, .op (.mv (.c (.nilsl))), none⟩]) (
          .seq (
           .reg [1, 5, 6, 8, 10, 12, 13, 14] [
             ⟨some 14, .op (.mv (.c (.nilsl))), none⟩]) (
           .seq (
            .reg [1, 5, 6, 8, 10, 12, 13, 14, 15] [
              ⟨some 15, .op (.mv (.c (.int .i64 0))), none⟩]) (
            .seq (
             .seq (
              .reg [5, 6, 8, 10, 12, 13, 14, 15, 63, 64, 65] [
                ⟨some 63, .op (.mv (.t 1)), none⟩,
                ⟨some 64, .op (.len 1 (.t 63)), none⟩,
                ⟨some 65, .op (.mv (.c (.int .i64 0))), none⟩]) (
              .block 2 (
               .loop [5, 6, 8, 10, 12, 13, 14, 15, 63, 64, 65] (
                .seq (
                 .reg [5, 6, 8, 10, 12, 13, 14, 15, 63, 64, 65, 66] [
                   ⟨some 66, .op (.bin .lss (.t 65) (.t 64)), none⟩]) (
                 .seq (
                  .cond (.t 66) (
                   .skip) (
                   .exit 2)) (
                  .seq (
                   .block 3 (
                    .seq (
                     .reg [5, 6, 8, 10, 12, 13, 14, 15, 16, 17, 63, 64, 65] [
                       ⟨some 67, .op (.mv (.t 65)), none⟩,
                       ⟨some 68, .op (.idxAddr 4 (.t 63) (.t 65)), none⟩,
                       ⟨some 69, .op (.ldn 4 (.t 68)), none⟩,
                       ⟨some 17, .op (.alloc [.int .u8 0, .int .u8 0, .int .u8 0, .bool false]), none⟩,
                       ⟨some 16, .op (.mv (.t 67)), none⟩,
                       ⟨none, .op (.st 4 (.t 17) (.t 69)), none⟩]) (
                     .seq (
                      .seq (
                       .reg [5, 6, 8, 10, 12, 13, 14, 15, 16, 17, 63, 64, 65, 75] [
                         ⟨some 70, .op (.mv (.t 16)), none⟩,
                         ⟨some 71, .op (.bin .gtr (.t 70) (.c (.int .i64 200))), none⟩,
                         ⟨some 72, .op (.mv (.t 71)), none⟩,
                         ⟨some 73, .op (.mv (.t 8)), some (72, false)⟩,
                         ⟨some 74, .call (.c (.fn 15 [] [])) [(.t 73)], some (72, false)⟩,
                         ⟨some 75, .pick (.t 72) (.c (.bool true)) (.t 74), none⟩]) (
                       .cond (.t 75) (
                        .exit 2) (
                        .skip))) (
                      .seq (
                       .reg [5, 6, 8, 10, 12, 13, 14, 15, 16, 17, 18, 63, 64, 65] [
                         ⟨some 76, .op (.fieldAddr 1 (.t 17)), none⟩,
                         ⟨some 77, .op (.ld1 (.t 76)), none⟩,
                         ⟨some 78, .op (.toInt .i64 (.t 77)), none⟩,
                         ⟨some 79, .op (.fieldAddr 0 (.t 5)), none⟩,
                         ⟨some 80, .op (.ld1 (.t 79)), none⟩,
                         ⟨some 81, .op (.bin .rem (.t 78) (.t 80)), none⟩,
                         ⟨some 18, .op (.mv (.t 81)), none⟩]) (
                       .block 4 (
                        .seq (
                         .reg [5, 6, 8, 10, 12, 13, 14, 15, 16, 17, 18, 63, 64, 65, 82] [
                           ⟨some 83, .op (.fieldAddr 0 (.t 17)), none⟩,
                           ⟨some 84, .op (.ld1 (.t 83)), none⟩,
                           ⟨some 85, .op (.bin .rem (.t 84) (.c (.int .u8 6))), none⟩,
                           ⟨some 86, .op (.bin .lss (.t 85) (.c (.int .u8 2))), none⟩,
                           ⟨some 82, .op (.mv (.t 86)), none⟩]) (
                         .cond (.t 82) (
                          .seq (
                           .reg [5, 6, 8, 10, 12, 13, 14, 15, 19, 63, 64, 65] [
                             ⟨some 87, .op (.mv (.t 16)), none⟩,
                             ⟨some 88, .op (.toInt .u8 (.t 87)), none⟩,
                             ⟨some 89, .op (.fieldAddr 2 (.t 17)), none⟩,
                             ⟨some 90, .op (.ld1 (.t 89)), none⟩,
                             ⟨some 91, .op (.buildSl 1 [.int .u8 0] 2 [(0, (.t 88)), (1, (.t 90))]), none⟩,
                             ⟨some 19, .op (.mv (.t 91)), none⟩]) (
                           .seq (
                            .reg [5, 6, 8, 10, 12, 13, 14, 15, 19, 20, 21, 63, 64, 65] [
                              ⟨some 93, .op (.mv (.t 6)), none⟩,
                              ⟨some 94, .op (.mv (.t 19)), none⟩,
                              ⟨some 95, .call (.c (.fn 21 [] [])) [(.t 93), (.t 94)], none⟩,
                              ⟨some 92, .op (.mv (.t 95)), none⟩,
                              ⟨some 96, .op (.extract (.t 92) 0), none⟩,
                              ⟨some 97, .op (.extract (.t 92) 1), none⟩,
                              ⟨some 20, .op (.mv (.t 96)), none⟩,
                              ⟨some 21, .op (.mv (.t 97)), none⟩]) (
                            .seq (
                             .seq (
                              .reg [5, 6, 8, 10, 12, 13, 14, 15, 19, 20, 21, 63, 64, 65, 99] [
                                ⟨some 98, .op (.mv (.t 21)), none⟩,
                                ⟨some 99, .op (.bin .eql (.t 98) (.c (.int .i64 0))), none⟩]) (
                              .cond (.t 99) (
                               .reg [5, 6, 8, 10, 12, 13, 14, 15, 19, 20, 21, 63, 64, 65] [
                                 ⟨some 100, .op (.mv (.t 14)), none⟩,
                                 ⟨some 101, .op (.mv (.t 19)), none⟩,
                                 ⟨some 102, .op (.buildSl 1 [.nilsl] 1 [(0, (.t 101))]), none⟩,
                                 ⟨some 103, .op (.append 1 24 (.t 100) (.t 102)), none⟩,
                                 ⟨some 14, .op (.mv (.t 103)), none⟩]) (
                               .skip))) (
                             .seq (
                              .reg [5, 6, 8, 10, 12, 13, 14, 15, 19, 20, 21, 63, 64, 65, 106, 107, 108] [
                                ⟨some 104, .op (.ldn 3 (.t 5)), none⟩,
                                ⟨some 105, .op (.mv (.t 20)), none⟩,
                                ⟨some 106, .call (.c (.fn 22 [] [])) [(.t 104), (.t 105)], none⟩,
                                ⟨some 107, .op (.len 1 (.t 106)), none⟩,
                                ⟨some 108, .op (.mv (.c (.int .i64 0))), none⟩]) (
                              .block 5 (
                               .loop [5, 6, 8, 10, 12, 13, 14, 15, 19, 20, 21, 63, 64, 65, 106, 107, 108] (
                                .seq (
                                 .reg [5, 6, 8, 10, 12, 13, 14, 15, 19, 20, 21, 63, 64, 65, 106, 107, 108, 109] [
                                   ⟨some 109, .op (.bin .lss (.t 108) (.t 107)), none⟩]) (
                                 .seq (
                                  .cond (.t 109) (
                                   .skip) (
                                   .exit 5)) (
                                  .seq (
                                   .block 6 (
                                    .seq (
                                     .reg [5, 6, 8, 10, 12, 13, 14, 15, 19, 20, 21, 23, 63, 64, 65, 106, 107, 108] [
                                       ⟨some 110, .op (.idxAddr 1 (.t 106) (.t 108)), none⟩,
                                       ⟨some 111, .op (.ld1 (.t 110)), none⟩,
                                       ⟨some 23, .op (.mv (.t 111)), none⟩]) (
                                     .seq (
                                      .reg [5, 6, 8, 10, 12, 13, 14, 15, 19, 20, 21, 23, 63, 64, 65, 106, 107, 108, 113] [
                                        ⟨some 112, .op (.mv (.t 21)), none⟩,
                                        ⟨some 113, .op (.bin .eql (.t 112) (.c (.int .i64 0))), none⟩]) (
                                      .cond (.t 113) (
                                       .reg [5, 6, 8, 10, 12, 13, 14, 15, 19, 20, 21, 63, 64, 65, 106, 107, 108] [
                                         ⟨some 114, .op (.mv (.t 13)), none⟩,
                                         ⟨some 115, .op (.mv (.t 23)), none⟩,
                                         ⟨some 116, .op (.mv (.t 20)), none⟩,
                                         ⟨some 117, .op (.mv (.t 19)), none⟩,
                                         ⟨some 118, .op (.build [.int .u64 0, .nilsl] [(0, 1, (.t 116)), (1, 1, (.t 117))]), none⟩,
                                         ⟨some 119, .op (.build [.int .i64 0, .int .u64 0, .nilsl] [(0, 1, (.t 115)), (1, 2, (.t 118))]), none⟩,
                                         ⟨some 120, .op (.buildSl 3 [.int .i64 0, .int .u64 0, .nilsl] 1 [(0, (.t 119))]), none⟩,
                                         ⟨some 121, .op (.append 3 40 (.t 114) (.t 120)), none⟩,
                                         ⟨some 13, .op (.mv (.t 121)), none⟩]) (
                                       .skip))))) (
                                   .reg [5, 6, 8, 10, 12, 13, 14, 15, 19, 20, 21, 63, 64, 65, 106, 107, 108] [
                                     ⟨some 122, .op (.bin .add (.t 108) (.c (.int .i64 1))), none⟩,
                                     ⟨some 108, .op (.mv (.t 122)), none⟩])))))))))) (
                          .seq (
                           .reg [5, 6, 8, 10, 12, 13, 14, 15, 17, 18, 63, 64, 65, 123] [
                             ⟨some 124, .op (.fieldAddr 0 (.t 17)), none⟩,
                             ⟨some 125, .op (.ld1 (.t 124)), none⟩,
                             ⟨some 126, .op (.bin .rem (.t 125) (.c (.int .u8 6))), none⟩,
                             ⟨some 127, .op (.bin .lss (.t 126) (.c (.int .u8 5))), none⟩,
                             ⟨some 128, .op (.mv (.t 127)), none⟩,
                             ⟨some 129, .op (.mv (.t 13)), some (128, true)⟩,
                             ⟨some 130, .op (.len 1 (.t 129)), some (128, true)⟩,
                             ⟨some 131, .op (.bin .gtr (.t 130) (.c (.int .i64 0))), some (128, true)⟩,
                             ⟨some 132, .pick (.t 128) (.t 131) (.c (.bool false)), none⟩,
                             ⟨some 123, .op (.mv (.t 132)), none⟩]) (
                           .cond (.t 123) (
                            .seq (
                             .reg [5, 6, 8, 10, 12, 13, 14, 15, 17, 24, 63, 64, 65] [
                               ⟨some 133, .op (.fieldAddr 2 (.t 17)), none⟩,
                               ⟨some 134, .op (.ld1 (.t 133)), none⟩,
                               ⟨some 135, .op (.toInt .i64 (.t 134)), none⟩,
                               ⟨some 136, .op (.mv (.t 13)), none⟩,
                               ⟨some 137, .op (.len 1 (.t 136)), none⟩,
                               ⟨some 138, .op (.bin .rem (.t 135) (.t 137)), none⟩,
                               ⟨some 24, .op (.mv (.t 138)), none⟩]) (
                             .seq (
                              .reg [5, 6, 8, 10, 12, 13, 14, 15, 17, 24, 25, 63, 64, 65] [
                                ⟨some 139, .op (.mv (.t 13)), none⟩,
                                ⟨some 140, .op (.mv (.t 24)), none⟩,
                                ⟨some 141, .op (.idxAddr 3 (.t 139) (.t 140)), none⟩,
                                ⟨some 142, .op (.ldn 3 (.t 141)), none⟩,
                                ⟨some 25, .op (.alloc [.int .i64 0, .int .u64 0, .nilsl]), none⟩,
                                ⟨none, .op (.st 3 (.t 25) (.t 142)), none⟩]) (
                              .seq (
                               .dreg [5, 6, 8, 10, 12, 13, 14, 15, 17, 25, 63, 64, 65] [
                                 (⟨some 143, .op (.mv (.t 13)), none⟩, []),
                                 (⟨some 144, .op (.mv (.t 24)), none⟩, []),
                                 (⟨some 145, .op (.mv (.t 24)), none⟩, []),
                                 (⟨some 146, .op (.slice 3 (.t 143) none (some (.t 144)) (some (.t 145))), none⟩, []),
                                 (⟨some 147, .op (.mv (.t 13)), none⟩, []),
                                 (⟨some 148, .op (.mv (.t 24)), none⟩, []),
                                 (⟨some 149, .op (.bin .add (.t 148) (.c (.int .i64 1))), none⟩, []),
                                 (⟨some 150, .op (.slice 3 (.t 147) (some (.t 149)) none none), none⟩, []),
                                 (⟨some 151, .op (.append 3 40 (.t 146) (.t 150)), none⟩, []),
                                 (⟨some 13, .op (.mv (.t 151)), none⟩, [])]) (
                               .seq (
                                .reg [5, 6, 8, 10, 12, 13, 14, 15, 25, 63, 64, 65, 162] [
                                  ⟨some 152, .op (.mv (.t 12)), none⟩,
                                  ⟨some 153, .op (.fieldAddr 0 (.t 25)), none⟩,
                                  ⟨some 154, .op (.ld1 (.t 153)), none⟩,
                                  ⟨some 155, .op (.idxAddr 1 (.t 152) (.t 154)), none⟩,
                                  ⟨some 156, .op (.ld1 (.t 155)), none⟩,
                                  ⟨some 157, .op (.un .not (.t 156)), none⟩,
                                  ⟨some 158, .op (.mv (.t 157)), none⟩,
                                  ⟨some 159, .op (.fieldAddr 3 (.t 17)), some (158, true)⟩,
                                  ⟨some 160, .op (.ld1 (.t 159)), some (158, true)⟩,
                                  ⟨some 161, .op (.un .not (.t 160)), some (158, true)⟩,
                                  ⟨some 162, .pick (.t 158) (.t 161) (.c (.bool false)), none⟩]) (
                                .cond (.t 162) (
                                 .seq (
                                  .dreg [5, 6, 8, 10, 12, 13, 14, 15, 25, 63, 64, 65] [
                                    (⟨some 163, .op (.mv (.t 10)), none⟩, []),
                                    (⟨some 164, .op (.fieldAddr 0 (.t 25)), none⟩, []),
                                    (⟨some 165, .op (.ld1 (.t 164)), none⟩, []),
                                    (⟨some 166, .op (.idxAddr 1 (.t 163) (.t 165)), none⟩, []),
                                    (⟨some 167, .op (.ld1 (.t 166)), none⟩, []),
                                    (⟨some 168, .op (.fieldAddr 1 (.t 25)), none⟩, []),
                                    (⟨some 169, .op (.fieldAddr 0 (.t 168)), none⟩, []),
                                    (⟨some 170, .op (.ld1 (.t 169)), none⟩, []),
                                    (⟨some 171, .op (.fieldAddr 1 (.t 25)), none⟩, []),
                                    (⟨some 172, .op (.fieldAddr 1 (.t 171)), none⟩, []),
                                    (⟨some 173, .op (.ld1 (.t 172)), none⟩, []),
                                    (⟨none, .op (.mapSet false [1] (.t 167) (.t 170) (.t 173)), none⟩, [])]) (
                                  .reg [5, 6, 8, 10, 12, 13, 14, 15, 63, 64, 65] [
                                    ⟨some 174, .op (.mv (.t 15)), none⟩,
                                    ⟨some 175, .op (.mv (.t 6)), none⟩,
                                    ⟨some 176, .op (.fieldAddr 0 (.t 25)), none⟩,
                                    ⟨some 177, .op (.ld1 (.t 176)), none⟩,
                                    ⟨some 178, .op (.fieldAddr 1 (.t 25)), none⟩,
                                    ⟨some 179, .op (.fieldAddr 0 (.t 178)), none⟩,
                                    ⟨some 180, .op (.ld1 (.t 179)), none⟩,
                                    ⟨some 181, .call (.c (.fn 23 [] [])) [(.t 175), (.t 177), (.t 180)], none⟩,
                                    ⟨some 182, .op (.len 1 (.t 181)), none⟩,
                                    ⟨some 183, .op (.bin .add (.t 174) (.t 182)), none⟩,
                                    ⟨some 15, .op (.mv (.t 183)), none⟩])) (
                                 .skip)))))) (
                            .seq (
                             .reg [5, 6, 8, 10, 12, 13, 14, 15, 18, 63, 64, 65, 184] [
                               ⟨some 185, .op (.fieldAddr 0 (.t 17)), none⟩,
                               ⟨some 186, .op (.ld1 (.t 185)), none⟩,
                               ⟨some 187, .op (.bin .rem (.t 186) (.c (.int .u8 6))), none⟩,
                               ⟨some 188, .op (.bin .eql (.t 187) (.c (.int .u8 5))), none⟩,
                               ⟨some 189, .op (.mv (.t 188)), none⟩,
                               ⟨some 190, .op (.mv (.t 12)), some (189, true)⟩,
                               ⟨some 191, .op (.mv (.t 18)), some (189, true)⟩,
                               ⟨some 192, .op (.idxAddr 1 (.t 190) (.t 191)), some (189, true)⟩,
                               ⟨some 193, .op (.ld1 (.t 192)), some (189, true)⟩,
                               ⟨some 194, .op (.un .not (.t 193)), some (189, true)⟩,
                               ⟨some 195, .pick (.t 189) (.t 194) (.c (.bool false)), none⟩,
                               ⟨some 184, .op (.mv (.t 195)), none⟩]) (
                             .cond (.t 184) (
                              .seq (
                               .reg [5, 6, 8, 10, 12, 13, 14, 15, 18, 63, 64, 65] [
                                 ⟨some 196, .op (.mv (.t 12)), none⟩,
                                 ⟨some 197, .op (.mv (.t 18)), none⟩,
                                 ⟨some 198, .op (.idxAddr 1 (.t 196) (.t 197)), none⟩,
                                 ⟨none, .op (.st 1 (.t 198) (.c (.bool true))), none⟩]) (
                               .seq (
                                .reg [5, 6, 8, 10, 12, 13, 14, 15, 18, 26, 63, 64, 65] [
                                  ⟨some 26, .op (.mv (.c (.nilsl))), none⟩]) (
                                .seq (
                                 .seq (
                                  .reg [5, 6, 8, 10, 12, 13, 14, 15, 18, 26, 63, 64, 65, 203] [
                                    ⟨some 199, .op (.mv (.t 10)), none⟩,
                                    ⟨some 200, .op (.mv (.t 18)), none⟩,
                                    ⟨some 201, .op (.idxAddr 1 (.t 199) (.t 200)), none⟩,
                                    ⟨some 202, .op (.ld1 (.t 201)), none⟩,
                                    ⟨some 203, .op (.rangeM (.t 202)), none⟩]) (
                                  .block 7 (
                                   .loop [5, 6, 8, 10, 12, 13, 14, 15, 18, 26, 63, 64, 65, 203] (
                                    .seq (
                                     .reg [5, 6, 8, 10, 12, 13, 14, 15, 18, 26, 63, 64, 65, 203, 205] [
                                       ⟨some 204, .next (.t 203), none⟩,
                                       ⟨some 205, .op (.extract (.t 204) 0), none⟩]) (
                                     .seq (
                                      .cond (.t 205) (
                                       .skip) (
                                       .exit 7)) (
                                      .block 8 (
                                       .seq (
                                        .reg [5, 6, 8, 10, 12, 13, 14, 15, 18, 26, 27, 28, 63, 64, 65, 203] [
                                          ⟨some 206, .op (.entryM (.t 203)), none⟩,
                                          ⟨some 207, .op (.extract (.t 206) 0), none⟩,
                                          ⟨some 208, .op (.extract (.t 206) 1), none⟩,
                                          ⟨some 27, .op (.mv (.t 207)), none⟩,
                                          ⟨some 28, .op (.mv (.t 208)), none⟩]) (
                                        .reg [5, 6, 8, 10, 12, 13, 14, 15, 18, 26, 63, 64, 65, 203] [
                                          ⟨some 209, .op (.mv (.t 26)), none⟩,
                                          ⟨some 210, .op (.mv (.t 27)), none⟩,
                                          ⟨some 211, .op (.mv (.t 28)), none⟩,
                                          ⟨some 212, .op (.build [.int .u64 0, .nilsl] [(0, 1, (.t 210)), (1, 1, (.t 211))]), none⟩,
                                          ⟨some 213, .op (.buildSl 2 [.int .u64 0, .nilsl] 1 [(0, (.t 212))]), none⟩,
                                          ⟨some 214, .op (.append 2 32 (.t 209) (.t 213)), none⟩,
                                          ⟨some 26, .op (.mv (.t 214)), none⟩])))))))) (
                                 .seq (
                                  .reg [5, 6, 8, 10, 12, 13, 14, 15, 63, 64, 65, 219] [
                                    ⟨some 215, .op (.mv (.t 8)), none⟩,
                                    ⟨some 216, .op (.mv (.t 18)), none⟩,
                                    ⟨some 217, .op (.mv (.t 26)), none⟩,
                                    ⟨some 218, .call (.c (.fn 13 [] [])) [(.t 215), (.t 216), (.c (.int .u64 0)), (.t 217)], none⟩,
                                    ⟨some 219, .op (.bin .neq (.t 218) (.c (.int .i64 0))), none⟩]) (
                                  .cond (.t 219) (
                                   .seq (
                                    .reg [4] [
                                      ⟨some 4, .op (.mv (.c (.bool false))), none⟩]) (
                                    .ret)) (
                                   .skip)))))) (
                              .skip)))))))))))) (
                   .reg [5, 6, 8, 10, 12, 13, 14, 15, 63, 64, 65] [
                     ⟨some 220, .op (.bin .add (.t 65) (.c (.int .i64 1))), none⟩,
                     ⟨some 65, .op (.mv (.t 220)), none⟩]))))))) (
             .seq (
              .seq (
               .reg [6, 8, 12, 13, 14, 15, 223] [
                 ⟨some 221, .op (.mv (.t 8)), none⟩,
                 ⟨some 222, .call (.c (.fn 15 [] [])) [(.t 221)], none⟩,
                 ⟨some 223, .op (.un .not (.t 222)), none⟩]) (
               .cond (.t 223) (
                .seq (
                 .reg [4] [
                   ⟨some 4, .op (.mv (.c (.bool true))), none⟩]) (
                 .ret)) (
                .skip))) (
              .seq (
               .seq (
                .reg [6, 8, 12, 14, 15, 224, 225, 226] [
                  ⟨some 224, .op (.mv (.t 13)), none⟩,
                  ⟨some 225, .op (.len 1 (.t 224)), none⟩,
                  ⟨some 226, .op (.mv (.c (.int .i64 0))), none⟩]) (
                .block 9 (
                 .loop [6, 8, 12, 14, 15, 224, 225, 226] (
                  .seq (
                   .reg [6, 8, 12, 14, 15, 224, 225, 226, 227] [
                     ⟨some 227, .op (.bin .lss (.t 226) (.t 225)), none⟩]) (
                   .seq (
                    .cond (.t 227) (
                     .skip) (
                     .exit 9)) (
                    .seq (
                     .block 10 (
                      .seq (
                       .reg [6, 8, 12, 14, 15, 30, 224, 225, 226] [
                         ⟨some 228, .op (.idxAddr 3 (.t 224) (.t 226)), none⟩,
                         ⟨some 229, .op (.ldn 3 (.t 228)), none⟩,
                         ⟨some 30, .op (.alloc [.int .i64 0, .int .u64 0, .nilsl]), none⟩,
                         ⟨none, .op (.st 3 (.t 30) (.t 229)), none⟩]) (
                       .seq (
                        .reg [6, 8, 12, 14, 15, 30, 224, 225, 226, 235] [
                          ⟨some 230, .op (.mv (.t 12)), none⟩,
                          ⟨some 231, .op (.fieldAddr 0 (.t 30)), none⟩,
                          ⟨some 232, .op (.ld1 (.t 231)), none⟩,
                          ⟨some 233, .op (.idxAddr 1 (.t 230) (.t 232)), none⟩,
                          ⟨some 234, .op (.ld1 (.t 233)), none⟩,
                          ⟨some 235, .op (.un .not (.t 234)), none⟩]) (
                        .cond (.t 235) (
                         .reg [6, 8, 12, 14, 15, 224, 225, 226] [
                           ⟨some 236, .op (.mv (.t 15)), none⟩,
                           ⟨some 237, .op (.mv (.t 6)), none⟩,
                           ⟨some 238, .op (.fieldAddr 0 (.t 30)), none⟩,
                           ⟨some 239, .op (.ld1 (.t 238)), none⟩,
                           ⟨some 240, .op (.fieldAddr 1 (.t 30)), none⟩,
                           ⟨some 241, .op (.fieldAddr 0 (.t 240)), none⟩,
                           ⟨some 242, .op (.ld1 (.t 241)), none⟩,
                           ⟨some 243, .call (.c (.fn 23 [] [])) [(.t 237), (.t 239), (.t 242)], none⟩,
                           ⟨some 244, .op (.len 1 (.t 243)), none⟩,
                           ⟨some 245, .op (.bin .add (.t 236) (.t 244)), none⟩,
                           ⟨some 15, .op (.mv (.t 245)), none⟩]) (
                         .skip))))) (
                     .reg [6, 8, 12, 14, 15, 224, 225, 226] [
                       ⟨some 246, .op (.bin .add (.t 226) (.c (.int .i64 1))), none⟩,
                       ⟨some 226, .op (.mv (.t 246)), none⟩]))))))) (
               .seq (
                .reg [6, 14, 15, 31, 32] [
                  ⟨some 248, .op (.mv (.t 8)), none⟩,
                  ⟨some 249, .call (.c (.fn 17 [] [])) [(.t 248)], none⟩,
                  ⟨some 247, .op (.mv (.t 249)), none⟩,
                  ⟨some 250, .op (.extract (.t 247) 0), none⟩,
                  ⟨some 251, .op (.extract (.t 247) 1), none⟩,
                  ⟨some 31, .op (.mv (.t 250)), none⟩,
                  ⟨some 32, .op (.mv (.t 251)), none⟩]) (
                .seq (
                 .reg [4] [
                   ⟨some 252, .op (.mv (.t 32)), none⟩,
                   ⟨some 253, .op (.bin .eql (.t 252) (.c (.int .i64 0))), none⟩,
                   ⟨some 254, .op (.mv (.t 253)), none⟩,
                   ⟨some 255, .op (.mv (.t 31)), some (254, true)⟩,
                   ⟨some 256, .op (.len 1 (.t 255)), some (254, true)⟩,
                   ⟨some 257, .op (.mv (.t 15)), some (254, true)⟩,
                   ⟨some 258, .op (.bin .geq (.t 256) (.t 257)), some (254, true)⟩,
                   ⟨some 259, .pick (.t 254) (.t 258) (.c (.bool false)), none⟩,
                   ⟨some 260, .op (.mv (.t 259)), none⟩,
                   ⟨some 261, .op (.mv (.t 15)), some (260, true)⟩,
                   ⟨some 262, .op (.toInt .u64 (.t 261)), some (260, true)⟩,
                   ⟨some 263, .op (.mv (.t 6)), some (260, true)⟩,
                   ⟨some 264, .call (.c (.fn 24 [] [])) [(.t 263)], some (260, true)⟩,
                   ⟨some 265, .op (.bin .eql (.t 262) (.t 264)), some (260, true)⟩,
                   ⟨some 266, .pick (.t 260) (.t 265) (.c (.bool false)), none⟩,
                   ⟨some 267, .op (.mv (.t 266)), none⟩,
                   ⟨some 268, .op (.mv (.t 31)), some (267, true)⟩,
                   ⟨some 269, .op (.mv (.t 14)), some (267, true)⟩,
                   ⟨some 270, .call (.c (.fn 25 [] [])) [(.t 268), (.t 269)], some (267, true)⟩,
                   ⟨some 271, .pick (.t 267) (.t 270) (.c (.bool false)), none⟩,
                   ⟨some 4, .op (.mv (.t 271)), none⟩]) (
                 .ret))))))))))))))))
theorem cf7 : compF Try.prog Try.f7 h7 = some (ac7, rs7) := by kernel_rfl

/-! mailcoach/mailcoachlaw12.Awake params 0 -/
def h8 : Hints := ⟨[(6, [0]), (5, [1, 2, 3, 4, 5, 6, 7]), (4, [1, 2, 3, 4, 5]), (3, [1, 2, 3, 4]), (2, [1, 2, 3]), (1, [1, 2]), (0, [])], [], []⟩
def rs8 : List ARes := [.t 0]
def ac8 : ACode :=
 .seq (
  .reg [] [
    ⟨some 0, .op (.mv (.c (.bool false))), none⟩]) (
  .seq (
   .reg [1, 2] [
     ⟨some 9, .op (.build [.int .i64 0, .int .i64 0, .int .i64 0] [(0, 1, (.c (.int .i64 3))), (1, 1, (.c (.int .i64 3))), (2, 1, (.c (.int .i64 2)))]), none⟩,
     ⟨some 10, .call (.c (.fn 9 [] [])) [(.t 9)], none⟩,
     ⟨some 8, .op (.mv (.t 10)), none⟩,
     ⟨some 11, .op (.extract (.t 8) 0), none⟩,
     ⟨some 12, .op (.extract (.t 8) 1), none⟩,
     ⟨some 1, .op (.mv (.t 11)), none⟩,
     ⟨some 2, .op (.mv (.t 12)), none⟩]) (
   .seq (
    .reg [1, 2, 3] [
      ⟨some 13, .op (.mv (.t 1)), none⟩,
      ⟨some 14, .op (.buildSl 1 [.int .u8 0] 1 [(0, (.c (.int .u8 97)))]), none⟩,
      ⟨some 15, .op (.mark (.t 14)), none⟩,
      ⟨some 16, .op (.build [.int .u64 0, .nilsl] [(0, 1, (.c (.int .u64 0))), (1, 1, (.t 15))]), none⟩,
      ⟨some 17, .op (.buildSl 1 [.int .u8 0] 1 [(0, (.c (.int .u8 99)))]), none⟩,
      ⟨some 18, .op (.mark (.t 17)), none⟩,
      ⟨some 19, .op (.build [.int .u64 0, .nilsl] [(0, 1, (.c (.int .u64 2))), (1, 1, (.t 18))]), none⟩,
      ⟨some 20, .op (.buildSl 2 [.int .u64 0, .nilsl] 2 [(0, (.t 16)), (1, (.t 19))]), none⟩,
      ⟨some 21, .call (.c (.fn 13 [] [])) [(.t 13), (.c (.int .i64 0)), (.c (.int .u64 0)), (.t 20)], none⟩,
      ⟨some 3, .op (.mv (.t 21)), none⟩]) (
    .seq (
     .reg [1, 2, 3, 4] [
       ⟨some 22, .op (.mv (.t 1)), none⟩,
       ⟨some 23, .call (.c (.fn 15 [] [])) [(.t 22)], none⟩,
       ⟨some 4, .op (.mv (.t 23)), none⟩]) (
     .seq (
      .reg [1, 2, 3, 4, 5] [
        ⟨some 24, .op (.mv (.t 1)), none⟩,
        ⟨some 25, .call (.c (.fn 13 [] [])) [(.t 24), (.c (.int .i64 1)), (.c (.int .u64 0)), (.c (.nilsl))], none⟩,
        ⟨some 5, .op (.mv (.t 25)), none⟩]) (
      .seq (
       .reg [1, 2, 3, 4, 5, 6, 7] [
         ⟨some 27, .op (.mv (.t 1)), none⟩,
         ⟨some 28, .call (.c (.fn 17 [] [])) [(.t 27)], none⟩,
         ⟨some 26, .op (.mv (.t 28)), none⟩,
         ⟨some 29, .op (.extract (.t 26) 0), none⟩,
         ⟨some 30, .op (.extract (.t 26) 1), none⟩,
         ⟨some 6, .op (.mv (.t 29)), none⟩,
         ⟨some 7, .op (.mv (.t 30)), none⟩]) (
       .seq (
        .reg [0] [
          ⟨some 31, .op (.mv (.t 2)), none⟩,
          ⟨some 32, .op (.bin .eql (.t 31) (.c (.int .i64 0))), none⟩,
          ⟨some 33, .op (.mv (.t 32)), none⟩,
          ⟨some 34, .op (.mv (.t 3)), some (33, true)⟩,
          ⟨some 35, .op (.bin .eql (.t 34) (.c (.int .i64 0))), some (33, true)⟩,
          ⟨some 36, .pick (.t 33) (.t 35) (.c (.bool false)), none⟩,
          ⟨some 37, .op (.mv (.t 36)), none⟩,
          ⟨some 38, .op (.mv (.t 4)), some (37, true)⟩,
          ⟨some 39, .op (.un .not (.t 38)), some (37, true)⟩,
          ⟨some 40, .pick (.t 37) (.t 39) (.c (.bool false)), none⟩,
          ⟨some 41, .op (.mv (.t 40)), none⟩,
          ⟨some 42, .op (.mv (.t 5)), some (41, true)⟩,
          ⟨some 43, .op (.bin .eql (.t 42) (.c (.int .i64 0))), some (41, true)⟩,
          ⟨some 44, .pick (.t 41) (.t 43) (.c (.bool false)), none⟩,
          ⟨some 45, .op (.mv (.t 44)), none⟩,
          ⟨some 46, .op (.mv (.t 1)), some (45, true)⟩,
          ⟨some 47, .call (.c (.fn 15 [] [])) [(.t 46)], some (45, true)⟩,
          ⟨some 48, .pick (.t 45) (.t 47) (.c (.bool false)), none⟩,
          ⟨some 49, .op (.mv (.t 48)), none⟩,
          ⟨some 50, .op (.mv (.t 7)), some (49, true)⟩,
          ⟨some 51, .op (.bin .eql (.t 50) (.c (.int .i64 0))), some (49, true)⟩,
          ⟨some 52, .pick (.t 49) (.t 51) (.c (.bool false)), none⟩,
          ⟨some 53, .op (.mv (.t 52)), none⟩,
          ⟨some 54, .op (.mv (.t 6)), some (53, true)⟩,
          ⟨some 55, .op (.len 1 (.t 54)), some (53, true)⟩,
          ⟨some 56, .op (.bin .eql (.t 55) (.c (.int .i64 1))), some (53, true)⟩,
          ⟨some 57, .pick (.t 53) (.t 56) (.c (.bool false)), none⟩,
          ⟨some 58, .op (.mv (.t 57)), none⟩,
          ⟨some 59, .op (.mv (.t 6)), some (58, true)⟩,
          ⟨some 60, .op (.idxAddr 2 (.t 59) (.c (.int .i64 0))), some (58, true)⟩,
          ⟨some 61, .op (.fieldAddr 1 (.t 60)), some (58, true)⟩,
          ⟨some 62, .op (.ld1 (.t 61)), some (58, true)⟩,
          ⟨some 63, .op (.bytesStr (.t 62)), some (58, true)⟩,
          ⟨some 64, .op (.bin .eql (.t 63) (.c (.str ⟨#[97]⟩))), some (58, true)⟩,
          ⟨some 65, .pick (.t 58) (.t 64) (.c (.bool false)), none⟩,
          ⟨some 0, .op (.mv (.t 65)), none⟩]) (
        .ret)))))))
theorem cf8 : compF Try.prog Try.f8 h8 = some (ac8, rs8) := by kernel_rfl

/-! mailcoach/mender.New params 1 -/
def h9 : Hints := ⟨[(3, [2, 3]), (2, [2, 3]), (1, [1, 6]), (0, [1])], [], [(3, [(0, []), (1, []), (2, []), (3, []), (4, []), (5, []), (6, []), (7, []), (8, [])])]⟩
def rs9 : List ARes := [.t 2, .t 3]
def ac9 : ACode :=
 .seq (
  .reg [1] [
    ⟨some 1, .op (.box (.t 0)), none⟩,
    ⟨some 2, .op (.mv (.c (.nilp))), none⟩,
    ⟨some 3, .op (.mv (.c (.int .i64 0))), none⟩]) (
  .seq (
   .seq (
    .reg [1, 6] [
      ⟨some 4, .op (.ldn 3 (.t 1)), none⟩,
      ⟨some 5, .call (.c (.fn 26 [] [])) [(.t 4)], none⟩,
      ⟨some 6, .op (.un .not (.t 5)), none⟩]) (
    .cond (.t 6) (
     .seq (
      .reg [2, 3] [
        ⟨some 2, .op (.mv (.c (.nilp))), none⟩,
        ⟨some 3, .op (.mv (.c (.int .i64 22))), none⟩]) (
      .ret)) (
     .skip))) (
   .seq (
    .dreg [2, 3] [
      (⟨some 7, .op (.ldn 3 (.t 1)), none⟩, []),
      (⟨some 8, .op (.fieldAddr 0 (.t 1)), none⟩, []),
      (⟨some 9, .op (.ld1 (.t 8)), none⟩, []),
      (⟨some 10, .op (.mkslice 1 1 [.bool false] (.t 9) (.t 9)), none⟩, []),
      (⟨some 11, .op (.mkmap), none⟩, []),
      (⟨some 12, .op (.build [.int .i64 0, .int .i64 0, .int .i64 0, .nilsl, .int .u64 0, .nilmap] [(0, 3, (.t 7)), (3, 1, (.t 10)), (5, 1, (.t 11))]), none⟩, []),
      (⟨some 13, .op (.box (.t 12)), none⟩, []),
      (⟨some 2, .op (.mv (.t 13)), none⟩, []),
      (⟨some 3, .op (.mv (.c (.int .i64 0))), none⟩, [])]) (
    .ret)))
theorem cf9 : compF Try.prog Try.f9 h9 = some (ac9, rs9) := by kernel_rfl

/-! mailcoach/mailcoachref10.Check params 1 -/
def h10 : Hints := ⟨[(1, [2]), (0, [1])], [], []⟩
def rs10 : List ARes := [.t 2]
def ac10 : ACode :=
 .seq (
  .reg [1] [
    ⟨some 1, .op (.box (.t 0)), none⟩,
    ⟨some 2, .op (.mv (.c (.bool false))), none⟩]) (
  .seq (
   .reg [2] [
     ⟨some 3, .op (.fieldAddr 2 (.t 1)), none⟩,
     ⟨some 4, .op (.ld1 (.t 3)), none⟩,
     ⟨some 5, .op (.bin .geq (.t 4) (.c (.int .i64 1))), none⟩,
     ⟨some 6, .op (.mv (.t 5)), none⟩,
     ⟨some 7, .op (.fieldAddr 1 (.t 1)), some (6, true)⟩,
     ⟨some 8, .op (.ld1 (.t 7)), some (6, true)⟩,
     ⟨some 9, .op (.fieldAddr 2 (.t 1)), some (6, true)⟩,
     ⟨some 10, .op (.ld1 (.t 9)), some (6, true)⟩,
     ⟨some 11, .op (.bin .geq (.t 8) (.t 10)), some (6, true)⟩,
     ⟨some 12, .pick (.t 6) (.t 11) (.c (.bool false)), none⟩,
     ⟨some 13, .op (.mv (.t 12)), none⟩,
     ⟨some 14, .op (.fieldAddr 0 (.t 1)), some (13, true)⟩,
     ⟨some 15, .op (.ld1 (.t 14)), some (13, true)⟩,
     ⟨some 16, .op (.fieldAddr 1 (.t 1)), some (13, true)⟩,
     ⟨some 17, .op (.ld1 (.t 16)), some (13, true)⟩,
     ⟨some 18, .op (.bin .geq (.t 15) (.t 17)), some (13, true)⟩,
     ⟨some 19, .pick (.t 13) (.t 18) (.c (.bool false)), none⟩,
     ⟨some 20, .op (.mv (.t 19)), none⟩,
     ⟨some 21, .op (.fieldAddr 0 (.t 1)), some (20, true)⟩,
     ⟨some 22, .op (.ld1 (.t 21)), some (20, true)⟩,
     ⟨some 23, .op (.bin .leq (.t 22) (.c (.int .i64 7))), some (20, true)⟩,
     ⟨some 24, .pick (.t 20) (.t 23) (.c (.bool false)), none⟩,
     ⟨some 2, .op (.mv (.t 24)), none⟩]) (
   .ret))
theorem cf10 : compF Try.prog Try.f10 h10 = some (ac10, rs10) := by kernel_rfl

/-! mailcoach/mailcoachlaw10.Quorum params 1 -/
def h11 : Hints := ⟨[(3, [2]), (2, [0, 2, 3, 4]), (1, [0, 2, 3]), (0, [0, 2])], [], []⟩
def rs11 : List ARes := [.cn 2 3]
def ac11 : ACode :=
 .seq (
  .reg [0, 2] [
    ⟨some 2, .op (.alloc [.int .i64 0, .int .i64 0, .int .i64 0]), none⟩]) (
  .seq (
   .reg [0, 2, 3] [
     ⟨some 5, .op (.mv (.t 0)), none⟩,
     ⟨some 6, .op (.bin .rem (.t 5) (.c (.int .u16 7))), none⟩,
     ⟨some 7, .op (.toInt .i64 (.t 6)), none⟩,
     ⟨some 8, .op (.bin .add (.c (.int .i64 1)) (.t 7)), none⟩,
     ⟨some 3, .op (.mv (.t 8)), none⟩]) (
   .seq (
    .reg [0, 2, 3, 4] [
      ⟨some 9, .op (.mv (.t 0)), none⟩,
      ⟨some 10, .op (.bin .quo (.t 9) (.c (.int .u16 7))), none⟩,
      ⟨some 11, .op (.toInt .i64 (.t 10)), none⟩,
      ⟨some 12, .op (.mv (.t 3)), none⟩,
      ⟨some 13, .op (.bin .rem (.t 11) (.t 12)), none⟩,
      ⟨some 14, .op (.bin .add (.c (.int .i64 1)) (.t 13)), none⟩,
      ⟨some 4, .op (.mv (.t 14)), none⟩]) (
    .seq (
     .reg [2] [
       ⟨some 15, .op (.mv (.t 3)), none⟩,
       ⟨some 16, .op (.mv (.t 4)), none⟩,
       ⟨some 17, .op (.mv (.t 0)), none⟩,
       ⟨some 18, .op (.bin .quo (.t 17) (.c (.int .u16 49))), none⟩,
       ⟨some 19, .op (.toInt .i64 (.t 18)), none⟩,
       ⟨some 20, .op (.mv (.t 4)), none⟩,
       ⟨some 21, .op (.bin .rem (.t 19) (.t 20)), none⟩,
       ⟨some 22, .op (.bin .add (.c (.int .i64 1)) (.t 21)), none⟩,
       ⟨some 23, .op (.build [.int .i64 0, .int .i64 0, .int .i64 0] [(0, 1, (.t 15)), (1, 1, (.t 16)), (2, 1, (.t 22))]), none⟩,
       ⟨none, .op (.st 3 (.t 2) (.t 23)), none⟩]) (
     .ret))))
theorem cf11 : compF Try.prog Try.f11 h11 = some (ac11, rs11) := by kernel_rfl

/-! mailcoach/mailcoachlaw12.few params 2 -/
def h12 : Hints := ⟨[(11, [4]), (10, [2, 4]), (9, [2, 4, 5, 25, 26, 27]), (8, [2, 4, 5, 25, 26, 27]), (7, [2, 4, 5, 7, 25, 26, 27]), (6, [2, 4, 5, 7, 25, 26, 27]), (5, [2, 4, 5, 25, 26, 27, 28]), (4, [2, 4, 5, 25, 26, 27]), (3, [2, 4, 5]), (2, [2, 4]), (1, [2, 3, 4, 10]), (0, [2, 3, 4])], [(5, [2, 4, 5, 25, 26, 27])], [(2, [(0, []), (1, []), (2, []), (3, []), (4, []), (5, []), (6, []), (7, []), (8, []), (9, []), (10, []), (11, []), (12, []), (13, []), (14, [])])]⟩
def rs12 : List ARes := [.cn 4 4]
def ac12 : ACode :=
 .seq (
  .reg [2, 3, 4] [
    ⟨some 2, .op (.box (.t 0)), none⟩,
    ⟨some 3, .op (.box (.t 1)), none⟩,
    ⟨some 4, .op (.alloc [.int .i64 0, .int .u64 0, .nilsl, .bool false]), none⟩]) (
  .seq (
   .seq (
    .reg [2, 3, 4, 10] [
      ⟨some 8, .op (.fieldAddr 3 (.t 2)), none⟩,
      ⟨some 9, .op (.ld1 (.t 8)), none⟩,
      ⟨some 10, .op (.un .not (.t 9)), none⟩]) (
    .cond (.t 10) (
     .seq (
      .dreg [2, 4] [
        (⟨some 11, .op (.fieldAddr 0 (.t 2)), none⟩, []),
        (⟨some 12, .op (.ld1 (.t 11)), none⟩, []),
        (⟨some 13, .op (.toInt .u64 (.t 12)), none⟩, []),
        (⟨some 14, .op (.fieldAddr 0 (.t 3)), none⟩, []),
        (⟨some 15, .op (.ld1 (.t 14)), none⟩, []),
        (⟨some 16, .op (.toInt .u64 (.t 15)), none⟩, []),
        (⟨some 17, .op (.bin .rem (.t 13) (.t 16)), none⟩, []),
        (⟨some 18, .op (.toInt .i64 (.t 17)), none⟩, []),
        (⟨some 19, .op (.fieldAddr 1 (.t 2)), none⟩, []),
        (⟨some 20, .op (.ld1 (.t 19)), none⟩, []),
        (⟨some 21, .op (.bin .rem (.t 20) (.c (.int .u64 4))), none⟩, []),
        (⟨some 22, .op (.fieldAddr 0 (.t 2)), none⟩, []),
        (⟨none, .op (.st 1 (.t 22) (.t 18)), none⟩, []),
        (⟨some 23, .op (.fieldAddr 1 (.t 2)), none⟩, []),
        (⟨none, .op (.st 1 (.t 23) (.t 21)), none⟩, [])]) (
      .seq (
       .reg [2, 4, 5] [
         ⟨some 5, .op (.mv (.c (.nilsl))), none⟩]) (
       .seq (
        .seq (
         .reg [2, 4, 5, 25, 26, 27] [
           ⟨some 24, .op (.fieldAddr 2 (.t 2)), none⟩,
           ⟨some 25, .op (.ld1 (.t 24)), none⟩,
           ⟨some 26, .op (.len 1 (.t 25)), none⟩,
           ⟨some 27, .op (.mv (.c (.int .i64 0))), none⟩]) (
         .block 0 (
          .loop [2, 4, 5, 25, 26, 27] (
           .seq (
            .reg [2, 4, 5, 25, 26, 27, 28] [
              ⟨some 28, .op (.bin .lss (.t 27) (.t 26)), none⟩]) (
            .seq (
             .cond (.t 28) (
              .skip) (
              .exit 0)) (
             .seq (
              .block 1 (
               .seq (
                .reg [2, 4, 5, 7, 25, 26, 27] [
                  ⟨some 29, .op (.idxAddr 2 (.t 25) (.t 27)), none⟩,
                  ⟨some 30, .op (.ldn 2 (.t 29)), none⟩,
                  ⟨some 7, .op (.alloc [.int .u64 0, .nilsl]), none⟩,
                  ⟨none, .op (.st 2 (.t 7) (.t 30)), none⟩]) (
                .seq (
                 .reg [2, 4, 5, 7, 25, 26, 27] [
                   ⟨some 31, .op (.fieldAddr 0 (.t 7)), none⟩,
                   ⟨some 32, .op (.ld1 (.t 31)), none⟩,
                   ⟨some 33, .op (.bin .rem (.t 32) (.c (.int .u64 6))), none⟩,
                   ⟨some 34, .op (.fieldAddr 0 (.t 7)), none⟩,
                   ⟨none, .op (.st 1 (.t 34) (.t 33)), none⟩]) (
                 .reg [2, 4, 5, 25, 26, 27] [
                   ⟨some 35, .op (.mv (.t 5)), none⟩,
                   ⟨some 36, .op (.fieldAddr 0 (.t 7)), none⟩,
                   ⟨some 37, .op (.ld1 (.t 36)), none⟩,
                   ⟨some 38, .op (.fieldAddr 0 (.t 7)), none⟩,
                   ⟨some 39, .op (.ld1 (.t 38)), none⟩,
                   ⟨some 40, .op (.toInt .u8 (.t 39)), none⟩,
                   ⟨some 41, .op (.fieldAddr 1 (.t 7)), none⟩,
                   ⟨some 42, .op (.ld1 (.t 41)), none⟩,
                   ⟨some 43, .op (.len 1 (.t 42)), none⟩,
                   ⟨some 44, .op (.bin .quo (.t 43) (.c (.int .i64 40))), none⟩,
                   ⟨some 45, .op (.toInt .u8 (.t 44)), none⟩,
                   ⟨some 46, .op (.buildSl 1 [.int .u8 0] 2 [(0, (.t 40)), (1, (.t 45))]), none⟩,
                   ⟨some 47, .op (.build [.int .u64 0, .nilsl] [(0, 1, (.t 37)), (1, 1, (.t 46))]), none⟩,
                   ⟨some 48, .op (.buildSl 2 [.int .u64 0, .nilsl] 1 [(0, (.t 47))]), none⟩,
                   ⟨some 49, .op (.append 2 32 (.t 35) (.t 48)), none⟩,
                   ⟨some 5, .op (.mv (.t 49)), none⟩])))) (
              .reg [2, 4, 5, 25, 26, 27] [
                ⟨some 50, .op (.bin .add (.t 27) (.c (.int .i64 1))), none⟩,
                ⟨some 27, .op (.mv (.t 50)), none⟩]))))))) (
        .reg [2, 4] [
          ⟨some 51, .op (.mv (.t 5)), none⟩,
          ⟨some 52, .op (.fieldAddr 2 (.t 2)), none⟩,
          ⟨none, .op (.st 1 (.t 52) (.t 51)), none⟩])))) (
     .skip))) (
   .seq (
    .reg [4] [
      ⟨some 53, .op (.ldn 4 (.t 2)), none⟩,
      ⟨none, .op (.st 4 (.t 4) (.t 53)), none⟩]) (
    .ret)))
theorem cf12 : compF Try.prog Try.f12 h12 = some (ac12, rs12) := by kernel_rfl

/-! (*mailcoach/mender.Mender).Hear params 4 -/
def h13 : Hints := ⟨[(19, [8]), (18, []), (17, [0, 1, 2, 69, 70, 71]), (16, [0, 1, 2, 69, 70, 71]), (15, [0, 1, 2, 15, 69, 70, 71]), (14, [0, 1, 2, 69, 70, 71, 72]), (13, [0, 1, 2, 69, 70, 71]), (12, [0, 1, 2, 3, 35, 36, 37]), (11, [8]), (10, [0, 1, 2, 3, 35, 36, 37, 67]), (9, [0, 1, 2, 3, 9, 10, 11, 12, 13, 35, 36, 37]), (8, [0, 1, 2, 3, 9, 10, 11, 12, 35, 36, 37]), (7, [0, 1, 2, 3, 9, 10, 35, 36, 37]), (6, [0, 1, 2, 3, 35, 36, 37, 38]), (5, [0, 1, 2, 3, 35, 36, 37]), (2, [8]), (4, [8]), (3, [0, 1, 2, 3, 19]), (1, [0, 1, 2, 3, 16]), (0, [0, 1, 2, 3])], [(14, [0, 1, 2, 69, 70, 71]), (6, [0, 1, 2, 3, 35, 36, 37])], [(8, [(0, []), (1, []), (2, []), (3, []), (4, []), (5, []), (6, []), (7, []), (8, []), (9, []), (10, []), (11, [])]), (16, [(0, []), (1, []), (2, []), (3, []), (4, []), (5, []), (6, []), (7, []), (8, [3, 5]), (9, [])]), (18, [(0, []), (1, []), (2, []), (3, []), (4, []), (5, []), (6, []), (7, []), (8, []), (9, []), (10, []), (11, []), (12, []), (13, []), (14, []), (15, []), (16, [])])]⟩
def rs13 : List ARes := [.t 8]
def ac13 : ACode :=
 .seq (
  .reg [0, 1, 2, 3] [
    ⟨some 8, .op (.mv (.c (.int .i64 0))), none⟩]) (
  .seq (
   .block 0 (
    .seq (
     .reg [0, 1, 2, 3, 16] [
       ⟨some 17, .op (.mv (.t 0)), none⟩,
       ⟨some 18, .op (.eqn 0 false (.t 17) (.c (.nilp))), none⟩,
       ⟨some 16, .op (.mv (.t 18)), none⟩]) (
     .cond (.t 16) (
      .seq (
       .reg [8] [
         ⟨some 8, .op (.mv (.c (.int .i64 1))), none⟩]) (
       .ret)) (
      .seq (
       .reg [0, 1, 2, 3, 19] [
         ⟨some 20, .op (.mv (.t 1)), none⟩,
         ⟨some 21, .op (.bin .lss (.t 20) (.c (.int .i64 0))), none⟩,
         ⟨some 22, .op (.mv (.t 21)), none⟩,
         ⟨some 23, .op (.mv (.t 1)), some (22, false)⟩,
         ⟨some 24, .op (.mv (.t 0)), some (22, false)⟩,
         ⟨some 25, .op (.nilCheck (.t 24)), some (22, false)⟩,
         ⟨some 26, .op (.fieldAddr 0 (.t 25)), some (22, false)⟩,
         ⟨some 27, .op (.fieldAddr 0 (.t 26)), some (22, false)⟩,
         ⟨some 28, .op (.ld1 (.t 27)), some (22, false)⟩,
         ⟨some 29, .op (.bin .geq (.t 23) (.t 28)), some (22, false)⟩,
         ⟨some 30, .pick (.t 22) (.c (.bool true)) (.t 29), none⟩,
         ⟨some 31, .op (.mv (.t 30)), none⟩,
         ⟨some 32, .op (.mv (.t 2)), some (31, false)⟩,
         ⟨some 33, .op (.bin .gtr (.t 32) (.c (.int .u64 1048576))), some (31, false)⟩,
         ⟨some 34, .pick (.t 31) (.c (.bool true)) (.t 33), none⟩,
         ⟨some 19, .op (.mv (.t 34)), none⟩]) (
       .cond (.t 19) (
        .seq (
         .reg [8] [
           ⟨some 8, .op (.mv (.c (.int .i64 2))), none⟩]) (
         .ret)) (
        .skip)))))) (
   .seq (
    .seq (
     .reg [0, 1, 2, 3, 35, 36, 37] [
       ⟨some 35, .op (.mv (.t 3)), none⟩,
       ⟨some 36, .op (.len 1 (.t 35)), none⟩,
       ⟨some 37, .op (.mv (.c (.int .i64 0))), none⟩]) (
     .block 1 (
      .loop [0, 1, 2, 3, 35, 36, 37] (
       .seq (
        .reg [0, 1, 2, 3, 35, 36, 37, 38] [
          ⟨some 38, .op (.bin .lss (.t 37) (.t 36)), none⟩]) (
        .seq (
         .cond (.t 38) (
          .skip) (
          .exit 1)) (
         .seq (
          .block 2 (
           .seq (
            .reg [0, 1, 2, 3, 9, 10, 35, 36, 37] [
              ⟨some 39, .op (.mv (.t 37)), none⟩,
              ⟨some 40, .op (.idxAddr 2 (.t 35) (.t 37)), none⟩,
              ⟨some 41, .op (.ldn 2 (.t 40)), none⟩,
              ⟨some 10, .op (.alloc [.int .u64 0, .nilsl]), none⟩,
              ⟨some 9, .op (.mv (.t 39)), none⟩,
              ⟨none, .op (.st 2 (.t 10) (.t 41)), none⟩]) (
            .seq (
             .dreg [0, 1, 2, 3, 9, 10, 11, 12, 35, 36, 37] [
               (⟨some 43, .op (.mv (.t 0)), none⟩, []),
               (⟨some 44, .op (.nilCheck (.t 43)), none⟩, []),
               (⟨some 45, .op (.fieldAddr 5 (.t 44)), none⟩, []),
               (⟨some 46, .op (.ld1 (.t 45)), none⟩, []),
               (⟨some 47, .op (.fieldAddr 0 (.t 10)), none⟩, []),
               (⟨some 48, .op (.ld1 (.t 47)), none⟩, []),
               (⟨some 49, .op (.lookup (.nilsl) false [1] (.t 46) (.t 48) true), none⟩, []),
               (⟨some 42, .op (.mv (.t 49)), none⟩, []),
               (⟨some 50, .op (.extract (.t 42) 0), none⟩, []),
               (⟨some 51, .op (.extract (.t 42) 1), none⟩, []),
               (⟨some 11, .op (.mv (.t 50)), none⟩, []),
               (⟨some 12, .op (.mv (.t 51)), none⟩, [])]) (
             .seq (
              .reg [0, 1, 2, 3, 9, 10, 11, 12, 13, 35, 36, 37] [
                ⟨some 52, .op (.mkfn 27 [] [(.t 10)]), none⟩,
                ⟨some 13, .op (.mv (.t 52)), none⟩]) (
              .seq (
               .reg [0, 1, 2, 3, 35, 36, 37, 67] [
                 ⟨some 53, .op (.mv (.t 12)), none⟩,
                 ⟨some 54, .op (.mv (.t 53)), none⟩,
                 ⟨some 55, .op (.mv (.t 11)), some (54, true)⟩,
                 ⟨some 56, .op (.fieldAddr 1 (.t 10)), some (54, true)⟩,
                 ⟨some 57, .op (.ld1 (.t 56)), some (54, true)⟩,
                 ⟨some 58, .call (.c (.fn 28 [] [])) [(.t 55), (.t 57)], some (54, true)⟩,
                 ⟨some 59, .op (.un .not (.t 58)), some (54, true)⟩,
                 ⟨some 60, .pick (.t 54) (.t 59) (.c (.bool false)), none⟩,
                 ⟨some 61, .op (.mv (.t 60)), none⟩,
                 ⟨some 62, .op (.mv (.t 3)), some (61, false)⟩,
                 ⟨some 63, .op (.mv (.t 9)), some (61, false)⟩,
                 ⟨some 64, .op (.slice 2 (.t 62) none (some (.t 63)) none), some (61, false)⟩,
                 ⟨some 65, .op (.mv (.t 13)), some (61, false)⟩,
                 ⟨some 66, .call (.c (.fn 29 [] [])) [(.t 64), (.t 65)], some (61, false)⟩,
                 ⟨some 67, .pick (.t 61) (.c (.bool true)) (.t 66), none⟩]) (
               .cond (.t 67) (
                .seq (
                 .reg [8] [
                   ⟨some 8, .op (.mv (.c (.int .i64 21))), none⟩]) (
                 .ret)) (
                .skip))))))) (
          .reg [0, 1, 2, 3, 35, 36, 37] [
            ⟨some 68, .op (.bin .add (.t 37) (.c (.int .i64 1))), none⟩,
            ⟨some 37, .op (.mv (.t 68)), none⟩]))))))) (
    .seq (
     .seq (
      .reg [0, 1, 2, 69, 70, 71] [
        ⟨some 69, .op (.mv (.t 3)), none⟩,
        ⟨some 70, .op (.len 1 (.t 69)), none⟩,
        ⟨some 71, .op (.mv (.c (.int .i64 0))), none⟩]) (
      .block 3 (
       .loop [0, 1, 2, 69, 70, 71] (
        .seq (
         .reg [0, 1, 2, 69, 70, 71, 72] [
           ⟨some 72, .op (.bin .lss (.t 71) (.t 70)), none⟩]) (
         .seq (
          .cond (.t 72) (
           .skip) (
           .exit 3)) (
          .seq (
           .block 4 (
            .seq (
             .reg [0, 1, 2, 15, 69, 70, 71] [
               ⟨some 73, .op (.idxAddr 2 (.t 69) (.t 71)), none⟩,
               ⟨some 74, .op (.ldn 2 (.t 73)), none⟩,
               ⟨some 15, .op (.alloc [.int .u64 0, .nilsl]), none⟩,
               ⟨none, .op (.st 2 (.t 15) (.t 74)), none⟩]) (
             .dreg [0, 1, 2, 69, 70, 71] [
               (⟨some 75, .op (.mv (.t 0)), none⟩, []),
               (⟨some 76, .op (.nilCheck (.t 75)), none⟩, []),
               (⟨some 77, .op (.fieldAddr 5 (.t 76)), none⟩, []),
               (⟨some 78, .op (.ld1 (.t 77)), none⟩, []),
               (⟨some 79, .op (.fieldAddr 0 (.t 15)), none⟩, []),
               (⟨some 80, .op (.ld1 (.t 79)), none⟩, []),
               (⟨some 81, .op (.fieldAddr 1 (.t 15)), none⟩, []),
               (⟨some 82, .op (.ld1 (.t 81)), none⟩, []),
               (⟨some 83, .call (.c (.fn 30 [] [])) [(.t 82)], none⟩, [3, 5]),
               (⟨none, .op (.mapSet false [1] (.t 78) (.t 80) (.t 83)), none⟩, [])]))) (
           .reg [0, 1, 2, 69, 70, 71] [
             ⟨some 84, .op (.bin .add (.t 71) (.c (.int .i64 1))), none⟩,
             ⟨some 71, .op (.mv (.t 84)), none⟩]))))))) (
     .seq (
      .dreg [] [
        (⟨some 85, .op (.mv (.t 0)), none⟩, []),
        (⟨some 86, .op (.nilCheck (.t 85)), none⟩, []),
        (⟨some 87, .op (.fieldAddr 3 (.t 86)), none⟩, []),
        (⟨some 88, .op (.ld1 (.t 87)), none⟩, []),
        (⟨some 89, .op (.mv (.t 1)), none⟩, []),
        (⟨some 90, .op (.mv (.t 0)), none⟩, []),
        (⟨some 91, .op (.mv (.t 0)), none⟩, []),
        (⟨some 92, .op (.nilCheck (.t 91)), none⟩, []),
        (⟨some 93, .op (.fieldAddr 4 (.t 92)), none⟩, []),
        (⟨some 94, .op (.ld1 (.t 93)), none⟩, []),
        (⟨some 95, .op (.mv (.t 2)), none⟩, []),
        (⟨some 96, .op (.minmax true (.t 94) (.t 95)), none⟩, []),
        (⟨some 97, .op (.idxAddr 1 (.t 88) (.t 89)), none⟩, []),
        (⟨none, .op (.st 1 (.t 97) (.c (.bool true))), none⟩, []),
        (⟨some 98, .op (.nilCheck (.t 90)), none⟩, []),
        (⟨some 99, .op (.fieldAddr 4 (.t 98)), none⟩, []),
        (⟨none, .op (.st 1 (.t 99) (.t 96)), none⟩, [])]) (
      .seq (
       .reg [8] [
         ⟨some 8, .op (.mv (.c (.int .i64 0))), none⟩]) (
       .ret))))))
theorem cf13 : compF Try.prog Try.f13 h13 = some (ac13, rs13) := by kernel_rfl

/-! (*mailcoach/mender.Mender).Ready params 1 -/
def h15 : Hints := ⟨[(1, [2]), (0, [0])], [], [(1, [(0, []), (1, []), (2, []), (3, []), (4, []), (5, []), (6, []), (7, []), (8, []), (9, []), (10, []), (11, []), (12, []), (13, [])])]⟩
def rs15 : List ARes := [.t 2]
def ac15 : ACode :=
 .seq (
  .reg [0] [
    ⟨some 2, .op (.mv (.c (.bool false))), none⟩]) (
  .seq (
   .dreg [2] [
     (⟨some 3, .op (.mv (.t 0)), none⟩, []),
     (⟨some 4, .op (.eqn 0 true (.t 3) (.c (.nilp))), none⟩, []),
     (⟨some 5, .op (.mv (.t 4)), none⟩, []),
     (⟨some 6, .op (.mv (.t 0)), some (5, true)⟩, []),
     (⟨some 7, .op (.nilCheck (.t 6)), some (5, true)⟩, []),
     (⟨some 8, .op (.fieldAddr 0 (.t 7)), some (5, true)⟩, []),
     (⟨some 9, .op (.ldn 3 (.t 8)), some (5, true)⟩, []),
     (⟨some 10, .op (.mv (.t 0)), some (5, true)⟩, []),
     (⟨some 11, .op (.nilCheck (.t 10)), some (5, true)⟩, []),
     (⟨some 12, .op (.fieldAddr 3 (.t 11)), some (5, true)⟩, []),
     (⟨some 13, .op (.ld1 (.t 12)), some (5, true)⟩, []),
     (⟨some 14, .call (.c (.fn 32 [] [])) [(.t 9), (.t 13)], some (5, true)⟩, []),
     (⟨some 15, .pick (.t 5) (.t 14) (.c (.bool false)), none⟩, []),
     (⟨some 2, .op (.mv (.t 15)), none⟩, [])]) (
   .ret))
theorem cf15 : compF Try.prog Try.f15 h15 = some (ac15, rs15) := by kernel_rfl

/-! (*mailcoach/mender.Mender).Result params 1 -/
def h17 : Hints := ⟨[(13, [2, 3]), (12, [2, 3]), (11, [4, 42]), (7, [0, 4, 5]), (10, [0, 4, 5]), (9, [0, 4, 5, 6, 27]), (8, [0, 4, 5, 6, 7]), (6, [0, 4, 5]), (3, [2, 3]), (5, [2, 3]), (4, [0, 4, 11]), (2, [0, 4, 8]), (1, [0, 4]), (0, [0])], [(8, [0, 4, 5])], []⟩
def rs17 : List ARes := [.t 2, .t 3]
def ac17 : ACode :=
 .seq (
  .reg [0] [
    ⟨some 2, .op (.mv (.c (.nilsl))), none⟩,
    ⟨some 3, .op (.mv (.c (.int .i64 0))), none⟩]) (
  .seq (
   .reg [0, 4] [
     ⟨some 4, .op (.mv (.c (.nilsl))), none⟩]) (
   .seq (
    .block 0 (
     .seq (
      .reg [0, 4, 8] [
        ⟨some 9, .op (.mv (.t 0)), none⟩,
        ⟨some 10, .op (.eqn 0 false (.t 9) (.c (.nilp))), none⟩,
        ⟨some 8, .op (.mv (.t 10)), none⟩]) (
      .cond (.t 8) (
       .seq (
        .reg [2, 3] [
          ⟨some 2, .op (.mv (.c (.nilsl))), none⟩,
          ⟨some 3, .op (.mv (.c (.int .i64 1))), none⟩]) (
        .ret)) (
       .seq (
        .reg [0, 4, 11] [
          ⟨some 12, .op (.mv (.t 0)), none⟩,
          ⟨some 13, .call (.c (.fn 15 [] [])) [(.t 12)], none⟩,
          ⟨some 14, .op (.un .not (.t 13)), none⟩,
          ⟨some 11, .op (.mv (.t 14)), none⟩]) (
        .cond (.t 11) (
         .seq (
          .reg [2, 3] [
            ⟨some 2, .op (.mv (.c (.nilsl))), none⟩,
            ⟨some 3, .op (.mv (.c (.int .i64 23))), none⟩]) (
          .ret)) (
         .skip)))))) (
    .seq (
     .seq (
      .reg [0, 4, 5] [
        ⟨some 5, .op (.mv (.c (.int .u64 0))), none⟩]) (
      .block 1 (
       .loop [0, 4, 5] (
        .seq (
         .block 2 (
          .seq (
           .reg [0, 4, 5, 6, 7] [
             ⟨some 18, .op (.mv (.t 0)), none⟩,
             ⟨some 19, .op (.nilCheck (.t 18)), none⟩,
             ⟨some 20, .op (.fieldAddr 5 (.t 19)), none⟩,
             ⟨some 21, .op (.ld1 (.t 20)), none⟩,
             ⟨some 22, .op (.mv (.t 5)), none⟩,
             ⟨some 23, .op (.lookup (.nilsl) false [1] (.t 21) (.t 22) true), none⟩,
             ⟨some 17, .op (.mv (.t 23)), none⟩,
             ⟨some 24, .op (.extract (.t 17) 0), none⟩,
             ⟨some 25, .op (.extract (.t 17) 1), none⟩,
             ⟨some 6, .op (.mv (.t 24)), none⟩,
             ⟨some 7, .op (.mv (.t 25)), none⟩]) (
           .seq (
            .seq (
             .reg [0, 4, 5, 6, 27] [
               ⟨some 26, .op (.mv (.t 7)), none⟩,
               ⟨some 27, .op (.un .not (.t 26)), none⟩]) (
             .cond (.t 27) (
              .exit 1) (
              .skip))) (
            .reg [0, 4, 5] [
              ⟨some 28, .op (.mv (.t 4)), none⟩,
              ⟨some 29, .op (.mv (.t 5)), none⟩,
              ⟨some 30, .op (.mv (.t 6)), none⟩,
              ⟨some 31, .call (.c (.fn 30 [] [])) [(.t 30)], none⟩,
              ⟨some 32, .op (.build [.int .u64 0, .nilsl] [(0, 1, (.t 29)), (1, 1, (.t 31))]), none⟩,
              ⟨some 33, .op (.buildSl 2 [.int .u64 0, .nilsl] 1 [(0, (.t 32))]), none⟩,
              ⟨some 34, .op (.append 2 32 (.t 28) (.t 33)), none⟩,
              ⟨some 4, .op (.mv (.t 34)), none⟩])))) (
         .reg [0, 4, 5] [
           ⟨some 15, .op (.mv (.t 5)), none⟩,
           ⟨some 16, .op (.bin .add (.t 15) (.c (.int .u64 1))), none⟩,
           ⟨some 5, .op (.mv (.t 16)), none⟩]))))) (
     .seq (
      .seq (
       .reg [4, 42] [
         ⟨some 35, .op (.mv (.t 4)), none⟩,
         ⟨some 36, .op (.len 1 (.t 35)), none⟩,
         ⟨some 37, .op (.toInt .u64 (.t 36)), none⟩,
         ⟨some 38, .op (.mv (.t 0)), none⟩,
         ⟨some 39, .op (.nilCheck (.t 38)), none⟩,
         ⟨some 40, .op (.fieldAddr 4 (.t 39)), none⟩,
         ⟨some 41, .op (.ld1 (.t 40)), none⟩,
         ⟨some 42, .op (.bin .lss (.t 37) (.t 41)), none⟩]) (
       .cond (.t 42) (
        .seq (
         .reg [2, 3] [
           ⟨some 2, .op (.mv (.c (.nilsl))), none⟩,
           ⟨some 3, .op (.mv (.c (.int .i64 22))), none⟩]) (
         .ret)) (
        .skip))) (
      .seq (
       .reg [2, 3] [
         ⟨some 43, .op (.mv (.t 4)), none⟩,
         ⟨some 2, .op (.mv (.t 43)), none⟩,
         ⟨some 3, .op (.mv (.c (.int .i64 0))), none⟩]) (
       .ret))))))
theorem cf17 : compF Try.prog Try.f17 h17 = some (ac17, rs17) := by kernel_rfl

/-! mailcoach/mailcoachref06.SameItems params 2 -/
def h19 : Hints := ⟨[(8, [4]), (5, [0, 1, 5]), (7, [4]), (6, [0, 1, 5, 42]), (4, [0, 1, 5, 14]), (3, [0, 1, 5]), (2, [4]), (1, [0, 1, 10]), (0, [0, 1])], [(4, [0, 1, 5])], [(6, [(0, []), (1, []), (2, []), (3, []), (4, []), (5, []), (6, []), (7, []), (8, []), (9, []), (10, []), (11, []), (12, []), (13, []), (14, []), (15, []), (16, []), (17, []), (18, []), (19, []), (20, []), (21, []), (22, []), (23, []), (24, []), (25, [])])]⟩
def rs19 : List ARes := [.t 4]
def ac19 : ACode :=
 .seq (
  .reg [0, 1] [
    ⟨some 4, .op (.mv (.c (.bool false))), none⟩]) (
  .seq (
   .seq (
    .reg [0, 1, 10] [
      ⟨some 6, .op (.mv (.t 0)), none⟩,
      ⟨some 7, .op (.len 1 (.t 6)), none⟩,
      ⟨some 8, .op (.mv (.t 1)), none⟩,
      ⟨some 9, .op (.len 1 (.t 8)), none⟩,
      ⟨some 10, .op (.bin .neq (.t 7) (.t 9)), none⟩]) (
    .cond (.t 10) (
     .seq (
      .reg [4] [
        ⟨some 4, .op (.mv (.c (.bool false))), none⟩]) (
      .ret)) (
     .skip))) (
   .seq (
    .seq (
     .reg [0, 1, 5] [
       ⟨some 5, .op (.mv (.c (.int .i64 0))), none⟩]) (
     .block 0 (
      .loop [0, 1, 5] (
       .seq (
        .seq (
         .reg [0, 1, 5, 14] [
           ⟨some 11, .op (.mv (.t 5)), none⟩,
           ⟨some 12, .op (.mv (.t 0)), none⟩,
           ⟨some 13, .op (.len 1 (.t 12)), none⟩,
           ⟨some 14, .op (.bin .lss (.t 11) (.t 13)), none⟩]) (
         .cond (.t 14) (
          .skip) (
          .exit 0))) (
        .seq (
         .block 1 (
          .seq (
           .dreg [0, 1, 5, 42] [
             (⟨some 17, .op (.mv (.t 0)), none⟩, []),
             (⟨some 18, .op (.mv (.t 5)), none⟩, []),
             (⟨some 19, .op (.idxAddr 2 (.t 17) (.t 18)), none⟩, []),
             (⟨some 20, .op (.fieldAddr 0 (.t 19)), none⟩, []),
             (⟨some 21, .op (.ld1 (.t 20)), none⟩, []),
             (⟨some 22, .op (.mv (.t 1)), none⟩, []),
             (⟨some 23, .op (.mv (.t 5)), none⟩, []),
             (⟨some 24, .op (.idxAddr 2 (.t 22) (.t 23)), none⟩, []),
             (⟨some 25, .op (.fieldAddr 0 (.t 24)), none⟩, []),
             (⟨some 26, .op (.ld1 (.t 25)), none⟩, []),
             (⟨some 27, .op (.bin .neq (.t 21) (.t 26)), none⟩, []),
             (⟨some 28, .op (.mv (.t 27)), none⟩, []),
             (⟨some 29, .op (.mv (.t 0)), some (28, false)⟩, []),
             (⟨some 30, .op (.mv (.t 5)), some (28, false)⟩, []),
             (⟨some 31, .op (.idxAddr 2 (.t 29) (.t 30)), some (28, false)⟩, []),
             (⟨some 32, .op (.fieldAddr 1 (.t 31)), some (28, false)⟩, []),
             (⟨some 33, .op (.ld1 (.t 32)), some (28, false)⟩, []),
             (⟨some 34, .op (.bytesStr (.t 33)), some (28, false)⟩, []),
             (⟨some 35, .op (.mv (.t 1)), some (28, false)⟩, []),
             (⟨some 36, .op (.mv (.t 5)), some (28, false)⟩, []),
             (⟨some 37, .op (.idxAddr 2 (.t 35) (.t 36)), some (28, false)⟩, []),
             (⟨some 38, .op (.fieldAddr 1 (.t 37)), some (28, false)⟩, []),
             (⟨some 39, .op (.ld1 (.t 38)), some (28, false)⟩, []),
             (⟨some 40, .op (.bytesStr (.t 39)), some (28, false)⟩, []),
             (⟨some 41, .op (.bin .neq (.t 34) (.t 40)), some (28, false)⟩, []),
             (⟨some 42, .pick (.t 28) (.c (.bool true)) (.t 41), none⟩, [])]) (
           .cond (.t 42) (
            .seq (
             .reg [4] [
               ⟨some 4, .op (.mv (.c (.bool false))), none⟩]) (
             .ret)) (
            .skip)))) (
         .reg [0, 1, 5] [
           ⟨some 15, .op (.mv (.t 5)), none⟩,
           ⟨some 16, .op (.bin .add (.t 15) (.c (.int .i64 1))), none⟩,
           ⟨some 5, .op (.mv (.t 16)), none⟩])))))) (
    .seq (
     .reg [4] [
       ⟨some 4, .op (.mv (.c (.bool true))), none⟩]) (
     .ret))))
theorem cf19 : compF Try.prog Try.f19 h19 = some (ac19, rs19) := by kernel_rfl

/-! mailcoach/writer.New params 1 -/
def h20 : Hints := ⟨[(3, [2, 3]), (2, [2, 3]), (1, [1, 6]), (0, [1])], [], []⟩
def rs20 : List ARes := [.t 2, .t 3]
def ac20 : ACode :=
 .seq (
  .reg [1] [
    ⟨some 1, .op (.box (.t 0)), none⟩,
    ⟨some 2, .op (.mv (.c (.nilp))), none⟩,
    ⟨some 3, .op (.mv (.c (.int .i64 0))), none⟩]) (
  .seq (
   .seq (
    .reg [1, 6] [
      ⟨some 4, .op (.ldn 3 (.t 1)), none⟩,
      ⟨some 5, .call (.c (.fn 26 [] [])) [(.t 4)], none⟩,
      ⟨some 6, .op (.un .not (.t 5)), none⟩]) (
    .cond (.t 6) (
     .seq (
      .reg [2, 3] [
        ⟨some 2, .op (.mv (.c (.nilp))), none⟩,
        ⟨some 3, .op (.mv (.c (.int .i64 22))), none⟩]) (
      .ret)) (
     .skip))) (
   .seq (
    .reg [2, 3] [
      ⟨some 7, .op (.ldn 3 (.t 1)), none⟩,
      ⟨some 8, .op (.build [.int .i64 0, .int .i64 0, .int .i64 0, .int .u64 0, .nilsl, .bool false] [(0, 3, (.t 7))]), none⟩,
      ⟨some 9, .op (.box (.t 8)), none⟩,
      ⟨some 2, .op (.mv (.t 9)), none⟩,
      ⟨some 3, .op (.mv (.c (.int .i64 0))), none⟩]) (
    .ret)))
theorem cf20 : compF Try.prog Try.f20 h20 = some (ac20, rs20) := by kernel_rfl

/-! (*mailcoach/writer.Writer).Add params 2 -/
def h21 : Hints := ⟨[(11, [4, 5]), (10, [6]), (9, [0, 1, 6]), (2, [4, 5]), (4, [4, 5]), (6, [4, 5]), (8, [4, 5]), (7, [0, 1, 19]), (5, [0, 1, 15]), (3, [0, 1, 10]), (1, [0, 1, 7]), (0, [0, 1])], [], [(10, [(0, []), (1, []), (2, []), (3, []), (4, []), (5, []), (6, []), (9, []), (10, []), (11, []), (12, []), (13, []), (14, []), (7, [4, 11]), (8, []), (15, []), (16, []), (17, []), (18, []), (19, []), (20, [])])]⟩
def rs21 : List ARes := [.t 4, .t 5]
def ac21 : ACode :=
 .seq (
  .reg [0, 1] [
    ⟨some 4, .op (.mv (.c (.int .u64 0))), none⟩,
    ⟨some 5, .op (.mv (.c (.int .i64 0))), none⟩]) (
  .seq (
   .block 0 (
    .seq (
     .reg [0, 1, 7] [
       ⟨some 8, .op (.mv (.t 0)), none⟩,
       ⟨some 9, .op (.eqn 0 false (.t 8) (.c (.nilp))), none⟩,
       ⟨some 7, .op (.mv (.t 9)), none⟩]) (
     .cond (.t 7) (
      .seq (
       .reg [4, 5] [
         ⟨some 4, .op (.mv (.c (.int .u64 0))), none⟩,
         ⟨some 5, .op (.mv (.c (.int .i64 1))), none⟩]) (
       .ret)) (
      .seq (
       .reg [0, 1, 10] [
         ⟨some 11, .op (.mv (.t 0)), none⟩,
         ⟨some 12, .op (.nilCheck (.t 11)), none⟩,
         ⟨some 13, .op (.fieldAddr 5 (.t 12)), none⟩,
         ⟨some 14, .op (.ld1 (.t 13)), none⟩,
         ⟨some 10, .op (.mv (.t 14)), none⟩]) (
       .cond (.t 10) (
        .seq (
         .reg [4, 5] [
           ⟨some 4, .op (.mv (.c (.int .u64 0))), none⟩,
           ⟨some 5, .op (.mv (.c (.int .i64 24))), none⟩]) (
         .ret)) (
        .seq (
         .reg [0, 1, 15] [
           ⟨some 16, .op (.mv (.t 1)), none⟩,
           ⟨some 17, .op (.len 1 (.t 16)), none⟩,
           ⟨some 18, .op (.bin .gtr (.t 17) (.c (.int .i64 256))), none⟩,
           ⟨some 15, .op (.mv (.t 18)), none⟩]) (
         .cond (.t 15) (
          .seq (
           .reg [4, 5] [
             ⟨some 4, .op (.mv (.c (.int .u64 0))), none⟩,
             ⟨some 5, .op (.mv (.c (.int .i64 3))), none⟩]) (
           .ret)) (
          .seq (
           .reg [0, 1, 19] [
             ⟨some 20, .op (.mv (.t 0)), none⟩,
             ⟨some 21, .op (.nilCheck (.t 20)), none⟩,
             ⟨some 22, .op (.fieldAddr 4 (.t 21)), none⟩,
             ⟨some 23, .op (.ld1 (.t 22)), none⟩,
             ⟨some 24, .op (.len 1 (.t 23)), none⟩,
             ⟨some 25, .op (.bin .geq (.t 24) (.c (.int .i64 64))), none⟩,
             ⟨some 26, .op (.mv (.t 25)), none⟩,
             ⟨some 27, .op (.mv (.t 0)), some (26, false)⟩,
             ⟨some 28, .call (.c (.fn 34 [] [])) [(.t 27)], some (26, false)⟩,
             ⟨some 29, .op (.bin .geq (.t 28) (.c (.int .u64 1048576))), some (26, false)⟩,
             ⟨some 30, .pick (.t 26) (.c (.bool true)) (.t 29), none⟩,
             ⟨some 19, .op (.mv (.t 30)), none⟩]) (
           .cond (.t 19) (
            .seq (
             .reg [4, 5] [
               ⟨some 4, .op (.mv (.c (.int .u64 0))), none⟩,
               ⟨some 5, .op (.mv (.c (.int .i64 14))), none⟩]) (
             .ret)) (
            .skip)))))))))) (
   .seq (
    .reg [0, 1, 6] [
      ⟨some 31, .op (.mv (.t 0)), none⟩,
      ⟨some 32, .call (.c (.fn 34 [] [])) [(.t 31)], none⟩,
      ⟨some 6, .op (.mv (.t 32)), none⟩]) (
    .seq (
     .dreg [6] [
       (⟨some 33, .op (.mv (.t 0)), none⟩, []),
       (⟨some 34, .op (.mv (.t 0)), none⟩, []),
       (⟨some 35, .op (.nilCheck (.t 34)), none⟩, []),
       (⟨some 36, .op (.fieldAddr 4 (.t 35)), none⟩, []),
       (⟨some 37, .op (.ld1 (.t 36)), none⟩, []),
       (⟨some 38, .op (.mv (.t 6)), none⟩, []),
       (⟨some 39, .op (.mv (.t 1)), none⟩, []),
       (⟨some 42, .op (.mv (.t 0)), none⟩, []),
       (⟨some 43, .op (.nilCheck (.t 42)), none⟩, []),
       (⟨some 44, .op (.fieldAddr 0 (.t 43)), none⟩, []),
       (⟨some 45, .op (.fieldAddr 0 (.t 44)), none⟩, []),
       (⟨some 46, .op (.ld1 (.t 45)), none⟩, []),
       (⟨some 47, .op (.mkslice 1 1 [.bool false] (.t 46) (.t 46)), none⟩, []),
       (⟨some 40, .call (.c (.fn 30 [] [])) [(.t 39)], none⟩, [4, 11]),
       (⟨some 41, .op (.build [.int .u64 0, .nilsl] [(0, 1, (.t 38)), (1, 1, (.t 40))]), none⟩, []),
       (⟨some 48, .op (.build [.int .u64 0, .nilsl, .nilsl] [(0, 2, (.t 41)), (2, 1, (.t 47))]), none⟩, []),
       (⟨some 49, .op (.buildSl 3 [.int .u64 0, .nilsl, .nilsl] 1 [(0, (.t 48))]), none⟩, []),
       (⟨some 50, .op (.append 3 56 (.t 37) (.t 49)), none⟩, []),
       (⟨some 51, .op (.nilCheck (.t 33)), none⟩, []),
       (⟨some 52, .op (.fieldAddr 4 (.t 51)), none⟩, []),
       (⟨none, .op (.st 1 (.t 52) (.t 50)), none⟩, [])]) (
     .seq (
      .reg [4, 5] [
        ⟨some 53, .op (.mv (.t 6)), none⟩,
        ⟨some 4, .op (.mv (.t 53)), none⟩,
        ⟨some 5, .op (.mv (.c (.int .i64 0))), none⟩]) (
      .ret)))))
theorem cf21 : compF Try.prog Try.f21 h21 = some (ac21, rs21) := by kernel_rfl

/-! mailcoach/mailcoachref10.Set params 2 -/
def h22 : Hints := ⟨[(12, [4]), (7, [2, 5, 6, 7]), (11, [2, 5, 6, 7]), (10, [2, 5, 6, 7, 32]), (9, [2, 5, 6, 7]), (8, [2, 5, 6, 7]), (6, [2, 5, 6, 7, 20]), (5, [2, 5, 6, 7]), (4, [2, 5, 6]), (3, [4]), (2, [1, 2, 5, 10]), (1, [1, 2, 5]), (0, [1, 2])], [(6, [2, 5, 6, 7])], []⟩
def rs22 : List ARes := [.t 4]
def ac22 : ACode :=
 .seq (
  .reg [1, 2] [
    ⟨some 2, .op (.box (.t 0)), none⟩,
    ⟨some 4, .op (.mv (.c (.nilsl))), none⟩]) (
  .seq (
   .reg [1, 2, 5] [
     ⟨some 5, .op (.mv (.c (.nilsl))), none⟩]) (
   .seq (
    .seq (
     .reg [1, 2, 5, 10] [
       ⟨some 8, .op (.ldn 3 (.t 2)), none⟩,
       ⟨some 9, .call (.c (.fn 10 [] [])) [(.t 8)], none⟩,
       ⟨some 10, .op (.un .not (.t 9)), none⟩]) (
     .cond (.t 10) (
      .seq (
       .reg [4] [
         ⟨some 4, .op (.mv (.c (.nilsl))), none⟩]) (
       .ret)) (
      .skip))) (
    .seq (
     .reg [2, 5, 6] [
       ⟨some 11, .op (.mv (.t 1)), none⟩,
       ⟨some 12, .op (.fieldAddr 0 (.t 2)), none⟩,
       ⟨some 13, .op (.ld1 (.t 12)), none⟩,
       ⟨some 14, .op (.toInt .u64 (.t 13)), none⟩,
       ⟨some 15, .op (.bin .rem (.t 11) (.t 14)), none⟩,
       ⟨some 16, .op (.toInt .i64 (.t 15)), none⟩,
       ⟨some 6, .op (.mv (.t 16)), none⟩]) (
     .seq (
      .seq (
       .reg [2, 5, 6, 7] [
         ⟨some 7, .op (.mv (.c (.int .i64 0))), none⟩]) (
       .block 0 (
        .loop [2, 5, 6, 7] (
         .seq (
          .seq (
           .reg [2, 5, 6, 7, 20] [
             ⟨some 17, .op (.mv (.t 7)), none⟩,
             ⟨some 18, .op (.fieldAddr 1 (.t 2)), none⟩,
             ⟨some 19, .op (.ld1 (.t 18)), none⟩,
             ⟨some 20, .op (.bin .lss (.t 17) (.t 19)), none⟩]) (
           .cond (.t 20) (
            .skip) (
            .exit 0))) (
          .seq (
           .block 1 (
            .seq (
             .reg [2, 5, 6, 7] [
               ⟨some 23, .op (.mv (.t 5)), none⟩,
               ⟨some 24, .op (.mv (.t 6)), none⟩,
               ⟨some 25, .op (.buildSl 1 [.int .i64 0] 1 [(0, (.t 24))]), none⟩,
               ⟨some 26, .op (.append 1 8 (.t 23) (.t 25)), none⟩,
               ⟨some 5, .op (.mv (.t 26)), none⟩]) (
             .seq (
              .reg [2, 5, 6, 7] [
                ⟨some 27, .op (.mv (.t 6)), none⟩,
                ⟨some 28, .op (.bin .add (.t 27) (.c (.int .i64 1))), none⟩,
                ⟨some 6, .op (.mv (.t 28)), none⟩]) (
              .seq (
               .reg [2, 5, 6, 7, 32] [
                 ⟨some 29, .op (.mv (.t 6)), none⟩,
                 ⟨some 30, .op (.fieldAddr 0 (.t 2)), none⟩,
                 ⟨some 31, .op (.ld1 (.t 30)), none⟩,
                 ⟨some 32, .op (.bin .eql (.t 29) (.t 31)), none⟩]) (
               .cond (.t 32) (
                .reg [2, 5, 6, 7] [
                  ⟨some 6, .op (.mv (.c (.int .i64 0))), none⟩]) (
                .skip)))))) (
           .reg [2, 5, 6, 7] [
             ⟨some 21, .op (.mv (.t 7)), none⟩,
             ⟨some 22, .op (.bin .add (.t 21) (.c (.int .i64 1))), none⟩,
             ⟨some 7, .op (.mv (.t 22)), none⟩])))))) (
      .seq (
       .reg [4] [
         ⟨some 33, .op (.mv (.t 5)), none⟩,
         ⟨some 4, .op (.mv (.t 33)), none⟩]) (
       .ret))))))
theorem cf22 : compF Try.prog Try.f22 h22 = some (ac22, rs22) := by kernel_rfl

/-! (*mailcoach/writer.Writer).Ack params 3 -/
def h23 : Hints := ⟨[(9, [6]), (8, [0, 7]), (7, [0, 7]), (6, [0, 7]), (5, [0, 7, 73]), (4, [0, 7]), (3, [0]), (2, [6]), (1, [0, 1, 2, 34]), (0, [0, 1, 2])], [(5, [0, 7])], [(3, [(0, []), (1, []), (2, []), (3, []), (4, []), (5, []), (6, []), (7, []), (8, []), (9, []), (10, []), (11, []), (12, []), (13, []), (14, []), (15, [])]), (5, [(0, []), (1, []), (2, []), (3, []), (4, []), (5, []), (6, []), (7, []), (8, []), (9, []), (10, []), (11, []), (12, []), (13, []), (14, []), (15, []), (16, []), (17, []), (18, []), (19, []), (20, []), (21, []), (22, []), (23, [])])]⟩
def rs23 : List ARes := [.t 6]
def ac23 : ACode :=
 .seq (
  .reg [0, 1, 2] [
    ⟨some 6, .op (.mv (.c (.nilsl))), none⟩]) (
  .seq (
   .seq (
    .reg [0, 1, 2, 34] [
      ⟨some 8, .op (.mv (.t 0)), none⟩,
      ⟨some 9, .op (.eqn 0 false (.t 8) (.c (.nilp))), none⟩,
      ⟨some 10, .op (.mv (.t 9)), none⟩,
      ⟨some 11, .op (.mv (.t 2)), some (10, false)⟩,
      ⟨some 12, .op (.mv (.t 0)), some (10, false)⟩,
      ⟨some 13, .op (.nilCheck (.t 12)), some (10, false)⟩,
      ⟨some 14, .op (.fieldAddr 3 (.t 13)), some (10, false)⟩,
      ⟨some 15, .op (.ld1 (.t 14)), some (10, false)⟩,
      ⟨some 16, .op (.bin .lss (.t 11) (.t 15)), some (10, false)⟩,
      ⟨some 17, .pick (.t 10) (.c (.bool true)) (.t 16), none⟩,
      ⟨some 18, .op (.mv (.t 17)), none⟩,
      ⟨some 19, .op (.mv (.t 2)), some (18, false)⟩,
      ⟨some 20, .op (.mv (.t 0)), some (18, false)⟩,
      ⟨some 21, .call (.c (.fn 34 [] [])) [(.t 20)], some (18, false)⟩,
      ⟨some 22, .op (.bin .geq (.t 19) (.t 21)), some (18, false)⟩,
      ⟨some 23, .pick (.t 18) (.c (.bool true)) (.t 22), none⟩,
      ⟨some 24, .op (.mv (.t 23)), none⟩,
      ⟨some 25, .op (.mv (.t 0)), some (24, false)⟩,
      ⟨some 26, .op (.nilCheck (.t 25)), some (24, false)⟩,
      ⟨some 27, .op (.fieldAddr 0 (.t 26)), some (24, false)⟩,
      ⟨some 28, .op (.ldn 3 (.t 27)), some (24, false)⟩,
      ⟨some 29, .op (.mv (.t 2)), some (24, false)⟩,
      ⟨some 30, .call (.c (.fn 36 [] [])) [(.t 28), (.t 29)], some (24, false)⟩,
      ⟨some 31, .op (.mv (.t 1)), some (24, false)⟩,
      ⟨some 32, .call (.c (.fn 35 [] [])) [(.t 30), (.t 31)], some (24, false)⟩,
      ⟨some 33, .op (.un .not (.t 32)), some (24, false)⟩,
      ⟨some 34, .pick (.t 24) (.c (.bool true)) (.t 33), none⟩]) (
    .cond (.t 34) (
     .seq (
      .reg [6] [
        ⟨some 6, .op (.mv (.c (.nilsl))), none⟩]) (
      .ret)) (
     .skip))) (
   .seq (
    .dreg [0] [
      (⟨some 35, .op (.mv (.t 0)), none⟩, []),
      (⟨some 36, .op (.nilCheck (.t 35)), none⟩, []),
      (⟨some 37, .op (.fieldAddr 4 (.t 36)), none⟩, []),
      (⟨some 38, .op (.ld1 (.t 37)), none⟩, []),
      (⟨some 39, .op (.mv (.t 2)), none⟩, []),
      (⟨some 40, .op (.mv (.t 0)), none⟩, []),
      (⟨some 41, .op (.nilCheck (.t 40)), none⟩, []),
      (⟨some 42, .op (.fieldAddr 3 (.t 41)), none⟩, []),
      (⟨some 43, .op (.ld1 (.t 42)), none⟩, []),
      (⟨some 44, .op (.bin .sub (.t 39) (.t 43)), none⟩, []),
      (⟨some 45, .op (.idxAddr 3 (.t 38) (.t 44)), none⟩, []),
      (⟨some 46, .op (.fieldAddr 2 (.t 45)), none⟩, []),
      (⟨some 47, .op (.ld1 (.t 46)), none⟩, []),
      (⟨some 48, .op (.mv (.t 1)), none⟩, []),
      (⟨some 49, .op (.idxAddr 1 (.t 47) (.t 48)), none⟩, []),
      (⟨none, .op (.st 1 (.t 49) (.c (.bool true))), none⟩, [])]) (
    .seq (
     .reg [0, 7] [
       ⟨some 7, .op (.mv (.c (.nilsl))), none⟩]) (
     .seq (
      .block 0 (
       .loop [0, 7] (
        .seq (
         .seq (
          .dreg [0, 7, 73] [
            (⟨some 50, .op (.mv (.t 0)), none⟩, []),
            (⟨some 51, .op (.nilCheck (.t 50)), none⟩, []),
            (⟨some 52, .op (.fieldAddr 4 (.t 51)), none⟩, []),
            (⟨some 53, .op (.ld1 (.t 52)), none⟩, []),
            (⟨some 54, .op (.len 1 (.t 53)), none⟩, []),
            (⟨some 55, .op (.bin .gtr (.t 54) (.c (.int .i64 0))), none⟩, []),
            (⟨some 56, .op (.mv (.t 55)), none⟩, []),
            (⟨some 57, .op (.mv (.t 0)), some (56, true)⟩, []),
            (⟨some 58, .op (.nilCheck (.t 57)), some (56, true)⟩, []),
            (⟨some 59, .op (.fieldAddr 0 (.t 58)), some (56, true)⟩, []),
            (⟨some 60, .op (.ldn 3 (.t 59)), some (56, true)⟩, []),
            (⟨some 61, .op (.mv (.t 0)), some (56, true)⟩, []),
            (⟨some 62, .op (.nilCheck (.t 61)), some (56, true)⟩, []),
            (⟨some 63, .op (.fieldAddr 3 (.t 62)), some (56, true)⟩, []),
            (⟨some 64, .op (.ld1 (.t 63)), some (56, true)⟩, []),
            (⟨some 65, .op (.mv (.t 0)), some (56, true)⟩, []),
            (⟨some 66, .op (.nilCheck (.t 65)), some (56, true)⟩, []),
            (⟨some 67, .op (.fieldAddr 4 (.t 66)), some (56, true)⟩, []),
            (⟨some 68, .op (.ld1 (.t 67)), some (56, true)⟩, []),
            (⟨some 69, .op (.idxAddr 3 (.t 68) (.c (.int .i64 0))), some (56, true)⟩, []),
            (⟨some 70, .op (.fieldAddr 2 (.t 69)), some (56, true)⟩, []),
            (⟨some 71, .op (.ld1 (.t 70)), some (56, true)⟩, []),
            (⟨some 72, .call (.c (.fn 37 [] [])) [(.t 60), (.t 64), (.t 71)], some (56, true)⟩, []),
            (⟨some 73, .pick (.t 56) (.t 72) (.c (.bool false)), none⟩, [])]) (
          .cond (.t 73) (
           .skip) (
           .exit 0))) (
         .block 1 (
          .seq (
           .reg [0, 7] [
             ⟨some 74, .op (.mv (.t 7)), none⟩,
             ⟨some 75, .op (.mv (.t 0)), none⟩,
             ⟨some 76, .op (.nilCheck (.t 75)), none⟩,
             ⟨some 77, .op (.fieldAddr 4 (.t 76)), none⟩,
             ⟨some 78, .op (.ld1 (.t 77)), none⟩,
             ⟨some 79, .op (.idxAddr 3 (.t 78) (.c (.int .i64 0))), none⟩,
             ⟨some 80, .op (.fieldAddr 0 (.t 79)), none⟩,
             ⟨some 81, .op (.ldn 2 (.t 80)), none⟩,
             ⟨some 82, .op (.buildSl 2 [.int .u64 0, .nilsl] 1 [(0, (.t 81))]), none⟩,
             ⟨some 83, .op (.append 2 32 (.t 74) (.t 82)), none⟩,
             ⟨some 7, .op (.mv (.t 83)), none⟩]) (
           .seq (
            .reg [0, 7] [
              ⟨some 84, .op (.mv (.t 0)), none⟩,
              ⟨some 85, .op (.mv (.t 0)), none⟩,
              ⟨some 86, .op (.nilCheck (.t 85)), none⟩,
              ⟨some 87, .op (.fieldAddr 4 (.t 86)), none⟩,
              ⟨some 88, .op (.ld1 (.t 87)), none⟩,
              ⟨some 89, .op (.slice 3 (.t 88) (some (.c (.int .i64 1))) none none), none⟩,
              ⟨some 90, .op (.nilCheck (.t 84)), none⟩,
              ⟨some 91, .op (.fieldAddr 4 (.t 90)), none⟩,
              ⟨none, .op (.st 1 (.t 91) (.t 89)), none⟩]) (
            .reg [0, 7] [
              ⟨some 92, .op (.mv (.t 0)), none⟩,
              ⟨some 93, .op (.nilCheck (.t 92)), none⟩,
              ⟨some 94, .op (.fieldAddr 3 (.t 93)), none⟩,
              ⟨some 95, .op (.ld1 (.t 94)), none⟩,
              ⟨some 96, .op (.bin .add (.t 95) (.c (.int .u64 1))), none⟩,
              ⟨some 97, .op (.nilCheck (.t 92)), none⟩,
              ⟨some 98, .op (.fieldAddr 3 (.t 97)), none⟩,
              ⟨none, .op (.st 1 (.t 98) (.t 96)), none⟩]))))))) (
      .seq (
       .reg [6] [
         ⟨some 99, .op (.mv (.t 7)), none⟩,
         ⟨some 6, .op (.mv (.t 99)), none⟩]) (
       .ret))))))
theorem cf23 : compF Try.prog Try.f23 h23 = some (ac23, rs23) := by kernel_rfl

/-! (*mailcoach/writer.Writer).Sure params 1 -/
def h24 : Hints := ⟨[(3, [2]), (2, [2]), (1, [0, 4]), (0, [0])], [], []⟩
def rs24 : List ARes := [.t 2]
def ac24 : ACode :=
 .seq (
  .reg [0] [
    ⟨some 2, .op (.mv (.c (.int .u64 0))), none⟩]) (
  .seq (
   .seq (
    .reg [0, 4] [
      ⟨some 3, .op (.mv (.t 0)), none⟩,
      ⟨some 4, .op (.eqn 0 false (.t 3) (.c (.nilp))), none⟩]) (
    .cond (.t 4) (
     .seq (
      .reg [2] [
        ⟨some 2, .op (.mv (.c (.int .u64 0))), none⟩]) (
      .ret)) (
     .skip))) (
   .seq (
    .reg [2] [
      ⟨some 5, .op (.mv (.t 0)), none⟩,
      ⟨some 6, .op (.nilCheck (.t 5)), none⟩,
      ⟨some 7, .op (.fieldAddr 3 (.t 6)), none⟩,
      ⟨some 8, .op (.ld1 (.t 7)), none⟩,
      ⟨some 2, .op (.mv (.t 8)), none⟩]) (
    .ret)))
theorem cf24 : compF Try.prog Try.f24 h24 = some (ac24, rs24) := by kernel_rfl

/-! mailcoach/mailcoachlaw12.held params 2 -/
def h25 : Hints := ⟨[(7, [4]), (6, [1, 7, 8, 9]), (5, [4]), (4, [1, 7, 8, 9, 35]), (3, [1, 5, 6, 7, 8, 9]), (2, [1, 7, 8, 9, 10]), (1, [1, 7, 8, 9]), (0, [0, 1])], [(2, [1, 7, 8, 9])], [(4, [(0, []), (1, []), (2, []), (3, []), (4, []), (5, []), (6, []), (7, []), (8, []), (9, []), (10, []), (11, []), (12, []), (13, []), (14, []), (15, []), (16, []), (17, []), (18, []), (19, []), (20, []), (21, [])])]⟩
def rs25 : List ARes := [.t 4]
def ac25 : ACode :=
 .seq (
  .reg [0, 1] [
    ⟨some 4, .op (.mv (.c (.bool false))), none⟩]) (
  .seq (
   .seq (
    .reg [1, 7, 8, 9] [
      ⟨some 7, .op (.mv (.t 0)), none⟩,
      ⟨some 8, .op (.len 1 (.t 7)), none⟩,
      ⟨some 9, .op (.mv (.c (.int .i64 0))), none⟩]) (
    .block 0 (
     .loop [1, 7, 8, 9] (
      .seq (
       .reg [1, 7, 8, 9, 10] [
         ⟨some 10, .op (.bin .lss (.t 9) (.t 8)), none⟩]) (
       .seq (
        .cond (.t 10) (
         .skip) (
         .exit 0)) (
        .seq (
         .block 1 (
          .seq (
           .reg [1, 5, 6, 7, 8, 9] [
             ⟨some 11, .op (.mv (.t 9)), none⟩,
             ⟨some 12, .op (.idxAddr 2 (.t 7) (.t 9)), none⟩,
             ⟨some 13, .op (.ldn 2 (.t 12)), none⟩,
             ⟨some 6, .op (.alloc [.int .u64 0, .nilsl]), none⟩,
             ⟨some 5, .op (.mv (.t 11)), none⟩,
             ⟨none, .op (.st 2 (.t 6) (.t 13)), none⟩]) (
           .seq (
            .dreg [1, 7, 8, 9, 35] [
              (⟨some 14, .op (.fieldAddr 0 (.t 6)), none⟩, []),
              (⟨some 15, .op (.ld1 (.t 14)), none⟩, []),
              (⟨some 16, .op (.mv (.t 5)), none⟩, []),
              (⟨some 17, .op (.toInt .u64 (.t 16)), none⟩, []),
              (⟨some 18, .op (.bin .neq (.t 15) (.t 17)), none⟩, []),
              (⟨some 19, .op (.mv (.t 18)), none⟩, []),
              (⟨some 20, .op (.mv (.t 5)), some (19, false)⟩, []),
              (⟨some 21, .op (.mv (.t 1)), some (19, false)⟩, []),
              (⟨some 22, .op (.len 1 (.t 21)), some (19, false)⟩, []),
              (⟨some 23, .op (.bin .geq (.t 20) (.t 22)), some (19, false)⟩, []),
              (⟨some 24, .pick (.t 19) (.c (.bool true)) (.t 23), none⟩, []),
              (⟨some 25, .op (.mv (.t 24)), none⟩, []),
              (⟨some 26, .op (.fieldAddr 1 (.t 6)), some (25, false)⟩, []),
              (⟨some 27, .op (.ld1 (.t 26)), some (25, false)⟩, []),
              (⟨some 28, .op (.bytesStr (.t 27)), some (25, false)⟩, []),
              (⟨some 29, .op (.mv (.t 1)), some (25, false)⟩, []),
              (⟨some 30, .op (.mv (.t 5)), some (25, false)⟩, []),
              (⟨some 31, .op (.idxAddr 1 (.t 29) (.t 30)), some (25, false)⟩, []),
              (⟨some 32, .op (.ld1 (.t 31)), some (25, false)⟩, []),
              (⟨some 33, .op (.bytesStr (.t 32)), some (25, false)⟩, []),
              (⟨some 34, .op (.bin .neq (.t 28) (.t 33)), some (25, false)⟩, []),
              (⟨some 35, .pick (.t 25) (.c (.bool true)) (.t 34), none⟩, [])]) (
            .cond (.t 35) (
             .seq (
              .reg [4] [
                ⟨some 4, .op (.mv (.c (.bool false))), none⟩]) (
              .ret)) (
             .skip))))) (
         .reg [1, 7, 8, 9] [
           ⟨some 36, .op (.bin .add (.t 9) (.c (.int .i64 1))), none⟩,
           ⟨some 9, .op (.mv (.t 36)), none⟩]))))))) (
   .seq (
    .reg [4] [
      ⟨some 4, .op (.mv (.c (.bool true))), none⟩]) (
    .ret)))
theorem cf25 : compF Try.prog Try.f25 h25 = some (ac25, rs25) := by kernel_rfl

/-! mailcoach/quorum.Check params 1 -/
def h26 : Hints := ⟨[(1, [2]), (0, [1])], [], []⟩
def rs26 : List ARes := [.t 2]
def ac26 : ACode :=
 .seq (
  .reg [1] [
    ⟨some 1, .op (.box (.t 0)), none⟩,
    ⟨some 2, .op (.mv (.c (.bool false))), none⟩]) (
  .seq (
   .reg [2] [
     ⟨some 3, .op (.fieldAddr 2 (.t 1)), none⟩,
     ⟨some 4, .op (.ld1 (.t 3)), none⟩,
     ⟨some 5, .op (.bin .leq (.c (.int .i64 1)) (.t 4)), none⟩,
     ⟨some 6, .op (.mv (.t 5)), none⟩,
     ⟨some 7, .op (.fieldAddr 2 (.t 1)), some (6, true)⟩,
     ⟨some 8, .op (.ld1 (.t 7)), some (6, true)⟩,
     ⟨some 9, .op (.fieldAddr 1 (.t 1)), some (6, true)⟩,
     ⟨some 10, .op (.ld1 (.t 9)), some (6, true)⟩,
     ⟨some 11, .op (.bin .leq (.t 8) (.t 10)), some (6, true)⟩,
     ⟨some 12, .pick (.t 6) (.t 11) (.c (.bool false)), none⟩,
     ⟨some 13, .op (.mv (.t 12)), none⟩,
     ⟨some 14, .op (.fieldAddr 1 (.t 1)), some (13, true)⟩,
     ⟨some 15, .op (.ld1 (.t 14)), some (13, true)⟩,
     ⟨some 16, .op (.fieldAddr 0 (.t 1)), some (13, true)⟩,
     ⟨some 17, .op (.ld1 (.t 16)), some (13, true)⟩,
     ⟨some 18, .op (.bin .leq (.t 15) (.t 17)), some (13, true)⟩,
     ⟨some 19, .pick (.t 13) (.t 18) (.c (.bool false)), none⟩,
     ⟨some 20, .op (.mv (.t 19)), none⟩,
     ⟨some 21, .op (.fieldAddr 0 (.t 1)), some (20, true)⟩,
     ⟨some 22, .op (.ld1 (.t 21)), some (20, true)⟩,
     ⟨some 23, .op (.bin .leq (.t 22) (.c (.int .i64 7))), some (20, true)⟩,
     ⟨some 24, .pick (.t 20) (.t 23) (.c (.bool false)), none⟩,
     ⟨some 2, .op (.mv (.t 24)), none⟩]) (
   .ret))
theorem cf26 : compF Try.prog Try.f26 h26 = some (ac26, rs26) := by kernel_rfl

/-! (*mailcoach/mender.Mender).Hear$1 params 2 -/
def h27 : Hints := ⟨[(1, [3]), (0, [1, 2])], [], []⟩
def rs27 : List ARes := [.t 3]
def ac27 : ACode :=
 .seq (
  .reg [1, 2] [
    ⟨some 2, .op (.box (.t 0)), none⟩,
    ⟨some 3, .op (.mv (.c (.bool false))), none⟩]) (
  .seq (
   .reg [3] [
     ⟨some 4, .op (.fieldAddr 0 (.t 2)), none⟩,
     ⟨some 5, .op (.ld1 (.t 4)), none⟩,
     ⟨some 6, .op (.fieldAddr 0 (.t 1)), none⟩,
     ⟨some 7, .op (.ld1 (.t 6)), none⟩,
     ⟨some 8, .op (.bin .eql (.t 5) (.t 7)), none⟩,
     ⟨some 9, .op (.mv (.t 8)), none⟩,
     ⟨some 10, .op (.fieldAddr 1 (.t 2)), some (9, true)⟩,
     ⟨some 11, .op (.ld1 (.t 10)), some (9, true)⟩,
     ⟨some 12, .op (.fieldAddr 1 (.t 1)), some (9, true)⟩,
     ⟨some 13, .op (.ld1 (.t 12)), some (9, true)⟩,
     ⟨some 14, .call (.c (.fn 28 [] [])) [(.t 11), (.t 13)], some (9, true)⟩,
     ⟨some 15, .op (.un .not (.t 14)), some (9, true)⟩,
     ⟨some 16, .pick (.t 9) (.t 15) (.c (.bool false)), none⟩,
     ⟨some 3, .op (.mv (.t 16)), none⟩]) (
   .ret))
theorem cf27 : compF Try.prog Try.f27 h27 = some (ac27, rs27) := by kernel_rfl

/-! bytes.Equal params 2 -/
def h28 : Hints := ⟨[(1, [4]), (0, [0, 1])], [], []⟩
def rs28 : List ARes := [.t 4]
def ac28 : ACode :=
 .seq (
  .reg [0, 1] [
    ⟨some 4, .op (.mv (.c (.bool false))), none⟩]) (
  .seq (
   .reg [4] [
     ⟨some 5, .op (.mv (.t 0)), none⟩,
     ⟨some 6, .op (.bytesStr (.t 5)), none⟩,
     ⟨some 7, .op (.mv (.t 1)), none⟩,
     ⟨some 8, .op (.bytesStr (.t 7)), none⟩,
     ⟨some 9, .op (.bin .eql (.t 6) (.t 8)), none⟩,
     ⟨some 4, .op (.mv (.t 9)), none⟩]) (
   .ret))
theorem cf28 : compF Try.prog Try.f28 h28 = some (ac28, rs28) := by kernel_rfl

/-! slices.ContainsFunc[[]mailcoach/api.Item,mailcoach/api.Item] params 2 -/
def h29 : Hints := ⟨[(1, [4]), (0, [0, 1])], [], []⟩
def rs29 : List ARes := [.t 4]
def ac29 : ACode :=
 .seq (
  .reg [0, 1] [
    ⟨some 4, .op (.mv (.c (.bool false))), none⟩]) (
  .seq (
   .reg [4] [
     ⟨some 5, .op (.mv (.t 0)), none⟩,
     ⟨some 6, .op (.mv (.t 1)), none⟩,
     ⟨some 7, .call (.c (.fn 38 [] [])) [(.t 5), (.t 6)], none⟩,
     ⟨some 8, .op (.bin .geq (.t 7) (.c (.int .i64 0))), none⟩,
     ⟨some 4, .op (.mv (.t 8)), none⟩]) (
   .ret))
theorem cf29 : compF Try.prog Try.f29 h29 = some (ac29, rs29) := by kernel_rfl

/-! slices.Clone[[]byte,byte] params 1 -/
def h30 : Hints := ⟨[(3, [2]), (2, [2]), (1, [0, 4]), (0, [0])], [], []⟩
def rs30 : List ARes := [.t 2]
def ac30 : ACode :=
 .seq (
  .reg [0] [
    ⟨some 2, .op (.mv (.c (.nilsl))), none⟩]) (
  .seq (
   .seq (
    .reg [0, 4] [
      ⟨some 3, .op (.mv (.t 0)), none⟩,
      ⟨some 4, .op (.eqn 1 false (.t 3) (.c (.nilsl))), none⟩]) (
    .cond (.t 4) (
     .seq (
      .reg [2] [
        ⟨some 2, .op (.mv (.c (.nilsl))), none⟩]) (
      .ret)) (
     .skip))) (
   .seq (
    .reg [2] [
      ⟨some 5, .op (.buildSl 1 [.int .u8 0] 0 []), none⟩,
      ⟨some 6, .op (.mv (.t 0)), none⟩,
      ⟨some 7, .op (.append 1 1 (.t 5) (.t 6)), none⟩,
      ⟨some 2, .op (.mv (.t 7)), none⟩]) (
    .ret)))
theorem cf30 : compF Try.prog Try.f30 h30 = some (ac30, rs30) := by kernel_rfl

/-! mailcoach/mailcoachref10.find params 2 -/
def h31 : Hints := ⟨[(6, [4]), (3, [0, 1, 5]), (5, [4]), (4, [0, 1, 5, 18]), (2, [0, 1, 5, 9]), (1, [0, 1, 5]), (0, [0, 1])], [(2, [0, 1, 5])], []⟩
def rs31 : List ARes := [.t 4]
def ac31 : ACode :=
 .seq (
  .reg [0, 1] [
    ⟨some 4, .op (.mv (.c (.int .i64 0))), none⟩]) (
  .seq (
   .seq (
    .reg [0, 1, 5] [
      ⟨some 5, .op (.mv (.c (.int .i64 0))), none⟩]) (
    .block 0 (
     .loop [0, 1, 5] (
      .seq (
       .seq (
        .reg [0, 1, 5, 9] [
          ⟨some 6, .op (.mv (.t 5)), none⟩,
          ⟨some 7, .op (.mv (.t 0)), none⟩,
          ⟨some 8, .op (.len 1 (.t 7)), none⟩,
          ⟨some 9, .op (.bin .lss (.t 6) (.t 8)), none⟩]) (
        .cond (.t 9) (
         .skip) (
         .exit 0))) (
       .seq (
        .block 1 (
         .seq (
          .reg [0, 1, 5, 18] [
            ⟨some 12, .op (.mv (.t 0)), none⟩,
            ⟨some 13, .op (.mv (.t 5)), none⟩,
            ⟨some 14, .op (.idxAddr 2 (.t 12) (.t 13)), none⟩,
            ⟨some 15, .op (.fieldAddr 0 (.t 14)), none⟩,
            ⟨some 16, .op (.ld1 (.t 15)), none⟩,
            ⟨some 17, .op (.mv (.t 1)), none⟩,
            ⟨some 18, .op (.bin .eql (.t 16) (.t 17)), none⟩]) (
          .cond (.t 18) (
           .seq (
            .reg [4] [
              ⟨some 19, .op (.mv (.t 5)), none⟩,
              ⟨some 4, .op (.mv (.t 19)), none⟩]) (
            .ret)) (
           .skip)))) (
        .reg [0, 1, 5] [
          ⟨some 10, .op (.mv (.t 5)), none⟩,
          ⟨some 11, .op (.bin .add (.t 10) (.c (.int .i64 1))), none⟩,
          ⟨some 5, .op (.mv (.t 11)), none⟩])))))) (
   .seq (
    .reg [4] [
      ⟨some 4, .op (.mv (.c (.int .i64 (-1)))), none⟩]) (
    .ret)))
theorem cf31 : compF Try.prog Try.f31 h31 = some (ac31, rs31) := by kernel_rfl

/-! mailcoach/quorum.Covered params 2 -/
def h32 : Hints := ⟨[(9, [4]), (8, [1, 2, 10, 11]), (7, [4]), (6, [1, 2, 10, 11, 24]), (5, [1, 2, 5, 10, 11]), (4, [1, 2, 10, 11, 12]), (3, [1, 2, 10, 11]), (2, [4]), (1, [1, 2, 8]), (0, [1, 2])], [(4, [1, 2, 10, 11])], [(6, [(0, []), (1, []), (2, []), (3, []), (5, []), (6, []), (7, []), (8, []), (9, []), (4, [5, 7]), (10, [])])]⟩
def rs32 : List ARes := [.t 4]
def ac32 : ACode :=
 .seq (
  .reg [1, 2] [
    ⟨some 2, .op (.box (.t 0)), none⟩,
    ⟨some 4, .op (.mv (.c (.bool false))), none⟩]) (
  .seq (
   .seq (
    .reg [1, 2, 8] [
      ⟨some 6, .op (.ldn 3 (.t 2)), none⟩,
      ⟨some 7, .call (.c (.fn 26 [] [])) [(.t 6)], none⟩,
      ⟨some 8, .op (.un .not (.t 7)), none⟩]) (
    .cond (.t 8) (
     .seq (
      .reg [4] [
        ⟨some 4, .op (.mv (.c (.bool false))), none⟩]) (
      .ret)) (
     .skip))) (
   .seq (
    .seq (
     .reg [1, 2, 10, 11] [
       ⟨some 9, .op (.fieldAddr 0 (.t 2)), none⟩,
       ⟨some 10, .op (.ld1 (.t 9)), none⟩,
       ⟨some 11, .op (.mv (.c (.int .i64 0))), none⟩]) (
     .block 0 (
      .loop [1, 2, 10, 11] (
       .seq (
        .reg [1, 2, 10, 11, 12] [
          ⟨some 12, .op (.bin .lss (.t 11) (.t 10)), none⟩]) (
        .seq (
         .cond (.t 12) (
          .skip) (
          .exit 0)) (
         .seq (
          .block 1 (
           .seq (
            .reg [1, 2, 5, 10, 11] [
              ⟨some 13, .op (.mv (.t 11)), none⟩,
              ⟨some 5, .op (.mv (.t 13)), none⟩]) (
            .seq (
             .dreg [1, 2, 10, 11, 24] [
               (⟨some 14, .op (.ldn 3 (.t 2)), none⟩, []),
               (⟨some 15, .op (.mv (.t 5)), none⟩, []),
               (⟨some 16, .op (.toInt .u64 (.t 15)), none⟩, []),
               (⟨some 17, .op (.mv (.t 1)), none⟩, []),
               (⟨some 19, .op (.fieldAddr 1 (.t 2)), none⟩, []),
               (⟨some 20, .op (.ld1 (.t 19)), none⟩, []),
               (⟨some 21, .op (.fieldAddr 2 (.t 2)), none⟩, []),
               (⟨some 22, .op (.ld1 (.t 21)), none⟩, []),
               (⟨some 23, .op (.bin .sub (.t 20) (.t 22)), none⟩, []),
               (⟨some 18, .call (.c (.fn 39 [] [])) [(.t 14), (.t 16), (.t 17)], none⟩, [5, 7]),
               (⟨some 24, .op (.bin .leq (.t 18) (.t 23)), none⟩, [])]) (
             .cond (.t 24) (
              .seq (
               .reg [4] [
                 ⟨some 4, .op (.mv (.c (.bool false))), none⟩]) (
               .ret)) (
              .skip))))) (
          .reg [1, 2, 10, 11] [
            ⟨some 25, .op (.bin .add (.t 11) (.c (.int .i64 1))), none⟩,
            ⟨some 11, .op (.mv (.t 25)), none⟩]))))))) (
    .seq (
     .reg [4] [
       ⟨some 4, .op (.mv (.c (.bool true))), none⟩]) (
     .ret))))
theorem cf32 : compF Try.prog Try.f32 h32 = some (ac32, rs32) := by kernel_rfl

/-! mailcoach/mailcoachref10.Count params 3 -/
def h33 : Hints := ⟨[(7, [6]), (4, [1, 2, 3, 7, 8]), (6, [1, 2, 3, 7, 8]), (5, [1, 2, 3, 7, 8, 31]), (3, [1, 2, 3, 7, 8, 18]), (2, [1, 2, 3, 7, 8]), (1, [1, 2, 3, 7]), (0, [1, 2, 3])], [(3, [1, 2, 3, 7, 8])], []⟩
def rs33 : List ARes := [.t 6]
def ac33 : ACode :=
 .seq (
  .reg [1, 2, 3] [
    ⟨some 3, .op (.box (.t 0)), none⟩,
    ⟨some 6, .op (.mv (.c (.int .i64 0))), none⟩]) (
  .seq (
   .reg [1, 2, 3, 7] [
     ⟨some 7, .op (.mv (.c (.int .i64 0))), none⟩]) (
   .seq (
    .seq (
     .reg [1, 2, 3, 7, 8] [
       ⟨some 8, .op (.mv (.c (.int .i64 0))), none⟩]) (
     .block 0 (
      .loop [1, 2, 3, 7, 8] (
       .seq (
        .seq (
         .reg [1, 2, 3, 7, 8, 18] [
           ⟨some 9, .op (.mv (.t 8)), none⟩,
           ⟨some 10, .op (.fieldAddr 0 (.t 3)), none⟩,
           ⟨some 11, .op (.ld1 (.t 10)), none⟩,
           ⟨some 12, .op (.bin .lss (.t 9) (.t 11)), none⟩,
           ⟨some 13, .op (.mv (.t 12)), none⟩,
           ⟨some 14, .op (.mv (.t 8)), some (13, true)⟩,
           ⟨some 15, .op (.mv (.t 2)), some (13, true)⟩,
           ⟨some 16, .op (.len 1 (.t 15)), some (13, true)⟩,
           ⟨some 17, .op (.bin .lss (.t 14) (.t 16)), some (13, true)⟩,
           ⟨some 18, .pick (.t 13) (.t 17) (.c (.bool false)), none⟩]) (
         .cond (.t 18) (
          .skip) (
          .exit 0))) (
        .seq (
         .block 1 (
          .seq (
           .reg [1, 2, 3, 7, 8, 31] [
             ⟨some 21, .op (.mv (.t 2)), none⟩,
             ⟨some 22, .op (.mv (.t 8)), none⟩,
             ⟨some 23, .op (.idxAddr 1 (.t 21) (.t 22)), none⟩,
             ⟨some 24, .op (.ld1 (.t 23)), none⟩,
             ⟨some 25, .op (.mv (.t 24)), none⟩,
             ⟨some 26, .op (.ldn 3 (.t 3)), some (25, true)⟩,
             ⟨some 27, .op (.mv (.t 1)), some (25, true)⟩,
             ⟨some 28, .call (.c (.fn 22 [] [])) [(.t 26), (.t 27)], some (25, true)⟩,
             ⟨some 29, .op (.mv (.t 8)), some (25, true)⟩,
             ⟨some 30, .call (.c (.fn 40 [] [])) [(.t 28), (.t 29)], some (25, true)⟩,
             ⟨some 31, .pick (.t 25) (.t 30) (.c (.bool false)), none⟩]) (
           .cond (.t 31) (
            .reg [1, 2, 3, 7, 8] [
              ⟨some 32, .op (.mv (.t 7)), none⟩,
              ⟨some 33, .op (.bin .add (.t 32) (.c (.int .i64 1))), none⟩,
              ⟨some 7, .op (.mv (.t 33)), none⟩]) (
            .skip)))) (
         .reg [1, 2, 3, 7, 8] [
           ⟨some 19, .op (.mv (.t 8)), none⟩,
           ⟨some 20, .op (.bin .add (.t 19) (.c (.int .i64 1))), none⟩,
           ⟨some 8, .op (.mv (.t 20)), none⟩])))))) (
    .seq (
     .reg [6] [
       ⟨some 34, .op (.mv (.t 7)), none⟩,
       ⟨some 6, .op (.mv (.t 34)), none⟩]) (
     .ret))))
theorem cf33 : compF Try.prog Try.f33 h33 = some (ac33, rs33) := by kernel_rfl

/-! (*mailcoach/writer.Writer).Count params 1 -/
def h34 : Hints := ⟨[(3, [2]), (2, [2]), (1, [0, 4]), (0, [0])], [], [(3, [(0, []), (1, []), (2, []), (3, []), (4, []), (5, []), (6, []), (7, []), (8, []), (9, []), (10, []), (11, [])])]⟩
def rs34 : List ARes := [.t 2]
def ac34 : ACode :=
 .seq (
  .reg [0] [
    ⟨some 2, .op (.mv (.c (.int .u64 0))), none⟩]) (
  .seq (
   .seq (
    .reg [0, 4] [
      ⟨some 3, .op (.mv (.t 0)), none⟩,
      ⟨some 4, .op (.eqn 0 false (.t 3) (.c (.nilp))), none⟩]) (
    .cond (.t 4) (
     .seq (
      .reg [2] [
        ⟨some 2, .op (.mv (.c (.int .u64 0))), none⟩]) (
      .ret)) (
     .skip))) (
   .seq (
    .dreg [2] [
      (⟨some 5, .op (.mv (.t 0)), none⟩, []),
      (⟨some 6, .op (.nilCheck (.t 5)), none⟩, []),
      (⟨some 7, .op (.fieldAddr 3 (.t 6)), none⟩, []),
      (⟨some 8, .op (.ld1 (.t 7)), none⟩, []),
      (⟨some 9, .op (.mv (.t 0)), none⟩, []),
      (⟨some 10, .op (.nilCheck (.t 9)), none⟩, []),
      (⟨some 11, .op (.fieldAddr 4 (.t 10)), none⟩, []),
      (⟨some 12, .op (.ld1 (.t 11)), none⟩, []),
      (⟨some 13, .op (.len 1 (.t 12)), none⟩, []),
      (⟨some 14, .op (.toInt .u64 (.t 13)), none⟩, []),
      (⟨some 15, .op (.bin .add (.t 8) (.t 14)), none⟩, []),
      (⟨some 2, .op (.mv (.t 15)), none⟩, [])]) (
    .ret)))
theorem cf34 : compF Try.prog Try.f34 h34 = some (ac34, rs34) := by kernel_rfl

/-! slices.Contains[[]int,int] params 2 -/
def h35 : Hints := ⟨[(1, [4]), (0, [0, 1])], [], []⟩
def rs35 : List ARes := [.t 4]
def ac35 : ACode :=
 .seq (
  .reg [0, 1] [
    ⟨some 4, .op (.mv (.c (.bool false))), none⟩]) (
  .seq (
   .reg [4] [
     ⟨some 5, .op (.mv (.t 0)), none⟩,
     ⟨some 6, .op (.mv (.t 1)), none⟩,
     ⟨some 7, .call (.c (.fn 41 [] [])) [(.t 5), (.t 6)], none⟩,
     ⟨some 8, .op (.bin .geq (.t 7) (.c (.int .i64 0))), none⟩,
     ⟨some 4, .op (.mv (.t 8)), none⟩]) (
   .ret))
theorem cf35 : compF Try.prog Try.f35 h35 = some (ac35, rs35) := by kernel_rfl

/-! mailcoach/quorum.Set params 2 -/
def h36 : Hints := ⟨[(9, [4]), (8, [1, 2, 5, 11, 12]), (7, [1, 2, 5, 11, 12]), (6, [1, 2, 5, 6, 11, 12]), (5, [1, 2, 5, 11, 12, 13]), (4, [1, 2, 5, 11, 12]), (3, [1, 2, 5]), (2, [4]), (1, [1, 2, 9]), (0, [1, 2])], [(5, [1, 2, 5, 11, 12])], [(7, [(0, []), (1, []), (2, []), (3, []), (4, []), (5, []), (6, []), (7, []), (8, []), (9, []), (10, []), (11, []), (12, []), (13, []), (14, []), (15, []), (16, [])])]⟩
def rs36 : List ARes := [.t 4]
def ac36 : ACode :=
 .seq (
  .reg [1, 2] [
    ⟨some 2, .op (.box (.t 0)), none⟩,
    ⟨some 4, .op (.mv (.c (.nilsl))), none⟩]) (
  .seq (
   .seq (
    .reg [1, 2, 9] [
      ⟨some 7, .op (.ldn 3 (.t 2)), none⟩,
      ⟨some 8, .call (.c (.fn 26 [] [])) [(.t 7)], none⟩,
      ⟨some 9, .op (.un .not (.t 8)), none⟩]) (
    .cond (.t 9) (
     .seq (
      .reg [4] [
        ⟨some 4, .op (.mv (.c (.nilsl))), none⟩]) (
      .ret)) (
     .skip))) (
   .seq (
    .reg [1, 2, 5] [
      ⟨some 5, .op (.mv (.c (.nilsl))), none⟩]) (
    .seq (
     .seq (
      .reg [1, 2, 5, 11, 12] [
        ⟨some 10, .op (.fieldAddr 1 (.t 2)), none⟩,
        ⟨some 11, .op (.ld1 (.t 10)), none⟩,
        ⟨some 12, .op (.mv (.c (.int .i64 0))), none⟩]) (
      .block 0 (
       .loop [1, 2, 5, 11, 12] (
        .seq (
         .reg [1, 2, 5, 11, 12, 13] [
           ⟨some 13, .op (.bin .lss (.t 12) (.t 11)), none⟩]) (
         .seq (
          .cond (.t 13) (
           .skip) (
           .exit 0)) (
          .seq (
           .block 1 (
            .seq (
             .reg [1, 2, 5, 6, 11, 12] [
               ⟨some 14, .op (.mv (.t 12)), none⟩,
               ⟨some 6, .op (.mv (.t 14)), none⟩]) (
             .dreg [1, 2, 5, 11, 12] [
               (⟨some 15, .op (.mv (.t 5)), none⟩, []),
               (⟨some 16, .op (.mv (.t 1)), none⟩, []),
               (⟨some 17, .op (.fieldAddr 0 (.t 2)), none⟩, []),
               (⟨some 18, .op (.ld1 (.t 17)), none⟩, []),
               (⟨some 19, .op (.toInt .u64 (.t 18)), none⟩, []),
               (⟨some 20, .op (.bin .rem (.t 16) (.t 19)), none⟩, []),
               (⟨some 21, .op (.mv (.t 6)), none⟩, []),
               (⟨some 22, .op (.toInt .u64 (.t 21)), none⟩, []),
               (⟨some 23, .op (.bin .add (.t 20) (.t 22)), none⟩, []),
               (⟨some 24, .op (.fieldAddr 0 (.t 2)), none⟩, []),
               (⟨some 25, .op (.ld1 (.t 24)), none⟩, []),
               (⟨some 26, .op (.toInt .u64 (.t 25)), none⟩, []),
               (⟨some 27, .op (.bin .rem (.t 23) (.t 26)), none⟩, []),
               (⟨some 28, .op (.toInt .i64 (.t 27)), none⟩, []),
               (⟨some 29, .op (.buildSl 1 [.int .i64 0] 1 [(0, (.t 28))]), none⟩, []),
               (⟨some 30, .op (.append 1 8 (.t 15) (.t 29)), none⟩, []),
               (⟨some 5, .op (.mv (.t 30)), none⟩, [])]))) (
           .reg [1, 2, 5, 11, 12] [
             ⟨some 31, .op (.bin .add (.t 12) (.c (.int .i64 1))), none⟩,
             ⟨some 12, .op (.mv (.t 31)), none⟩]))))))) (
     .seq (
      .reg [4] [
        ⟨some 32, .op (.mv (.t 5)), none⟩,
        ⟨some 4, .op (.mv (.t 32)), none⟩]) (
      .ret)))))
theorem cf36 : compF Try.prog Try.f36 h36 = some (ac36, rs36) := by kernel_rfl

/-! mailcoach/quorum.Enough params 3 -/
def h37 : Hints := ⟨[(1, [6]), (0, [1, 2, 3])], [], [(1, [(0, []), (1, []), (2, []), (3, []), (4, []), (5, []), (7, []), (8, []), (6, [7]), (9, []), (10, []), (11, [])])]⟩
def rs37 : List ARes := [.t 6]
def ac37 : ACode :=
 .seq (
  .reg [1, 2, 3] [
    ⟨some 3, .op (.box (.t 0)), none⟩,
    ⟨some 6, .op (.mv (.c (.bool false))), none⟩]) (
  .seq (
   .dreg [6] [
     (⟨some 7, .op (.ldn 3 (.t 3)), none⟩, []),
     (⟨some 8, .call (.c (.fn 26 [] [])) [(.t 7)], none⟩, []),
     (⟨some 9, .op (.mv (.t 8)), none⟩, []),
     (⟨some 10, .op (.ldn 3 (.t 3)), some (9, true)⟩, []),
     (⟨some 11, .op (.mv (.t 1)), some (9, true)⟩, []),
     (⟨some 12, .op (.mv (.t 2)), some (9, true)⟩, []),
     (⟨some 14, .op (.fieldAddr 2 (.t 3)), some (9, true)⟩, []),
     (⟨some 15, .op (.ld1 (.t 14)), some (9, true)⟩, []),
     (⟨some 13, .call (.c (.fn 39 [] [])) [(.t 10), (.t 11), (.t 12)], some (9, true)⟩, [7]),
     (⟨some 16, .op (.bin .geq (.t 13) (.t 15)), some (9, true)⟩, []),
     (⟨some 17, .pick (.t 9) (.t 16) (.c (.bool false)), none⟩, []),
     (⟨some 6, .op (.mv (.t 17)), none⟩, [])]) (
   .ret))
theorem cf37 : compF Try.prog Try.f37 h37 = some (ac37, rs37) := by kernel_rfl

/-! slices.IndexFunc[[]mailcoach/api.Item,mailcoach/api.Item] params 2 -/
def h38 : Hints := ⟨[(7, [4]), (6, [0, 1, 7, 8]), (5, [4]), (4, [0, 1, 5, 7, 8, 16]), (3, [0, 1, 5, 7, 8]), (2, [0, 1, 7, 8, 9]), (1, [0, 1, 7, 8]), (0, [0, 1])], [(2, [0, 1, 7, 8])], []⟩
def rs38 : List ARes := [.t 4]
def ac38 : ACode :=
 .seq (
  .reg [0, 1] [
    ⟨some 4, .op (.mv (.c (.int .i64 0))), none⟩]) (
  .seq (
   .seq (
    .reg [0, 1, 7, 8] [
      ⟨some 6, .op (.mv (.t 0)), none⟩,
      ⟨some 7, .op (.len 1 (.t 6)), none⟩,
      ⟨some 8, .op (.mv (.c (.int .i64 0))), none⟩]) (
    .block 0 (
     .loop [0, 1, 7, 8] (
      .seq (
       .reg [0, 1, 7, 8, 9] [
         ⟨some 9, .op (.bin .lss (.t 8) (.t 7)), none⟩]) (
       .seq (
        .cond (.t 9) (
         .skip) (
         .exit 0)) (
        .seq (
         .block 1 (
          .seq (
           .reg [0, 1, 5, 7, 8] [
             ⟨some 10, .op (.mv (.t 8)), none⟩,
             ⟨some 5, .op (.mv (.t 10)), none⟩]) (
           .seq (
            .reg [0, 1, 5, 7, 8, 16] [
              ⟨some 11, .op (.mv (.t 1)), none⟩,
              ⟨some 12, .op (.mv (.t 0)), none⟩,
              ⟨some 13, .op (.mv (.t 5)), none⟩,
              ⟨some 14, .op (.idxAddr 2 (.t 12) (.t 13)), none⟩,
              ⟨some 15, .op (.ldn 2 (.t 14)), none⟩,
              ⟨some 16, .call (.t 11) [(.t 15)], none⟩]) (
            .cond (.t 16) (
             .seq (
              .reg [4] [
                ⟨some 17, .op (.mv (.t 5)), none⟩,
                ⟨some 4, .op (.mv (.t 17)), none⟩]) (
              .ret)) (
             .skip))))) (
         .reg [0, 1, 7, 8] [
           ⟨some 18, .op (.bin .add (.t 8) (.c (.int .i64 1))), none⟩,
           ⟨some 8, .op (.mv (.t 18)), none⟩]))))))) (
   .seq (
    .reg [4] [
      ⟨some 4, .op (.mv (.c (.int .i64 (-1)))), none⟩]) (
    .ret)))
theorem cf38 : compF Try.prog Try.f38 h38 = some (ac38, rs38) := by kernel_rfl

/-! mailcoach/quorum.count params 3 -/
def h39 : Hints := ⟨[(8, [6]), (7, [2, 7, 12, 13, 14]), (6, [2, 7, 12, 13, 14]), (5, [2, 7, 12, 13, 14, 27]), (4, [2, 7, 9, 12, 13, 14]), (3, [2, 7, 12, 13, 14, 15]), (2, [2, 7, 12, 13, 14]), (1, [1, 2, 3, 7]), (0, [1, 2, 3])], [(3, [2, 7, 12, 13, 14])], []⟩
def rs39 : List ARes := [.t 6]
def ac39 : ACode :=
 .seq (
  .reg [1, 2, 3] [
    ⟨some 3, .op (.box (.t 0)), none⟩,
    ⟨some 6, .op (.mv (.c (.int .i64 0))), none⟩]) (
  .seq (
   .reg [1, 2, 3, 7] [
     ⟨some 7, .op (.mv (.c (.int .i64 0))), none⟩]) (
   .seq (
    .seq (
     .reg [2, 7, 12, 13, 14] [
       ⟨some 10, .op (.ldn 3 (.t 3)), none⟩,
       ⟨some 11, .op (.mv (.t 1)), none⟩,
       ⟨some 12, .call (.c (.fn 36 [] [])) [(.t 10), (.t 11)], none⟩,
       ⟨some 13, .op (.len 1 (.t 12)), none⟩,
       ⟨some 14, .op (.mv (.c (.int .i64 0))), none⟩]) (
     .block 0 (
      .loop [2, 7, 12, 13, 14] (
       .seq (
        .reg [2, 7, 12, 13, 14, 15] [
          ⟨some 15, .op (.bin .lss (.t 14) (.t 13)), none⟩]) (
        .seq (
         .cond (.t 15) (
          .skip) (
          .exit 0)) (
         .seq (
          .block 1 (
           .seq (
            .reg [2, 7, 9, 12, 13, 14] [
              ⟨some 16, .op (.idxAddr 1 (.t 12) (.t 14)), none⟩,
              ⟨some 17, .op (.ld1 (.t 16)), none⟩,
              ⟨some 9, .op (.mv (.t 17)), none⟩]) (
            .seq (
             .reg [2, 7, 12, 13, 14, 27] [
               ⟨some 18, .op (.mv (.t 9)), none⟩,
               ⟨some 19, .op (.mv (.t 2)), none⟩,
               ⟨some 20, .op (.len 1 (.t 19)), none⟩,
               ⟨some 21, .op (.bin .lss (.t 18) (.t 20)), none⟩,
               ⟨some 22, .op (.mv (.t 21)), none⟩,
               ⟨some 23, .op (.mv (.t 2)), some (22, true)⟩,
               ⟨some 24, .op (.mv (.t 9)), some (22, true)⟩,
               ⟨some 25, .op (.idxAddr 1 (.t 23) (.t 24)), some (22, true)⟩,
               ⟨some 26, .op (.ld1 (.t 25)), some (22, true)⟩,
               ⟨some 27, .pick (.t 22) (.t 26) (.c (.bool false)), none⟩]) (
             .cond (.t 27) (
              .reg [2, 7, 12, 13, 14] [
                ⟨some 28, .op (.mv (.t 7)), none⟩,
                ⟨some 29, .op (.bin .add (.t 28) (.c (.int .i64 1))), none⟩,
                ⟨some 7, .op (.mv (.t 29)), none⟩]) (
              .skip))))) (
          .reg [2, 7, 12, 13, 14] [
            ⟨some 30, .op (.bin .add (.t 14) (.c (.int .i64 1))), none⟩,
            ⟨some 14, .op (.mv (.t 30)), none⟩]))))))) (
    .seq (
     .reg [6] [
       ⟨some 31, .op (.mv (.t 7)), none⟩,
       ⟨some 6, .op (.mv (.t 31)), none⟩]) (
     .ret))))
theorem cf39 : compF Try.prog Try.f39 h39 = some (ac39, rs39) := by kernel_rfl

/-! mailcoach/mailcoachref10.In params 2 -/
def h40 : Hints := ⟨[(6, [4]), (3, [0, 1, 5]), (5, [4]), (4, [0, 1, 5, 17]), (2, [0, 1, 5, 9]), (1, [0, 1, 5]), (0, [0, 1])], [(2, [0, 1, 5])], []⟩
def rs40 : List ARes := [.t 4]
def ac40 : ACode :=
 .seq (
  .reg [0, 1] [
    ⟨some 4, .op (.mv (.c (.bool false))), none⟩]) (
  .seq (
   .seq (
    .reg [0, 1, 5] [
      ⟨some 5, .op (.mv (.c (.int .i64 0))), none⟩]) (
    .block 0 (
     .loop [0, 1, 5] (
      .seq (
       .seq (
        .reg [0, 1, 5, 9] [
          ⟨some 6, .op (.mv (.t 5)), none⟩,
          ⟨some 7, .op (.mv (.t 0)), none⟩,
          ⟨some 8, .op (.len 1 (.t 7)), none⟩,
          ⟨some 9, .op (.bin .lss (.t 6) (.t 8)), none⟩]) (
        .cond (.t 9) (
         .skip) (
         .exit 0))) (
       .seq (
        .block 1 (
         .seq (
          .reg [0, 1, 5, 17] [
            ⟨some 12, .op (.mv (.t 0)), none⟩,
            ⟨some 13, .op (.mv (.t 5)), none⟩,
            ⟨some 14, .op (.idxAddr 1 (.t 12) (.t 13)), none⟩,
            ⟨some 15, .op (.ld1 (.t 14)), none⟩,
            ⟨some 16, .op (.mv (.t 1)), none⟩,
            ⟨some 17, .op (.bin .eql (.t 15) (.t 16)), none⟩]) (
          .cond (.t 17) (
           .seq (
            .reg [4] [
              ⟨some 4, .op (.mv (.c (.bool true))), none⟩]) (
            .ret)) (
           .skip)))) (
        .reg [0, 1, 5] [
          ⟨some 10, .op (.mv (.t 5)), none⟩,
          ⟨some 11, .op (.bin .add (.t 10) (.c (.int .i64 1))), none⟩,
          ⟨some 5, .op (.mv (.t 11)), none⟩])))))) (
   .seq (
    .reg [4] [
      ⟨some 4, .op (.mv (.c (.bool false))), none⟩]) (
    .ret)))
theorem cf40 : compF Try.prog Try.f40 h40 = some (ac40, rs40) := by kernel_rfl

/-! slices.Index[[]int,int] params 2 -/
def h41 : Hints := ⟨[(7, [4]), (6, [0, 1, 7, 8]), (5, [4]), (4, [0, 1, 5, 7, 8, 16]), (3, [0, 1, 5, 7, 8]), (2, [0, 1, 7, 8, 9]), (1, [0, 1, 7, 8]), (0, [0, 1])], [(2, [0, 1, 7, 8])], []⟩
def rs41 : List ARes := [.t 4]
def ac41 : ACode :=
 .seq (
  .reg [0, 1] [
    ⟨some 4, .op (.mv (.c (.int .i64 0))), none⟩]) (
  .seq (
   .seq (
    .reg [0, 1, 7, 8] [
      ⟨some 6, .op (.mv (.t 0)), none⟩,
      ⟨some 7, .op (.len 1 (.t 6)), none⟩,
      ⟨some 8, .op (.mv (.c (.int .i64 0))), none⟩]) (
    .block 0 (
     .loop [0, 1, 7, 8] (
      .seq (
       .reg [0, 1, 7, 8, 9] [
         ⟨some 9, .op (.bin .lss (.t 8) (.t 7)), none⟩]) (
       .seq (
        .cond (.t 9) (
         .skip) (
         .exit 0)) (
        .seq (
         .block 1 (
          .seq (
           .reg [0, 1, 5, 7, 8] [
             ⟨some 10, .op (.mv (.t 8)), none⟩,
             ⟨some 5, .op (.mv (.t 10)), none⟩]) (
           .seq (
            .reg [0, 1, 5, 7, 8, 16] [
              ⟨some 11, .op (.mv (.t 1)), none⟩,
              ⟨some 12, .op (.mv (.t 0)), none⟩,
              ⟨some 13, .op (.mv (.t 5)), none⟩,
              ⟨some 14, .op (.idxAddr 1 (.t 12) (.t 13)), none⟩,
              ⟨some 15, .op (.ld1 (.t 14)), none⟩,
              ⟨some 16, .op (.bin .eql (.t 11) (.t 15)), none⟩]) (
            .cond (.t 16) (
             .seq (
              .reg [4] [
                ⟨some 17, .op (.mv (.t 5)), none⟩,
                ⟨some 4, .op (.mv (.t 17)), none⟩]) (
              .ret)) (
             .skip))))) (
         .reg [0, 1, 7, 8] [
           ⟨some 18, .op (.bin .add (.t 8) (.c (.int .i64 1))), none⟩,
           ⟨some 8, .op (.mv (.t 18)), none⟩]))))))) (
   .seq (
    .reg [4] [
      ⟨some 4, .op (.mv (.c (.int .i64 (-1)))), none⟩]) (
    .ret)))
theorem cf41 : compF Try.prog Try.f41 h41 = some (ac41, rs41) := by kernel_rfl


end Go.Proofs.Ytopagbaokokjdaa.AM
