/- The code of chapter 14, told as the abstract machine's. -/
import Derived.Test.YtinfnpbglapjhaaAm3
import Derived.Test.YtinfnpbglapjhaaProg
import Derived.KernelRfl
namespace Go.Proofs.Ytinfnpbglapjhaa.AM
set_option maxRecDepth 100000
set_option maxHeartbeats 4000000
theorem hmx : Try.prog.follows .mixedOrders = true := by kernel_rfl

/-! mailcoach/mailcoachlaw14.CursorChecks params 3 -/
def h8 : Hints := ⟨[(27, [6]), (26, [6]), (25, [15, 16, 18, 19, 121]), (24, [15, 16, 18, 19]), (23, [15, 16, 17, 18]), (22, [15, 16, 17]), (21, [1, 15, 16]), (20, [1, 47, 48, 49]), (19, [6]), (18, [1, 47, 48, 49, 106]), (17, [1, 10, 12, 13, 14, 47, 48, 49]), (16, [6]), (15, [1, 10, 11, 12, 47, 48, 49, 89]), (14, [1, 10, 11, 12, 47, 48, 49]), (13, [1, 10, 47, 48, 49]), (12, [1, 47, 48, 49, 50]), (11, [1, 47, 48, 49]), (10, [1, 2, 3, 32, 33, 34]), (9, [6]), (8, [1, 2, 3, 32, 33, 34, 41]), (7, [1, 2, 3, 8, 32, 33, 34]), (6, [1, 2, 3, 32, 33, 34, 35]), (5, [1, 2, 3, 32, 33, 34]), (4, [6]), (3, [1, 2, 3, 30]), (2, [6]), (1, [1, 2, 3, 21]), (0, [1, 2, 3])], [(12, [1, 47, 48, 49]), (6, [1, 2, 3, 32, 33, 34])], [(11, [(0, []), (1, []), (2, []), (6, []), (3, [0]), (4, []), (5, [])]), (15, [(0, []), (2, []), (1, [1]), (3, []), (4, []), (5, []), (6, []), (7, []), (8, []), (9, []), (10, []), (11, []), (12, []), (13, []), (14, []), (15, []), (16, []), (17, []), (18, []), (19, []), (20, []), (21, []), (22, []), (23, []), (24, []), (25, []), (26, []), (27, [25]), (28, []), (29, []), (30, []), (31, [])])]⟩
def rs8 : List ARes := [.t 6]
def ac8 : ACode :=
 .seq (
  .reg [1, 2, 3] [
    ⟨some 3, .op (.box (.t 0)), none⟩,
    ⟨some 6, .op (.mv (.c (.bool false))), none⟩]) (
  .seq (
   .seq (
    .reg [1, 2, 3, 21] [
      ⟨some 20, .call (.c (.fn 9 [] [])) [], none⟩,
      ⟨some 21, .op (.un .not (.t 20)), none⟩]) (
    .cond (.t 21) (
     .seq (
      .reg [6] [
        ⟨some 6, .op (.mv (.c (.bool false))), none⟩]) (
      .ret)) (
     .skip))) (
   .seq (
    .seq (
     .reg [1, 2, 3, 30] [
       ⟨some 22, .op (.mv (.t 1)), none⟩,
       ⟨some 23, .op (.len 1 (.t 22)), none⟩,
       ⟨some 24, .op (.bin .gtr (.t 23) (.c (.int .i64 5000))), none⟩,
       ⟨some 25, .op (.mv (.t 24)), none⟩,
       ⟨some 26, .op (.fieldAddr 2 (.t 3)), some (25, false)⟩,
       ⟨some 27, .op (.ld1 (.t 26)), some (25, false)⟩,
       ⟨some 28, .op (.len 1 (.t 27)), some (25, false)⟩,
       ⟨some 29, .op (.bin .gtr (.t 28) (.c (.int .i64 100))), some (25, false)⟩,
       ⟨some 30, .pick (.t 25) (.c (.bool true)) (.t 29), none⟩]) (
     .cond (.t 30) (
      .seq (
       .reg [6] [
         ⟨some 6, .op (.mv (.c (.bool true))), none⟩]) (
       .ret)) (
      .skip))) (
    .seq (
     .seq (
      .reg [1, 2, 3, 32, 33, 34] [
        ⟨some 31, .op (.fieldAddr 2 (.t 3)), none⟩,
        ⟨some 32, .op (.ld1 (.t 31)), none⟩,
        ⟨some 33, .op (.len 1 (.t 32)), none⟩,
        ⟨some 34, .op (.mv (.c (.int .i64 0))), none⟩]) (
      .block 0 (
       .loop [1, 2, 3, 32, 33, 34] (
        .seq (
         .reg [1, 2, 3, 32, 33, 34, 35] [
           ⟨some 35, .op (.bin .lss (.t 34) (.t 33)), none⟩]) (
         .seq (
          .cond (.t 35) (
           .skip) (
           .exit 0)) (
          .seq (
           .block 1 (
            .seq (
             .reg [1, 2, 3, 8, 32, 33, 34] [
               ⟨some 36, .op (.idxAddr 2 (.t 32) (.t 34)), none⟩,
               ⟨some 37, .op (.ldn 2 (.t 36)), none⟩,
               ⟨some 8, .op (.alloc [.int .u64 0, .nilsl]), none⟩,
               ⟨none, .op (.st 2 (.t 8) (.t 37)), none⟩]) (
             .seq (
              .reg [1, 2, 3, 32, 33, 34, 41] [
                ⟨some 38, .op (.fieldAddr 1 (.t 8)), none⟩,
                ⟨some 39, .op (.ld1 (.t 38)), none⟩,
                ⟨some 40, .op (.len 1 (.t 39)), none⟩,
                ⟨some 41, .op (.bin .gtr (.t 40) (.c (.int .i64 100))), none⟩]) (
              .cond (.t 41) (
               .seq (
                .reg [6] [
                  ⟨some 6, .op (.mv (.c (.bool true))), none⟩]) (
                .ret)) (
               .skip))))) (
           .reg [1, 2, 3, 32, 33, 34] [
             ⟨some 42, .op (.bin .add (.t 34) (.c (.int .i64 1))), none⟩,
             ⟨some 34, .op (.mv (.t 42)), none⟩]))))))) (
     .seq (
      .seq (
       .dreg [1, 47, 48, 49] [
         (⟨some 43, .op (.ldn 3 (.t 3)), none⟩, []),
         (⟨some 44, .op (.ldn 3 (.t 3)), none⟩, []),
         (⟨some 45, .op (.mv (.t 2)), none⟩, []),
         (⟨some 49, .op (.mv (.c (.int .i64 0))), none⟩, []),
         (⟨some 46, .call (.c (.fn 11 [] [])) [(.t 44), (.t 45)], none⟩, [0]),
         (⟨some 47, .op (.buildSl 3 [.int .u64 0, .int .u64 0, .nilsl] 2 [(0, (.t 43)), (1, (.t 46))]), none⟩, []),
         (⟨some 48, .op (.len 1 (.t 47)), none⟩, [])]) (
       .block 2 (
        .loop [1, 47, 48, 49] (
         .seq (
          .reg [1, 47, 48, 49, 50] [
            ⟨some 50, .op (.bin .lss (.t 49) (.t 48)), none⟩]) (
          .seq (
           .cond (.t 50) (
            .skip) (
            .exit 2)) (
           .seq (
            .block 3 (
             .seq (
              .reg [1, 10, 47, 48, 49] [
                ⟨some 51, .op (.idxAddr 3 (.t 47) (.t 49)), none⟩,
                ⟨some 52, .op (.ldn 3 (.t 51)), none⟩,
                ⟨some 10, .op (.alloc [.int .u64 0, .int .u64 0, .nilsl]), none⟩,
                ⟨none, .op (.st 3 (.t 10) (.t 52)), none⟩]) (
              .seq (
               .reg [1, 10, 11, 12, 47, 48, 49] [
                 ⟨some 54, .op (.ldn 3 (.t 10)), none⟩,
                 ⟨some 55, .call (.c (.fn 29 [] [])) [(.t 54)], none⟩,
                 ⟨some 53, .op (.mv (.t 55)), none⟩,
                 ⟨some 56, .op (.extract (.t 53) 0), none⟩,
                 ⟨some 57, .op (.extract (.t 53) 1), none⟩,
                 ⟨some 11, .op (.mv (.t 56)), none⟩,
                 ⟨some 12, .op (.mv (.t 57)), none⟩]) (
               .seq (
                .seq (
                 .dreg [1, 10, 11, 12, 47, 48, 49, 89] [
                   (⟨some 58, .op (.ldn 3 (.t 10)), none⟩, []),
                   (⟨some 60, .op (.ldn 3 (.t 10)), none⟩, []),
                   (⟨some 59, .call (.c (.fn 21 [] [])) [(.t 58)], none⟩, [1]),
                   (⟨some 61, .call (.c (.fn 28 [] [])) [(.t 60)], none⟩, []),
                   (⟨some 62, .op (.eqb true (.t 59) (.t 61)), none⟩, []),
                   (⟨some 63, .op (.mv (.t 62)), none⟩, []),
                   (⟨some 64, .op (.mv (.t 12)), some (63, false)⟩, []),
                   (⟨some 65, .op (.bin .eql (.t 64) (.c (.int .i64 0))), some (63, false)⟩, []),
                   (⟨some 66, .op (.ldn 3 (.t 10)), some (63, false)⟩, []),
                   (⟨some 67, .call (.c (.fn 21 [] [])) [(.t 66)], some (63, false)⟩, []),
                   (⟨some 68, .op (.eqb true (.t 65) (.t 67)), some (63, false)⟩, []),
                   (⟨some 69, .pick (.t 63) (.c (.bool true)) (.t 68), none⟩, []),
                   (⟨some 70, .op (.mv (.t 69)), none⟩, []),
                   (⟨some 71, .op (.mv (.t 12)), some (70, false)⟩, []),
                   (⟨some 72, .op (.bin .neq (.t 71) (.c (.int .i64 0))), some (70, false)⟩, []),
                   (⟨some 73, .op (.mv (.t 72)), some (70, false)⟩, []),
                   (⟨some 74, .op (.mv (.t 12)), some (73, true)⟩, []),
                   (⟨some 75, .op (.bin .neq (.t 74) (.c (.int .i64 23))), some (73, true)⟩, []),
                   (⟨some 76, .pick (.t 73) (.t 75) (.c (.bool false)), some (70, false)⟩, []),
                   (⟨some 77, .pick (.t 70) (.c (.bool true)) (.t 76), none⟩, []),
                   (⟨some 78, .op (.mv (.t 77)), none⟩, []),
                   (⟨some 79, .op (.mv (.t 12)), some (78, false)⟩, []),
                   (⟨some 80, .op (.bin .eql (.t 79) (.c (.int .i64 0))), some (78, false)⟩, []),
                   (⟨some 81, .op (.mv (.t 80)), some (78, false)⟩, []),
                   (⟨some 82, .op (.mv (.t 11)), some (81, true)⟩, []),
                   (⟨some 83, .op (.bytesStr (.t 82)), some (81, true)⟩, []),
                   (⟨some 84, .op (.ldn 3 (.t 10)), some (81, true)⟩, []),
                   (⟨some 85, .call (.c (.fn 30 [] [])) [(.c (.nilsl)), (.t 84)], some (81, true)⟩, [25]),
                   (⟨some 86, .op (.bytesStr (.t 85)), some (81, true)⟩, []),
                   (⟨some 87, .op (.bin .neq (.t 83) (.t 86)), some (81, true)⟩, []),
                   (⟨some 88, .pick (.t 81) (.t 87) (.c (.bool false)), some (78, false)⟩, []),
                   (⟨some 89, .pick (.t 78) (.c (.bool true)) (.t 88), none⟩, [])]) (
                 .cond (.t 89) (
                  .seq (
                   .reg [6] [
                     ⟨some 6, .op (.mv (.c (.bool false))), none⟩]) (
                   .ret)) (
                  .skip))) (
                .seq (
                 .reg [1, 10, 12, 13, 14, 47, 48, 49] [
                   ⟨some 91, .op (.mv (.t 11)), none⟩,
                   ⟨some 92, .call (.c (.fn 31 [] [])) [(.t 91)], none⟩,
                   ⟨some 90, .op (.mv (.t 92)), none⟩,
                   ⟨some 93, .op (.extract (.t 90) 0), none⟩,
                   ⟨some 94, .op (.extract (.t 90) 1), none⟩,
                   ⟨some 13, .op (.alloc [.int .u64 0, .int .u64 0, .nilsl]), none⟩,
                   ⟨none, .op (.st 3 (.t 13) (.t 93)), none⟩,
                   ⟨some 14, .op (.mv (.t 94)), none⟩]) (
                 .seq (
                  .reg [1, 47, 48, 49, 106] [
                    ⟨some 95, .op (.mv (.t 12)), none⟩,
                    ⟨some 96, .op (.bin .eql (.t 95) (.c (.int .i64 0))), none⟩,
                    ⟨some 97, .op (.mv (.t 96)), none⟩,
                    ⟨some 98, .op (.mv (.t 14)), some (97, true)⟩,
                    ⟨some 99, .op (.bin .neq (.t 98) (.c (.int .i64 0))), some (97, true)⟩,
                    ⟨some 100, .op (.mv (.t 99)), some (97, true)⟩,
                    ⟨some 101, .op (.ldn 3 (.t 13)), some (100, false)⟩,
                    ⟨some 102, .op (.ldn 3 (.t 10)), some (100, false)⟩,
                    ⟨some 103, .call (.c (.fn 15 [] [])) [(.t 101), (.t 102)], some (100, false)⟩,
                    ⟨some 104, .op (.un .not (.t 103)), some (100, false)⟩,
                    ⟨some 105, .pick (.t 100) (.c (.bool true)) (.t 104), some (97, true)⟩,
                    ⟨some 106, .pick (.t 97) (.t 105) (.c (.bool false)), none⟩]) (
                  .cond (.t 106) (
                   .seq (
                    .reg [6] [
                      ⟨some 6, .op (.mv (.c (.bool false))), none⟩]) (
                    .ret)) (
                   .skip)))))))) (
            .reg [1, 47, 48, 49] [
              ⟨some 107, .op (.bin .add (.t 49) (.c (.int .i64 1))), none⟩,
              ⟨some 49, .op (.mv (.t 107)), none⟩]))))))) (
      .seq (
       .reg [1, 15, 16] [
         ⟨some 109, .op (.mv (.t 1)), none⟩,
         ⟨some 110, .call (.c (.fn 31 [] [])) [(.t 109)], none⟩,
         ⟨some 108, .op (.mv (.t 110)), none⟩,
         ⟨some 111, .op (.extract (.t 108) 0), none⟩,
         ⟨some 112, .op (.extract (.t 108) 1), none⟩,
         ⟨some 15, .op (.alloc [.int .u64 0, .int .u64 0, .nilsl]), none⟩,
         ⟨none, .op (.st 3 (.t 15) (.t 111)), none⟩,
         ⟨some 16, .op (.mv (.t 112)), none⟩]) (
       .seq (
        .reg [15, 16, 17] [
          ⟨some 113, .op (.mv (.t 1)), none⟩,
          ⟨some 114, .op (.build [.nilsl, .int .i64 0] [(0, 1, (.t 113))]), none⟩,
          ⟨some 115, .op (.box (.t 114)), none⟩,
          ⟨some 17, .op (.mv (.t 115)), none⟩]) (
        .seq (
         .reg [15, 16, 17, 18] [
           ⟨some 116, .op (.mv (.t 17)), none⟩,
           ⟨some 117, .call (.c (.fn 32 [] [])) [(.t 116)], none⟩,
           ⟨some 18, .op (.alloc [.int .u64 0, .int .u64 0, .nilsl]), none⟩,
           ⟨none, .op (.st 3 (.t 18) (.t 117)), none⟩]) (
         .seq (
          .seq (
           .reg [15, 16, 18, 19] [
             ⟨some 118, .op (.mv (.t 17)), none⟩,
             ⟨some 119, .call (.c (.fn 33 [] [])) [(.t 118)], none⟩,
             ⟨some 19, .op (.mv (.t 119)), none⟩]) (
           .seq (
            .reg [15, 16, 18, 19, 121] [
              ⟨some 120, .op (.mv (.t 19)), none⟩,
              ⟨some 121, .op (.bin .neq (.t 120) (.c (.int .i64 0))), none⟩]) (
            .cond (.t 121) (
             .seq (
              .reg [6] [
                ⟨some 122, .op (.mv (.t 16)), none⟩,
                ⟨some 123, .op (.mv (.t 19)), none⟩,
                ⟨some 124, .op (.bin .eql (.t 122) (.t 123)), none⟩,
                ⟨some 125, .op (.mv (.t 124)), none⟩,
                ⟨some 126, .op (.ldn 3 (.t 15)), some (125, true)⟩,
                ⟨some 127, .op (.build [.int .u64 0, .int .u64 0, .nilsl] []), some (125, true)⟩,
                ⟨some 128, .call (.c (.fn 15 [] [])) [(.t 126), (.t 127)], some (125, true)⟩,
                ⟨some 129, .pick (.t 125) (.t 128) (.c (.bool false)), none⟩,
                ⟨some 6, .op (.mv (.t 129)), none⟩]) (
              .ret)) (
             .skip)))) (
          .seq (
           .reg [6] [
             ⟨some 130, .op (.mv (.t 16)), none⟩,
             ⟨some 131, .op (.bin .eql (.t 130) (.c (.int .i64 0))), none⟩,
             ⟨some 132, .op (.mv (.t 131)), none⟩,
             ⟨some 133, .op (.ldn 3 (.t 15)), some (132, true)⟩,
             ⟨some 134, .op (.ldn 3 (.t 18)), some (132, true)⟩,
             ⟨some 135, .call (.c (.fn 15 [] [])) [(.t 133), (.t 134)], some (132, true)⟩,
             ⟨some 136, .pick (.t 132) (.t 135) (.c (.bool false)), none⟩,
             ⟨some 6, .op (.mv (.t 136)), none⟩]) (
           .ret))))))))))
theorem cf8 : compF Try.prog Try.f8 h8 = some (ac8, rs8) := by kernel_rfl

/-! mailcoach/mailcoachlaw14.Awake params 0 -/
def h9 : Hints := ⟨[(5, [0]), (4, [2, 3, 4, 5, 7]), (3, [1, 2, 3, 4, 5]), (2, [1, 2, 3]), (1, [1]), (0, [])], [], []⟩
def rs9 : List ARes := [.t 0]
def ac9 : ACode :=
 .seq (
  .reg [] [
    ⟨some 0, .op (.mv (.c (.bool false))), none⟩]) (
  .seq (
   .reg [1] [
     ⟨some 8, .op (.build [.int .u64 0, .bool false, .int .u64 0] [(0, 1, (.c (.int .u64 3))), (1, 1, (.c (.bool true))), (2, 1, (.c (.int .u64 3)))]), none⟩,
     ⟨some 9, .op (.build [.int .u64 0, .bool false, .int .u64 0] [(0, 1, (.c (.int .u64 5)))]), none⟩,
     ⟨some 10, .op (.buildSl 3 [.int .u64 0, .bool false, .int .u64 0] 2 [(0, (.t 8)), (1, (.t 9))]), none⟩,
     ⟨some 1, .op (.mv (.t 10)), none⟩]) (
   .seq (
    .reg [1, 2, 3] [
      ⟨some 12, .op (.mv (.t 1)), none⟩,
      ⟨some 13, .op (.build [.int .u64 0, .int .u64 0, .nilsl] []), none⟩,
      ⟨some 14, .op (.build [.int .u64 0, .int .u64 0] [(0, 1, (.c (.int .u64 3))), (1, 1, (.c (.int .u64 1)))]), none⟩,
      ⟨some 15, .call (.c (.fn 13 [] [])) [(.t 12), (.c (.int .u64 1)), (.t 13), (.t 14)], none⟩,
      ⟨some 11, .op (.mv (.t 15)), none⟩,
      ⟨some 16, .op (.extract (.t 11) 0), none⟩,
      ⟨some 17, .op (.extract (.t 11) 1), none⟩,
      ⟨some 2, .op (.alloc [.int .u64 0, .int .u64 0, .nilsl]), none⟩,
      ⟨none, .op (.st 3 (.t 2) (.t 16)), none⟩,
      ⟨some 3, .op (.mv (.t 17)), none⟩]) (
    .seq (
     .reg [1, 2, 3, 4, 5] [
       ⟨some 19, .op (.mv (.t 1)), none⟩,
       ⟨some 20, .op (.ldn 3 (.t 2)), none⟩,
       ⟨some 21, .op (.build [.int .u64 0, .int .u64 0] [(0, 1, (.c (.int .u64 3)))]), none⟩,
       ⟨some 22, .call (.c (.fn 13 [] [])) [(.t 19), (.c (.int .u64 1)), (.t 20), (.t 21)], none⟩,
       ⟨some 18, .op (.mv (.t 22)), none⟩,
       ⟨some 23, .op (.extract (.t 18) 0), none⟩,
       ⟨some 24, .op (.extract (.t 18) 1), none⟩,
       ⟨some 4, .op (.alloc [.int .u64 0, .int .u64 0, .nilsl]), none⟩,
       ⟨none, .op (.st 3 (.t 4) (.t 23)), none⟩,
       ⟨some 5, .op (.mv (.t 24)), none⟩]) (
     .seq (
      .reg [2, 3, 4, 5, 7] [
        ⟨some 26, .op (.mv (.t 1)), none⟩,
        ⟨some 27, .op (.ldn 3 (.t 4)), none⟩,
        ⟨some 28, .op (.build [.int .u64 0, .int .u64 0] [(0, 1, (.c (.int .u64 3)))]), none⟩,
        ⟨some 29, .call (.c (.fn 13 [] [])) [(.t 26), (.c (.int .u64 1)), (.t 27), (.t 28)], none⟩,
        ⟨some 25, .op (.mv (.t 29)), none⟩,
        ⟨some 30, .op (.extract (.t 25) 0), none⟩,
        ⟨some 31, .op (.extract (.t 25) 1), none⟩,
        ⟨some 6, .op (.alloc [.int .u64 0, .int .u64 0, .nilsl]), none⟩,
        ⟨none, .op (.st 3 (.t 6) (.t 30)), none⟩,
        ⟨some 7, .op (.mv (.t 31)), none⟩]) (
      .seq (
       .reg [0] [
         ⟨some 32, .op (.mv (.t 3)), none⟩,
         ⟨some 33, .op (.bin .eql (.t 32) (.c (.int .i64 0))), none⟩,
         ⟨some 34, .op (.mv (.t 33)), none⟩,
         ⟨some 35, .op (.mv (.t 5)), some (34, true)⟩,
         ⟨some 36, .op (.bin .eql (.t 35) (.c (.int .i64 0))), some (34, true)⟩,
         ⟨some 37, .pick (.t 34) (.t 36) (.c (.bool false)), none⟩,
         ⟨some 38, .op (.mv (.t 37)), none⟩,
         ⟨some 39, .op (.mv (.t 7)), some (38, true)⟩,
         ⟨some 40, .op (.bin .eql (.t 39) (.c (.int .i64 31))), some (38, true)⟩,
         ⟨some 41, .pick (.t 38) (.t 40) (.c (.bool false)), none⟩,
         ⟨some 42, .op (.mv (.t 41)), none⟩,
         ⟨some 43, .op (.fieldAddr 2 (.t 2)), some (42, true)⟩,
         ⟨some 44, .op (.ld1 (.t 43)), some (42, true)⟩,
         ⟨some 45, .op (.len 1 (.t 44)), some (42, true)⟩,
         ⟨some 46, .op (.bin .eql (.t 45) (.c (.int .i64 1))), some (42, true)⟩,
         ⟨some 47, .pick (.t 42) (.t 46) (.c (.bool false)), none⟩,
         ⟨some 48, .op (.mv (.t 47)), none⟩,
         ⟨some 49, .op (.fieldAddr 0 (.t 4)), some (48, true)⟩,
         ⟨some 50, .op (.ldn 2 (.t 49)), some (48, true)⟩,
         ⟨some 51, .op (.build [.int .u64 0, .int .u64 0] [(0, 1, (.c (.int .u64 3))), (1, 1, (.c (.int .u64 2)))]), some (48, true)⟩,
         ⟨some 52, .op (.eqs false [1, 1] (.t 50) (.t 51)), some (48, true)⟩,
         ⟨some 53, .pick (.t 48) (.t 52) (.c (.bool false)), none⟩,
         ⟨some 54, .op (.mv (.t 53)), none⟩,
         ⟨some 55, .op (.fieldAddr 2 (.t 4)), some (54, true)⟩,
         ⟨some 56, .op (.ld1 (.t 55)), some (54, true)⟩,
         ⟨some 57, .op (.len 1 (.t 56)), some (54, true)⟩,
         ⟨some 58, .op (.bin .eql (.t 57) (.c (.int .i64 0))), some (54, true)⟩,
         ⟨some 59, .pick (.t 54) (.t 58) (.c (.bool false)), none⟩,
         ⟨some 0, .op (.mv (.t 59)), none⟩]) (
       .ret))))))
theorem cf9 : compF Try.prog Try.f9 h9 = some (ac9, rs9) := by kernel_rfl

/-! mailcoach/mailcoachlaw14.Right params 2 -/
def h11 : Hints := ⟨[(27, [4]), (26, [1, 4, 5, 6, 19, 20, 21]), (25, [1, 4, 5, 6, 19, 20, 21]), (24, [1, 4, 5, 8, 19, 20, 21]), (23, [1, 4, 5, 6, 8, 9, 19, 20, 21, 96]), (22, [1, 4, 5, 6, 8, 9, 19, 20, 21]), (21, [1, 4, 5, 6, 8, 9, 12, 19, 20, 21]), (20, [1, 4, 5, 6, 8, 9, 12, 19, 20, 21, 90]), (19, [1, 4, 5, 6, 8, 9, 12, 19, 20, 21]), (18, [1, 4, 5, 6, 8, 9, 19, 20, 21, 57, 58, 59]), (17, [1, 4, 5, 6, 8, 9, 19, 20, 21, 57, 58, 59]), (16, [1, 4, 5, 6, 8, 9, 11, 19, 20, 21, 57, 58, 59, 74]), (15, [1, 4, 5, 6, 8, 9, 10, 11, 19, 20, 21, 57, 58, 59]), (14, [1, 4, 5, 6, 8, 9, 10, 11, 19, 20, 21, 57, 58, 59, 65]), (13, [1, 4, 5, 6, 8, 9, 10, 11, 19, 20, 21, 57, 58, 59]), (12, [1, 4, 5, 6, 8, 9, 19, 20, 21, 57, 58, 59, 60]), (11, [1, 4, 5, 6, 8, 9, 19, 20, 21, 57, 58, 59]), (10, [1, 4, 5, 6, 8, 9, 19, 20, 21]), (9, [1, 4, 5, 6, 8, 19, 20, 21, 55]), (8, [1, 4, 5, 6, 7, 8, 19, 20, 21]), (7, [1, 4, 5, 6, 7, 8, 19, 20, 21, 29]), (6, [1, 4, 5, 6, 7, 8, 19, 20, 21, 27]), (5, [1, 4, 5, 6, 7, 8, 19, 20, 21]), (4, [1, 4, 5, 6, 19, 20, 21, 22]), (3, [1, 4, 5, 6, 19, 20, 21]), (2, [1, 2, 4, 5, 6]), (1, [1, 2, 4, 5]), (0, [1, 2, 4])], [(12, [1, 4, 5, 6, 8, 9, 19, 20, 21, 57, 58, 59]), (4, [1, 4, 5, 6, 19, 20, 21])], []⟩
def rs11 : List ARes := [.cn 4 3]
def ac11 : ACode :=
 .seq (
  .reg [1, 2, 4] [
    ⟨some 2, .op (.box (.t 0)), none⟩,
    ⟨some 4, .op (.alloc [.int .u64 0, .int .u64 0, .nilsl]), none⟩]) (
  .seq (
   .reg [1, 2, 4, 5] [
     ⟨some 13, .op (.fieldAddr 0 (.t 2)), none⟩,
     ⟨some 14, .op (.ldn 2 (.t 13)), none⟩,
     ⟨some 15, .op (.mv (.t 1)), none⟩,
     ⟨some 16, .call (.c (.fn 12 [] [])) [(.t 14), (.t 15)], none⟩,
     ⟨some 17, .op (.build [.int .u64 0, .int .u64 0, .nilsl] [(0, 2, (.t 16))]), none⟩,
     ⟨some 5, .op (.alloc [.int .u64 0, .int .u64 0, .nilsl]), none⟩,
     ⟨none, .op (.st 3 (.t 5) (.t 17)), none⟩]) (
   .seq (
    .reg [1, 2, 4, 5, 6] [
      ⟨some 6, .op (.mv (.c (.int .u64 0))), none⟩]) (
    .seq (
     .seq (
      .reg [1, 4, 5, 6, 19, 20, 21] [
        ⟨some 18, .op (.fieldAddr 2 (.t 2)), none⟩,
        ⟨some 19, .op (.ld1 (.t 18)), none⟩,
        ⟨some 20, .op (.len 1 (.t 19)), none⟩,
        ⟨some 21, .op (.mv (.c (.int .i64 0))), none⟩]) (
      .block 0 (
       .loop [1, 4, 5, 6, 19, 20, 21] (
        .seq (
         .reg [1, 4, 5, 6, 19, 20, 21, 22] [
           ⟨some 22, .op (.bin .lss (.t 21) (.t 20)), none⟩]) (
         .seq (
          .cond (.t 22) (
           .skip) (
           .exit 0)) (
          .seq (
           .block 1 (
            .seq (
             .reg [1, 4, 5, 6, 7, 8, 19, 20, 21] [
               ⟨some 23, .op (.mv (.t 21)), none⟩,
               ⟨some 24, .op (.idxAddr 2 (.t 19) (.t 21)), none⟩,
               ⟨some 25, .op (.ldn 2 (.t 24)), none⟩,
               ⟨some 8, .op (.alloc [.int .u64 0, .nilsl]), none⟩,
               ⟨some 7, .op (.mv (.t 23)), none⟩,
               ⟨none, .op (.st 2 (.t 8) (.t 25)), none⟩]) (
             .seq (
              .seq (
               .reg [1, 4, 5, 6, 7, 8, 19, 20, 21, 27] [
                 ⟨some 26, .op (.mv (.t 7)), none⟩,
                 ⟨some 27, .op (.bin .gtr (.t 26) (.c (.int .i64 6))), none⟩]) (
               .cond (.t 27) (
                .exit 0) (
                .skip))) (
              .seq (
               .seq (
                .reg [1, 4, 5, 6, 7, 8, 19, 20, 21, 29] [
                  ⟨some 28, .op (.mv (.t 1)), none⟩,
                  ⟨some 29, .op (.un .not (.t 28)), none⟩]) (
                .cond (.t 29) (
                 .reg [1, 4, 5, 6, 7, 8, 19, 20, 21] [
                   ⟨some 30, .op (.fieldAddr 0 (.t 8)), none⟩,
                   ⟨some 31, .op (.ld1 (.t 30)), none⟩,
                   ⟨some 32, .op (.bin .rem (.t 31) (.c (.int .u64 16))), none⟩,
                   ⟨some 33, .op (.fieldAddr 0 (.t 8)), none⟩,
                   ⟨none, .op (.st 1 (.t 33) (.t 32)), none⟩]) (
                 .skip))) (
               .seq (
                .seq (
                 .reg [1, 4, 5, 6, 8, 19, 20, 21, 55] [
                   ⟨some 34, .op (.fieldAddr 0 (.t 8)), none⟩,
                   ⟨some 35, .op (.ld1 (.t 34)), none⟩,
                   ⟨some 36, .op (.fieldAddr 0 (.t 5)), none⟩,
                   ⟨some 37, .op (.fieldAddr 0 (.t 36)), none⟩,
                   ⟨some 38, .op (.ld1 (.t 37)), none⟩,
                   ⟨some 39, .op (.bin .lss (.t 35) (.t 38)), none⟩,
                   ⟨some 40, .op (.mv (.t 39)), none⟩,
                   ⟨some 41, .op (.fieldAddr 0 (.t 8)), some (40, false)⟩,
                   ⟨some 42, .op (.ld1 (.t 41)), some (40, false)⟩,
                   ⟨some 43, .op (.mv (.t 6)), some (40, false)⟩,
                   ⟨some 44, .op (.bin .leq (.t 42) (.t 43)), some (40, false)⟩,
                   ⟨some 45, .op (.mv (.t 44)), some (40, false)⟩,
                   ⟨some 46, .op (.mv (.t 7)), some (45, true)⟩,
                   ⟨some 47, .op (.bin .gtr (.t 46) (.c (.int .i64 0))), some (45, true)⟩,
                   ⟨some 48, .pick (.t 45) (.t 47) (.c (.bool false)), some (40, false)⟩,
                   ⟨some 49, .op (.mv (.t 48)), some (40, false)⟩,
                   ⟨some 50, .op (.fieldAddr 2 (.t 5)), some (49, true)⟩,
                   ⟨some 51, .op (.ld1 (.t 50)), some (49, true)⟩,
                   ⟨some 52, .op (.len 1 (.t 51)), some (49, true)⟩,
                   ⟨some 53, .op (.bin .gtr (.t 52) (.c (.int .i64 0))), some (49, true)⟩,
                   ⟨some 54, .pick (.t 49) (.t 53) (.c (.bool false)), some (40, false)⟩,
                   ⟨some 55, .pick (.t 40) (.c (.bool true)) (.t 54), none⟩]) (
                 .cond (.t 55) (
                  .exit 1) (
                  .skip))) (
                .seq (
                 .reg [1, 4, 5, 6, 8, 9, 19, 20, 21] [
                   ⟨some 9, .op (.mv (.c (.nilsl))), none⟩]) (
                 .seq (
                  .seq (
                   .reg [1, 4, 5, 6, 8, 9, 19, 20, 21, 57, 58, 59] [
                     ⟨some 56, .op (.fieldAddr 1 (.t 8)), none⟩,
                     ⟨some 57, .op (.ld1 (.t 56)), none⟩,
                     ⟨some 58, .op (.len 1 (.t 57)), none⟩,
                     ⟨some 59, .op (.mv (.c (.int .i64 0))), none⟩]) (
                   .block 2 (
                    .loop [1, 4, 5, 6, 8, 9, 19, 20, 21, 57, 58, 59] (
                     .seq (
                      .reg [1, 4, 5, 6, 8, 9, 19, 20, 21, 57, 58, 59, 60] [
                        ⟨some 60, .op (.bin .lss (.t 59) (.t 58)), none⟩]) (
                      .seq (
                       .cond (.t 60) (
                        .skip) (
                        .exit 2)) (
                       .seq (
                        .block 3 (
                         .seq (
                          .reg [1, 4, 5, 6, 8, 9, 10, 11, 19, 20, 21, 57, 58, 59] [
                            ⟨some 61, .op (.mv (.t 59)), none⟩,
                            ⟨some 62, .op (.idxAddr 2 (.t 57) (.t 59)), none⟩,
                            ⟨some 63, .op (.ldn 2 (.t 62)), none⟩,
                            ⟨some 11, .op (.alloc [.int .u64 0, .int .u64 0]), none⟩,
                            ⟨some 10, .op (.mv (.t 61)), none⟩,
                            ⟨none, .op (.st 2 (.t 11) (.t 63)), none⟩]) (
                          .seq (
                           .seq (
                            .reg [1, 4, 5, 6, 8, 9, 10, 11, 19, 20, 21, 57, 58, 59, 65] [
                              ⟨some 64, .op (.mv (.t 1)), none⟩,
                              ⟨some 65, .op (.un .not (.t 64)), none⟩]) (
                            .cond (.t 65) (
                             .reg [1, 4, 5, 6, 8, 9, 10, 11, 19, 20, 21, 57, 58, 59] [
                               ⟨some 66, .op (.fieldAddr 0 (.t 11)), none⟩,
                               ⟨some 67, .op (.ld1 (.t 66)), none⟩,
                               ⟨some 68, .op (.bin .rem (.t 67) (.c (.int .u64 8))), none⟩,
                               ⟨some 69, .op (.fieldAddr 1 (.t 11)), none⟩,
                               ⟨some 70, .op (.ld1 (.t 69)), none⟩,
                               ⟨some 71, .op (.bin .rem (.t 70) (.c (.int .u64 9))), none⟩,
                               ⟨some 72, .op (.build [.int .u64 0, .int .u64 0] [(0, 1, (.t 68)), (1, 1, (.t 71))]), none⟩,
                               ⟨none, .op (.st 2 (.t 11) (.t 72)), none⟩]) (
                             .skip))) (
                           .seq (
                            .reg [1, 4, 5, 6, 8, 9, 11, 19, 20, 21, 57, 58, 59, 74] [
                              ⟨some 73, .op (.mv (.t 10)), none⟩,
                              ⟨some 74, .op (.bin .lss (.t 73) (.c (.int .i64 6))), none⟩]) (
                            .cond (.t 74) (
                             .reg [1, 4, 5, 6, 8, 9, 19, 20, 21, 57, 58, 59] [
                               ⟨some 75, .op (.mv (.t 9)), none⟩,
                               ⟨some 76, .op (.ldn 2 (.t 11)), none⟩,
                               ⟨some 77, .op (.buildSl 2 [.int .u64 0, .int .u64 0] 1 [(0, (.t 76))]), none⟩,
                               ⟨some 78, .op (.append 2 16 (.t 75) (.t 77)), none⟩,
                               ⟨some 9, .op (.mv (.t 78)), none⟩]) (
                             .skip)))))) (
                        .reg [1, 4, 5, 6, 8, 9, 19, 20, 21, 57, 58, 59] [
                          ⟨some 79, .op (.bin .add (.t 59) (.c (.int .i64 1))), none⟩,
                          ⟨some 59, .op (.mv (.t 79)), none⟩]))))))) (
                  .seq (
                   .reg [1, 4, 5, 6, 8, 9, 12, 19, 20, 21] [
                     ⟨some 80, .op (.fieldAddr 0 (.t 5)), none⟩,
                     ⟨some 81, .op (.fieldAddr 1 (.t 80)), none⟩,
                     ⟨some 82, .op (.ld1 (.t 81)), none⟩,
                     ⟨some 83, .op (.build [.int .u64 0, .int .u64 0] [(0, 1, (.c (.int .u64 0))), (1, 1, (.t 82))]), none⟩,
                     ⟨some 84, .op (.buildSl 2 [.int .u64 0, .int .u64 0] 1 [(0, (.t 83))]), none⟩,
                     ⟨some 12, .op (.mv (.t 84)), none⟩]) (
                   .seq (
                    .seq (
                     .reg [1, 4, 5, 6, 8, 9, 12, 19, 20, 21, 90] [
                       ⟨some 85, .op (.fieldAddr 0 (.t 8)), none⟩,
                       ⟨some 86, .op (.ld1 (.t 85)), none⟩,
                       ⟨some 87, .op (.fieldAddr 0 (.t 5)), none⟩,
                       ⟨some 88, .op (.fieldAddr 0 (.t 87)), none⟩,
                       ⟨some 89, .op (.ld1 (.t 88)), none⟩,
                       ⟨some 90, .op (.bin .gtr (.t 86) (.t 89)), none⟩]) (
                     .cond (.t 90) (
                      .reg [1, 4, 5, 6, 8, 9, 12, 19, 20, 21] [
                        ⟨some 12, .op (.mv (.c (.nilsl))), none⟩]) (
                      .skip))) (
                    .seq (
                     .reg [1, 4, 5, 6, 8, 9, 19, 20, 21] [
                       ⟨some 91, .op (.mv (.t 9)), none⟩,
                       ⟨some 92, .op (.mv (.t 12)), none⟩,
                       ⟨some 93, .call (.c (.fn 34 [] [])) [(.t 91), (.t 92)], none⟩,
                       ⟨some 9, .op (.mv (.t 93)), none⟩]) (
                     .seq (
                      .reg [1, 4, 5, 6, 8, 9, 19, 20, 21, 96] [
                        ⟨some 94, .op (.mv (.t 9)), none⟩,
                        ⟨some 95, .op (.len 1 (.t 94)), none⟩,
                        ⟨some 96, .op (.bin .gtr (.t 95) (.c (.int .i64 0))), none⟩]) (
                      .cond (.t 96) (
                       .seq (
                        .reg [1, 4, 5, 8, 19, 20, 21] [
                          ⟨some 97, .op (.fieldAddr 2 (.t 5)), none⟩,
                          ⟨some 98, .op (.ld1 (.t 97)), none⟩,
                          ⟨some 99, .op (.fieldAddr 0 (.t 8)), none⟩,
                          ⟨some 100, .op (.ld1 (.t 99)), none⟩,
                          ⟨some 101, .op (.mv (.t 9)), none⟩,
                          ⟨some 102, .op (.build [.int .u64 0, .nilsl] [(0, 1, (.t 100)), (1, 1, (.t 101))]), none⟩,
                          ⟨some 103, .op (.buildSl 2 [.int .u64 0, .nilsl] 1 [(0, (.t 102))]), none⟩,
                          ⟨some 104, .op (.append 2 32 (.t 98) (.t 103)), none⟩,
                          ⟨some 105, .op (.fieldAddr 2 (.t 5)), none⟩,
                          ⟨none, .op (.st 1 (.t 105) (.t 104)), none⟩]) (
                        .reg [1, 4, 5, 6, 19, 20, 21] [
                          ⟨some 106, .op (.fieldAddr 0 (.t 8)), none⟩,
                          ⟨some 107, .op (.ld1 (.t 106)), none⟩,
                          ⟨some 6, .op (.mv (.t 107)), none⟩])) (
                       .skip))))))))))))) (
           .reg [1, 4, 5, 6, 19, 20, 21] [
             ⟨some 108, .op (.bin .add (.t 21) (.c (.int .i64 1))), none⟩,
             ⟨some 21, .op (.mv (.t 108)), none⟩]))))))) (
     .seq (
      .reg [4] [
        ⟨some 109, .op (.ldn 3 (.t 5)), none⟩,
        ⟨none, .op (.st 3 (.t 4) (.t 109)), none⟩]) (
      .ret)))))
theorem cf11 : compF Try.prog Try.f11 h11 = some (ac11, rs11) := by kernel_rfl

/-! mailcoach/mailcoachlaw13.Place params 2 -/
def h12 : Hints := ⟨[(3, [4]), (2, [4]), (1, [2, 4, 5]), (0, [1, 2, 4])], [], []⟩
def rs12 : List ARes := [.cn 4 2]
def ac12 : ACode :=
 .seq (
  .reg [1, 2, 4] [
    ⟨some 2, .op (.box (.t 0)), none⟩,
    ⟨some 4, .op (.alloc [.int .u64 0, .int .u64 0]), none⟩]) (
  .seq (
   .seq (
    .reg [2, 4, 5] [
      ⟨some 5, .op (.mv (.t 1)), none⟩]) (
    .cond (.t 5) (
     .seq (
      .reg [4] [
        ⟨some 6, .op (.ldn 2 (.t 2)), none⟩,
        ⟨none, .op (.st 2 (.t 4) (.t 6)), none⟩]) (
      .ret)) (
     .skip))) (
   .seq (
    .reg [4] [
      ⟨some 7, .op (.fieldAddr 0 (.t 2)), none⟩,
      ⟨some 8, .op (.ld1 (.t 7)), none⟩,
      ⟨some 9, .op (.bin .rem (.t 8) (.c (.int .u64 16))), none⟩,
      ⟨some 10, .op (.fieldAddr 1 (.t 2)), none⟩,
      ⟨some 11, .op (.ld1 (.t 10)), none⟩,
      ⟨some 12, .op (.bin .rem (.t 11) (.c (.int .u64 8))), none⟩,
      ⟨some 13, .op (.build [.int .u64 0, .int .u64 0] [(0, 1, (.t 9)), (1, 1, (.t 12))]), none⟩,
      ⟨none, .op (.st 2 (.t 4) (.t 13)), none⟩]) (
    .ret)))
theorem cf12 : compF Try.prog Try.f12 h12 = some (ac12, rs12) := by kernel_rfl

/-! mailcoach/cursor.Ack params 4 -/
def h13 : Hints := ⟨[(5, [8, 9]), (2, [8, 9]), (4, [8, 9]), (3, [0, 1, 6, 7, 8, 17]), (1, [0, 1, 6, 7, 8, 10]), (0, [0, 1, 6, 7, 8])], [], []⟩
def rs13 : List ARes := [.cn 8 3, .t 9]
def ac13 : ACode :=
 .seq (
  .reg [0, 1, 6, 7, 8] [
    ⟨some 6, .op (.box (.t 2)), none⟩,
    ⟨some 7, .op (.box (.t 3)), none⟩,
    ⟨some 8, .op (.alloc [.int .u64 0, .int .u64 0, .nilsl]), none⟩,
    ⟨some 9, .op (.mv (.c (.int .i64 0))), none⟩]) (
  .seq (
   .block 0 (
    .seq (
     .reg [0, 1, 6, 7, 8, 10] [
       ⟨some 11, .op (.mv (.t 0)), none⟩,
       ⟨some 12, .op (.mv (.t 1)), none⟩,
       ⟨some 13, .op (.ldn 2 (.t 7)), none⟩,
       ⟨some 14, .call (.c (.fn 22 [] [])) [(.t 11), (.t 12), (.t 13)], none⟩,
       ⟨some 15, .op (.un .not (.t 14)), none⟩,
       ⟨some 10, .op (.mv (.t 15)), none⟩]) (
     .cond (.t 10) (
      .seq (
       .reg [8, 9] [
         ⟨some 16, .op (.build [.int .u64 0, .int .u64 0, .nilsl] []), none⟩,
         ⟨none, .op (.st 3 (.t 8) (.t 16)), none⟩,
         ⟨some 9, .op (.mv (.c (.int .i64 30))), none⟩]) (
       .ret)) (
      .seq (
       .reg [0, 1, 6, 7, 8, 17] [
         ⟨some 18, .op (.ldn 3 (.t 6)), none⟩,
         ⟨some 19, .op (.ldn 2 (.t 7)), none⟩,
         ⟨some 20, .call (.c (.fn 18 [] [])) [(.t 18), (.t 19)], none⟩,
         ⟨some 17, .op (.mv (.t 20)), none⟩]) (
       .cond (.t 17) (
        .seq (
         .reg [8, 9] [
           ⟨some 21, .op (.build [.int .u64 0, .int .u64 0, .nilsl] []), none⟩,
           ⟨none, .op (.st 3 (.t 8) (.t 21)), none⟩,
           ⟨some 9, .op (.mv (.c (.int .i64 31))), none⟩]) (
         .ret)) (
        .skip)))))) (
   .seq (
    .reg [8, 9] [
      ⟨some 22, .op (.mv (.t 0)), none⟩,
      ⟨some 23, .op (.mv (.t 1)), none⟩,
      ⟨some 24, .op (.ldn 3 (.t 6)), none⟩,
      ⟨some 25, .op (.ldn 2 (.t 7)), none⟩,
      ⟨some 26, .call (.c (.fn 36 [] [])) [(.t 24), (.t 25)], none⟩,
      ⟨some 27, .call (.c (.fn 35 [] [])) [(.t 22), (.t 23), (.t 26)], none⟩,
      ⟨none, .op (.st 3 (.t 8) (.t 27)), none⟩,
      ⟨some 9, .op (.mv (.c (.int .i64 0))), none⟩]) (
    .ret)))
theorem cf13 : compF Try.prog Try.f13 h13 = some (ac13, rs13) := by kernel_rfl

/-! mailcoach/mailcoachref13.Same params 2 -/
def h15 : Hints := ⟨[(8, [4]), (5, [2, 3, 5]), (7, [4]), (6, [2, 3, 5, 55]), (4, [2, 3, 5, 24]), (3, [2, 3, 5]), (2, [4]), (1, [2, 3, 19]), (0, [2, 3])], [(4, [2, 3, 5])], [(6, [(0, []), (1, []), (2, []), (3, []), (4, []), (5, []), (6, []), (7, []), (8, []), (9, []), (10, []), (11, []), (12, []), (13, []), (14, []), (15, []), (16, []), (17, []), (18, []), (19, []), (20, []), (21, []), (22, []), (23, []), (24, []), (25, []), (26, []), (27, []), (28, [])])]⟩
def rs15 : List ARes := [.t 4]
def ac15 : ACode :=
 .seq (
  .reg [2, 3] [
    ⟨some 2, .op (.box (.t 0)), none⟩,
    ⟨some 3, .op (.box (.t 1)), none⟩,
    ⟨some 4, .op (.mv (.c (.bool false))), none⟩]) (
  .seq (
   .seq (
    .reg [2, 3, 19] [
      ⟨some 6, .op (.fieldAddr 0 (.t 2)), none⟩,
      ⟨some 7, .op (.ldn 2 (.t 6)), none⟩,
      ⟨some 8, .op (.fieldAddr 0 (.t 3)), none⟩,
      ⟨some 9, .op (.ldn 2 (.t 8)), none⟩,
      ⟨some 10, .op (.eqs true [1, 1] (.t 7) (.t 9)), none⟩,
      ⟨some 11, .op (.mv (.t 10)), none⟩,
      ⟨some 12, .op (.fieldAddr 2 (.t 2)), some (11, false)⟩,
      ⟨some 13, .op (.ld1 (.t 12)), some (11, false)⟩,
      ⟨some 14, .op (.len 1 (.t 13)), some (11, false)⟩,
      ⟨some 15, .op (.fieldAddr 2 (.t 3)), some (11, false)⟩,
      ⟨some 16, .op (.ld1 (.t 15)), some (11, false)⟩,
      ⟨some 17, .op (.len 1 (.t 16)), some (11, false)⟩,
      ⟨some 18, .op (.bin .neq (.t 14) (.t 17)), some (11, false)⟩,
      ⟨some 19, .pick (.t 11) (.c (.bool true)) (.t 18), none⟩]) (
    .cond (.t 19) (
     .seq (
      .reg [4] [
        ⟨some 4, .op (.mv (.c (.bool false))), none⟩]) (
      .ret)) (
     .skip))) (
   .seq (
    .seq (
     .reg [2, 3, 5] [
       ⟨some 5, .op (.mv (.c (.int .i64 0))), none⟩]) (
     .block 0 (
      .loop [2, 3, 5] (
       .seq (
        .seq (
         .reg [2, 3, 5, 24] [
           ⟨some 20, .op (.mv (.t 5)), none⟩,
           ⟨some 21, .op (.fieldAddr 2 (.t 2)), none⟩,
           ⟨some 22, .op (.ld1 (.t 21)), none⟩,
           ⟨some 23, .op (.len 1 (.t 22)), none⟩,
           ⟨some 24, .op (.bin .lss (.t 20) (.t 23)), none⟩]) (
         .cond (.t 24) (
          .skip) (
          .exit 0))) (
        .seq (
         .block 1 (
          .seq (
           .dreg [2, 3, 5, 55] [
             (⟨some 27, .op (.fieldAddr 2 (.t 2)), none⟩, []),
             (⟨some 28, .op (.ld1 (.t 27)), none⟩, []),
             (⟨some 29, .op (.mv (.t 5)), none⟩, []),
             (⟨some 30, .op (.idxAddr 2 (.t 28) (.t 29)), none⟩, []),
             (⟨some 31, .op (.fieldAddr 0 (.t 30)), none⟩, []),
             (⟨some 32, .op (.ld1 (.t 31)), none⟩, []),
             (⟨some 33, .op (.fieldAddr 2 (.t 3)), none⟩, []),
             (⟨some 34, .op (.ld1 (.t 33)), none⟩, []),
             (⟨some 35, .op (.mv (.t 5)), none⟩, []),
             (⟨some 36, .op (.idxAddr 2 (.t 34) (.t 35)), none⟩, []),
             (⟨some 37, .op (.fieldAddr 0 (.t 36)), none⟩, []),
             (⟨some 38, .op (.ld1 (.t 37)), none⟩, []),
             (⟨some 39, .op (.bin .neq (.t 32) (.t 38)), none⟩, []),
             (⟨some 40, .op (.mv (.t 39)), none⟩, []),
             (⟨some 41, .op (.fieldAddr 2 (.t 2)), some (40, false)⟩, []),
             (⟨some 42, .op (.ld1 (.t 41)), some (40, false)⟩, []),
             (⟨some 43, .op (.mv (.t 5)), some (40, false)⟩, []),
             (⟨some 44, .op (.idxAddr 2 (.t 42) (.t 43)), some (40, false)⟩, []),
             (⟨some 45, .op (.fieldAddr 1 (.t 44)), some (40, false)⟩, []),
             (⟨some 46, .op (.ld1 (.t 45)), some (40, false)⟩, []),
             (⟨some 47, .op (.fieldAddr 2 (.t 3)), some (40, false)⟩, []),
             (⟨some 48, .op (.ld1 (.t 47)), some (40, false)⟩, []),
             (⟨some 49, .op (.mv (.t 5)), some (40, false)⟩, []),
             (⟨some 50, .op (.idxAddr 2 (.t 48) (.t 49)), some (40, false)⟩, []),
             (⟨some 51, .op (.fieldAddr 1 (.t 50)), some (40, false)⟩, []),
             (⟨some 52, .op (.ld1 (.t 51)), some (40, false)⟩, []),
             (⟨some 53, .call (.c (.fn 41 [] [])) [(.t 46), (.t 52)], some (40, false)⟩, []),
             (⟨some 54, .op (.un .not (.t 53)), some (40, false)⟩, []),
             (⟨some 55, .pick (.t 40) (.c (.bool true)) (.t 54), none⟩, [])]) (
           .cond (.t 55) (
            .seq (
             .reg [4] [
               ⟨some 4, .op (.mv (.c (.bool false))), none⟩]) (
             .ret)) (
            .skip)))) (
         .reg [2, 3, 5] [
           ⟨some 25, .op (.mv (.t 5)), none⟩,
           ⟨some 26, .op (.bin .add (.t 25) (.c (.int .i64 1))), none⟩,
           ⟨some 5, .op (.mv (.t 26)), none⟩])))))) (
    .seq (
     .reg [4] [
       ⟨some 4, .op (.mv (.c (.bool true))), none⟩]) (
     .ret))))
theorem cf15 : compF Try.prog Try.f15 h15 = some (ac15, rs15) := by kernel_rfl

/-! mailcoach/cursor.Acked params 2 -/
def h18 : Hints := ⟨[(1, [4]), (0, [2, 3])], [], [(1, [(0, []), (1, []), (2, []), (3, []), (4, []), (5, []), (6, []), (7, []), (8, []), (10, []), (11, []), (9, [10]), (12, []), (13, []), (14, [])])]⟩
def rs18 : List ARes := [.t 4]
def ac18 : ACode :=
 .seq (
  .reg [2, 3] [
    ⟨some 2, .op (.box (.t 0)), none⟩,
    ⟨some 3, .op (.box (.t 1)), none⟩,
    ⟨some 4, .op (.mv (.c (.bool false))), none⟩]) (
  .seq (
   .dreg [4] [
     (⟨some 5, .op (.ldn 2 (.t 3)), none⟩, []),
     (⟨some 6, .op (.fieldAddr 0 (.t 2)), none⟩, []),
     (⟨some 7, .op (.ldn 2 (.t 6)), none⟩, []),
     (⟨some 8, .call (.c (.fn 20 [] [])) [(.t 5), (.t 7)], none⟩, []),
     (⟨some 9, .op (.bin .lss (.t 8) (.c (.int .i64 0))), none⟩, []),
     (⟨some 10, .op (.mv (.t 9)), none⟩, []),
     (⟨some 11, .op (.ldn 3 (.t 2)), some (10, false)⟩, []),
     (⟨some 12, .op (.fieldAddr 0 (.t 3)), some (10, false)⟩, []),
     (⟨some 13, .op (.ld1 (.t 12)), some (10, false)⟩, []),
     (⟨some 15, .op (.fieldAddr 1 (.t 3)), some (10, false)⟩, []),
     (⟨some 16, .op (.ld1 (.t 15)), some (10, false)⟩, []),
     (⟨some 14, .call (.c (.fn 46 [] [])) [(.t 11), (.t 13)], some (10, false)⟩, [10]),
     (⟨some 17, .call (.c (.fn 45 [] [])) [(.t 14), (.t 16)], some (10, false)⟩, []),
     (⟨some 18, .pick (.t 10) (.c (.bool true)) (.t 17), none⟩, []),
     (⟨some 4, .op (.mv (.t 18)), none⟩, [])]) (
   .ret))
theorem cf18 : compF Try.prog Try.f18 h18 = some (ac18, rs18) := by kernel_rfl

/-! mailcoach/ledgers.Order params 2 -/
def h20 : Hints := ⟨[(1, [4]), (0, [2, 3])], [], [(1, [(0, []), (1, []), (2, []), (3, []), (5, []), (6, []), (7, []), (8, []), (4, [5, 7]), (9, []), (10, []), (11, []), (12, [])])]⟩
def rs20 : List ARes := [.t 4]
def ac20 : ACode :=
 .seq (
  .reg [2, 3] [
    ⟨some 2, .op (.box (.t 0)), none⟩,
    ⟨some 3, .op (.box (.t 1)), none⟩,
    ⟨some 4, .op (.mv (.c (.int .i64 0))), none⟩]) (
  .seq (
   .dreg [4] [
     (⟨some 5, .op (.fieldAddr 0 (.t 2)), none⟩, []),
     (⟨some 6, .op (.ld1 (.t 5)), none⟩, []),
     (⟨some 7, .op (.fieldAddr 0 (.t 3)), none⟩, []),
     (⟨some 8, .op (.ld1 (.t 7)), none⟩, []),
     (⟨some 10, .op (.fieldAddr 1 (.t 2)), none⟩, []),
     (⟨some 11, .op (.ld1 (.t 10)), none⟩, []),
     (⟨some 12, .op (.fieldAddr 1 (.t 3)), none⟩, []),
     (⟨some 13, .op (.ld1 (.t 12)), none⟩, []),
     (⟨some 9, .call (.c (.fn 49 [] [])) [(.t 6), (.t 8)], none⟩, [5, 7]),
     (⟨some 14, .call (.c (.fn 49 [] [])) [(.t 11), (.t 13)], none⟩, []),
     (⟨some 15, .op (.buildSl 1 [.int .i64 0] 2 [(0, (.t 9)), (1, (.t 14))]), none⟩, []),
     (⟨some 16, .call (.c (.fn 48 [] [])) [(.t 15)], none⟩, []),
     (⟨some 4, .op (.mv (.t 16)), none⟩, [])]) (
   .ret))
theorem cf20 : compF Try.prog Try.f20 h20 = some (ac20, rs20) := by kernel_rfl

/-! mailcoach/cursor.Check params 1 -/
def h21 : Hints := ⟨[(7, [2]), (6, [1, 6, 7, 8]), (5, [2]), (4, [1, 6, 7, 8, 52]), (3, [1, 3, 4, 6, 7, 8]), (2, [1, 6, 7, 8, 9]), (1, [1, 6, 7, 8]), (0, [1])], [(2, [1, 6, 7, 8])], [(4, [(0, []), (1, []), (2, []), (3, []), (4, []), (5, []), (6, []), (7, []), (8, []), (9, []), (10, []), (11, []), (12, []), (13, []), (14, []), (15, []), (16, []), (17, []), (18, []), (19, []), (20, []), (21, []), (22, []), (23, []), (24, []), (25, []), (26, []), (27, []), (28, []), (29, []), (30, []), (31, []), (32, []), (33, []), (34, []), (35, []), (36, []), (37, []), (38, []), (39, [])])]⟩
def rs21 : List ARes := [.t 2]
def ac21 : ACode :=
 .seq (
  .reg [1] [
    ⟨some 1, .op (.box (.t 0)), none⟩,
    ⟨some 2, .op (.mv (.c (.bool false))), none⟩]) (
  .seq (
   .seq (
    .reg [1, 6, 7, 8] [
      ⟨some 5, .op (.fieldAddr 2 (.t 1)), none⟩,
      ⟨some 6, .op (.ld1 (.t 5)), none⟩,
      ⟨some 7, .op (.len 1 (.t 6)), none⟩,
      ⟨some 8, .op (.mv (.c (.int .i64 0))), none⟩]) (
    .block 0 (
     .loop [1, 6, 7, 8] (
      .seq (
       .reg [1, 6, 7, 8, 9] [
         ⟨some 9, .op (.bin .lss (.t 8) (.t 7)), none⟩]) (
       .seq (
        .cond (.t 9) (
         .skip) (
         .exit 0)) (
        .seq (
         .block 1 (
          .seq (
           .reg [1, 3, 4, 6, 7, 8] [
             ⟨some 10, .op (.mv (.t 8)), none⟩,
             ⟨some 11, .op (.idxAddr 2 (.t 6) (.t 8)), none⟩,
             ⟨some 12, .op (.ldn 2 (.t 11)), none⟩,
             ⟨some 4, .op (.alloc [.int .u64 0, .nilsl]), none⟩,
             ⟨some 3, .op (.mv (.t 10)), none⟩,
             ⟨none, .op (.st 2 (.t 4) (.t 12)), none⟩]) (
           .seq (
            .dreg [1, 6, 7, 8, 52] [
              (⟨some 13, .op (.fieldAddr 1 (.t 4)), none⟩, []),
              (⟨some 14, .op (.ld1 (.t 13)), none⟩, []),
              (⟨some 15, .op (.len 1 (.t 14)), none⟩, []),
              (⟨some 16, .op (.bin .eql (.t 15) (.c (.int .i64 0))), none⟩, []),
              (⟨some 17, .op (.mv (.t 16)), none⟩, []),
              (⟨some 18, .op (.fieldAddr 1 (.t 4)), some (17, false)⟩, []),
              (⟨some 19, .op (.ld1 (.t 18)), some (17, false)⟩, []),
              (⟨some 20, .call (.c (.fn 50 [] [])) [(.t 19)], some (17, false)⟩, []),
              (⟨some 21, .op (.un .not (.t 20)), some (17, false)⟩, []),
              (⟨some 22, .pick (.t 17) (.c (.bool true)) (.t 21), none⟩, []),
              (⟨some 23, .op (.mv (.t 22)), none⟩, []),
              (⟨some 24, .op (.mv (.t 3)), some (23, false)⟩, []),
              (⟨some 25, .op (.bin .gtr (.t 24) (.c (.int .i64 0))), some (23, false)⟩, []),
              (⟨some 26, .op (.mv (.t 25)), some (23, false)⟩, []),
              (⟨some 27, .op (.fieldAddr 2 (.t 1)), some (26, true)⟩, []),
              (⟨some 28, .op (.ld1 (.t 27)), some (26, true)⟩, []),
              (⟨some 29, .op (.mv (.t 3)), some (26, true)⟩, []),
              (⟨some 30, .op (.bin .sub (.t 29) (.c (.int .i64 1))), some (26, true)⟩, []),
              (⟨some 31, .op (.idxAddr 2 (.t 28) (.t 30)), some (26, true)⟩, []),
              (⟨some 32, .op (.fieldAddr 0 (.t 31)), some (26, true)⟩, []),
              (⟨some 33, .op (.ld1 (.t 32)), some (26, true)⟩, []),
              (⟨some 34, .op (.fieldAddr 0 (.t 4)), some (26, true)⟩, []),
              (⟨some 35, .op (.ld1 (.t 34)), some (26, true)⟩, []),
              (⟨some 36, .op (.bin .geq (.t 33) (.t 35)), some (26, true)⟩, []),
              (⟨some 37, .pick (.t 26) (.t 36) (.c (.bool false)), some (23, false)⟩, []),
              (⟨some 38, .pick (.t 23) (.c (.bool true)) (.t 37), none⟩, []),
              (⟨some 39, .op (.mv (.t 38)), none⟩, []),
              (⟨some 40, .op (.fieldAddr 0 (.t 4)), some (39, false)⟩, []),
              (⟨some 41, .op (.ld1 (.t 40)), some (39, false)⟩, []),
              (⟨some 42, .op (.fieldAddr 1 (.t 4)), some (39, false)⟩, []),
              (⟨some 43, .op (.ld1 (.t 42)), some (39, false)⟩, []),
              (⟨some 44, .op (.idxAddr 2 (.t 43) (.c (.int .i64 0))), some (39, false)⟩, []),
              (⟨some 45, .op (.fieldAddr 0 (.t 44)), some (39, false)⟩, []),
              (⟨some 46, .op (.ld1 (.t 45)), some (39, false)⟩, []),
              (⟨some 47, .op (.build [.int .u64 0, .int .u64 0] [(0, 1, (.t 41)), (1, 1, (.t 46))]), some (39, false)⟩, []),
              (⟨some 48, .op (.fieldAddr 0 (.t 1)), some (39, false)⟩, []),
              (⟨some 49, .op (.ldn 2 (.t 48)), some (39, false)⟩, []),
              (⟨some 50, .call (.c (.fn 20 [] [])) [(.t 47), (.t 49)], some (39, false)⟩, []),
              (⟨some 51, .op (.bin .lss (.t 50) (.c (.int .i64 0))), some (39, false)⟩, []),
              (⟨some 52, .pick (.t 39) (.c (.bool true)) (.t 51), none⟩, [])]) (
            .cond (.t 52) (
             .seq (
              .reg [2] [
                ⟨some 2, .op (.mv (.c (.bool false))), none⟩]) (
              .ret)) (
             .skip))))) (
         .reg [1, 6, 7, 8] [
           ⟨some 53, .op (.bin .add (.t 8) (.c (.int .i64 1))), none⟩,
           ⟨some 8, .op (.mv (.t 53)), none⟩]))))))) (
   .seq (
    .reg [2] [
      ⟨some 2, .op (.mv (.c (.bool true))), none⟩]) (
    .ret)))
theorem cf21 : compF Try.prog Try.f21 h21 = some (ac21, rs21) := by kernel_rfl

/-! mailcoach/ledgers.Has params 3 -/
def h22 : Hints := ⟨[(2, [6]), (1, [5, 7, 8]), (0, [0, 1, 5])], [], []⟩
def rs22 : List ARes := [.t 6]
def ac22 : ACode :=
 .seq (
  .reg [0, 1, 5] [
    ⟨some 5, .op (.box (.t 2)), none⟩,
    ⟨some 6, .op (.mv (.c (.bool false))), none⟩]) (
  .seq (
   .reg [5, 7, 8] [
     ⟨some 10, .op (.mv (.t 0)), none⟩,
     ⟨some 11, .op (.mv (.t 1)), none⟩,
     ⟨some 12, .op (.ldn 2 (.t 5)), none⟩,
     ⟨some 13, .call (.c (.fn 51 [] [])) [(.t 10), (.t 11), (.t 12)], none⟩,
     ⟨some 9, .op (.mv (.t 13)), none⟩,
     ⟨some 14, .op (.extract (.t 9) 0), none⟩,
     ⟨some 15, .op (.extract (.t 9) 1), none⟩,
     ⟨some 7, .op (.alloc [.int .u64 0, .int .u64 0]), none⟩,
     ⟨none, .op (.st 2 (.t 7) (.t 14)), none⟩,
     ⟨some 8, .op (.mv (.t 15)), none⟩]) (
   .seq (
    .reg [6] [
      ⟨some 16, .op (.mv (.t 8)), none⟩,
      ⟨some 17, .op (.mv (.t 16)), none⟩,
      ⟨some 18, .op (.ldn 2 (.t 7)), some (17, true)⟩,
      ⟨some 19, .op (.ldn 2 (.t 5)), some (17, true)⟩,
      ⟨some 20, .op (.eqs false [1, 1] (.t 18) (.t 19)), some (17, true)⟩,
      ⟨some 21, .pick (.t 17) (.t 20) (.c (.bool false)), none⟩,
      ⟨some 6, .op (.mv (.t 21)), none⟩]) (
    .ret)))
theorem cf22 : compF Try.prog Try.f22 h22 = some (ac22, rs22) := by kernel_rfl

/-! mailcoach/mailcoachref13.RightCursor params 1 -/
def h28 : Hints := ⟨[(9, [2]), (3, [1, 3]), (8, [2]), (7, [1, 3, 54]), (6, [2]), (5, [1, 3, 4, 42]), (4, [1, 3, 4]), (2, [1, 3, 9]), (1, [1, 3]), (0, [1])], [(2, [1, 3])], [(5, [(0, []), (1, []), (2, []), (3, []), (4, []), (5, []), (6, []), (7, []), (8, []), (9, []), (10, []), (11, []), (12, []), (13, []), (14, []), (15, []), (16, []), (17, []), (18, []), (19, []), (20, []), (21, []), (22, []), (23, []), (24, []), (25, [])]), (7, [(0, []), (1, []), (2, []), (3, []), (4, []), (5, []), (6, []), (7, []), (8, []), (9, []), (10, []), (11, [])])]⟩
def rs28 : List ARes := [.t 2]
def ac28 : ACode :=
 .seq (
  .reg [1] [
    ⟨some 1, .op (.box (.t 0)), none⟩,
    ⟨some 2, .op (.mv (.c (.bool false))), none⟩]) (
  .seq (
   .seq (
    .reg [1, 3] [
      ⟨some 3, .op (.mv (.c (.int .i64 0))), none⟩]) (
    .block 0 (
     .loop [1, 3] (
      .seq (
       .seq (
        .reg [1, 3, 9] [
          ⟨some 5, .op (.mv (.t 3)), none⟩,
          ⟨some 6, .op (.fieldAddr 2 (.t 1)), none⟩,
          ⟨some 7, .op (.ld1 (.t 6)), none⟩,
          ⟨some 8, .op (.len 1 (.t 7)), none⟩,
          ⟨some 9, .op (.bin .lss (.t 5) (.t 8)), none⟩]) (
        .cond (.t 9) (
         .skip) (
         .exit 0))) (
       .seq (
        .block 1 (
         .seq (
          .reg [1, 3, 4] [
            ⟨some 12, .op (.fieldAddr 2 (.t 1)), none⟩,
            ⟨some 13, .op (.ld1 (.t 12)), none⟩,
            ⟨some 14, .op (.mv (.t 3)), none⟩,
            ⟨some 15, .op (.idxAddr 2 (.t 13) (.t 14)), none⟩,
            ⟨some 16, .op (.ldn 2 (.t 15)), none⟩,
            ⟨some 4, .op (.alloc [.int .u64 0, .nilsl]), none⟩,
            ⟨none, .op (.st 2 (.t 4) (.t 16)), none⟩]) (
          .seq (
           .seq (
            .dreg [1, 3, 4, 42] [
              (⟨some 17, .op (.fieldAddr 1 (.t 4)), none⟩, []),
              (⟨some 18, .op (.ld1 (.t 17)), none⟩, []),
              (⟨some 19, .op (.len 1 (.t 18)), none⟩, []),
              (⟨some 20, .op (.bin .eql (.t 19) (.c (.int .i64 0))), none⟩, []),
              (⟨some 21, .op (.mv (.t 20)), none⟩, []),
              (⟨some 22, .op (.fieldAddr 1 (.t 4)), some (21, false)⟩, []),
              (⟨some 23, .op (.ld1 (.t 22)), some (21, false)⟩, []),
              (⟨some 24, .call (.c (.fn 55 [] [])) [(.t 23)], some (21, false)⟩, []),
              (⟨some 25, .op (.un .not (.t 24)), some (21, false)⟩, []),
              (⟨some 26, .pick (.t 21) (.c (.bool true)) (.t 25), none⟩, []),
              (⟨some 27, .op (.mv (.t 26)), none⟩, []),
              (⟨some 28, .op (.mv (.t 3)), some (27, false)⟩, []),
              (⟨some 29, .op (.bin .gtr (.t 28) (.c (.int .i64 0))), some (27, false)⟩, []),
              (⟨some 30, .op (.mv (.t 29)), some (27, false)⟩, []),
              (⟨some 31, .op (.fieldAddr 0 (.t 4)), some (30, true)⟩, []),
              (⟨some 32, .op (.ld1 (.t 31)), some (30, true)⟩, []),
              (⟨some 33, .op (.fieldAddr 2 (.t 1)), some (30, true)⟩, []),
              (⟨some 34, .op (.ld1 (.t 33)), some (30, true)⟩, []),
              (⟨some 35, .op (.mv (.t 3)), some (30, true)⟩, []),
              (⟨some 36, .op (.bin .sub (.t 35) (.c (.int .i64 1))), some (30, true)⟩, []),
              (⟨some 37, .op (.idxAddr 2 (.t 34) (.t 36)), some (30, true)⟩, []),
              (⟨some 38, .op (.fieldAddr 0 (.t 37)), some (30, true)⟩, []),
              (⟨some 39, .op (.ld1 (.t 38)), some (30, true)⟩, []),
              (⟨some 40, .op (.bin .leq (.t 32) (.t 39)), some (30, true)⟩, []),
              (⟨some 41, .pick (.t 30) (.t 40) (.c (.bool false)), some (27, false)⟩, []),
              (⟨some 42, .pick (.t 27) (.c (.bool true)) (.t 41), none⟩, [])]) (
            .cond (.t 42) (
             .seq (
              .reg [2] [
                ⟨some 2, .op (.mv (.c (.bool false))), none⟩]) (
              .ret)) (
             .skip))) (
           .seq (
            .dreg [1, 3, 54] [
              (⟨some 43, .op (.fieldAddr 0 (.t 4)), none⟩, []),
              (⟨some 44, .op (.ld1 (.t 43)), none⟩, []),
              (⟨some 45, .op (.fieldAddr 1 (.t 4)), none⟩, []),
              (⟨some 46, .op (.ld1 (.t 45)), none⟩, []),
              (⟨some 47, .op (.idxAddr 2 (.t 46) (.c (.int .i64 0))), none⟩, []),
              (⟨some 48, .op (.fieldAddr 0 (.t 47)), none⟩, []),
              (⟨some 49, .op (.ld1 (.t 48)), none⟩, []),
              (⟨some 50, .op (.build [.int .u64 0, .int .u64 0] [(0, 1, (.t 44)), (1, 1, (.t 49))]), none⟩, []),
              (⟨some 51, .op (.fieldAddr 0 (.t 1)), none⟩, []),
              (⟨some 52, .op (.ldn 2 (.t 51)), none⟩, []),
              (⟨some 53, .call (.c (.fn 43 [] [])) [(.t 50), (.t 52)], none⟩, []),
              (⟨some 54, .op (.bin .lss (.t 53) (.c (.int .i64 0))), none⟩, [])]) (
            .cond (.t 54) (
             .seq (
              .reg [2] [
                ⟨some 2, .op (.mv (.c (.bool false))), none⟩]) (
              .ret)) (
             .skip)))))) (
        .reg [1, 3] [
          ⟨some 10, .op (.mv (.t 3)), none⟩,
          ⟨some 11, .op (.bin .add (.t 10) (.c (.int .i64 1))), none⟩,
          ⟨some 3, .op (.mv (.t 11)), none⟩])))))) (
   .seq (
    .reg [2] [
      ⟨some 2, .op (.mv (.c (.bool true))), none⟩]) (
    .ret)))
theorem cf28 : compF Try.prog Try.f28 h28 = some (ac28, rs28) := by kernel_rfl

/-! mailcoach/cursor.Encode params 1 -/
def h29 : Hints := ⟨[(8, [2, 3]), (7, [5]), (6, [1, 5]), (5, [2, 3]), (4, [1, 18]), (3, [1, 4]), (2, [2, 3]), (1, [1, 8]), (0, [1])], [], []⟩
def rs29 : List ARes := [.t 2, .t 3]
def ac29 : ACode :=
 .seq (
  .reg [1] [
    ⟨some 1, .op (.box (.t 0)), none⟩,
    ⟨some 2, .op (.mv (.c (.nilsl))), none⟩,
    ⟨some 3, .op (.mv (.c (.int .i64 0))), none⟩]) (
  .seq (
   .seq (
    .reg [1, 8] [
      ⟨some 6, .op (.ldn 3 (.t 1)), none⟩,
      ⟨some 7, .call (.c (.fn 21 [] [])) [(.t 6)], none⟩,
      ⟨some 8, .op (.un .not (.t 7)), none⟩]) (
    .cond (.t 8) (
     .seq (
      .reg [2, 3] [
        ⟨some 2, .op (.mv (.c (.nilsl))), none⟩,
        ⟨some 3, .op (.mv (.c (.int .i64 23))), none⟩]) (
      .ret)) (
     .skip))) (
   .seq (
    .reg [1, 4] [
      ⟨some 4, .op (.mv (.c (.fn 56 [] []))), none⟩]) (
    .seq (
     .seq (
      .reg [1, 18] [
        ⟨some 9, .op (.fieldAddr 2 (.t 1)), none⟩,
        ⟨some 10, .op (.ld1 (.t 9)), none⟩,
        ⟨some 11, .op (.len 1 (.t 10)), none⟩,
        ⟨some 12, .op (.bin .gtr (.t 11) (.c (.int .i64 65535))), none⟩,
        ⟨some 13, .op (.mv (.t 12)), none⟩,
        ⟨some 14, .op (.fieldAddr 2 (.t 1)), some (13, false)⟩,
        ⟨some 15, .op (.ld1 (.t 14)), some (13, false)⟩,
        ⟨some 16, .op (.mv (.t 4)), some (13, false)⟩,
        ⟨some 17, .call (.c (.fn 57 [] [])) [(.t 15), (.t 16)], some (13, false)⟩,
        ⟨some 18, .pick (.t 13) (.c (.bool true)) (.t 17), none⟩]) (
      .cond (.t 18) (
       .seq (
        .reg [2, 3] [
          ⟨some 2, .op (.mv (.c (.nilsl))), none⟩,
          ⟨some 3, .op (.mv (.c (.int .i64 14))), none⟩]) (
        .ret)) (
       .skip))) (
     .seq (
      .reg [1, 5] [
        ⟨some 19, .op (.build [.nilsl] []), none⟩,
        ⟨some 20, .op (.box (.t 19)), none⟩,
        ⟨some 5, .op (.mv (.t 20)), none⟩]) (
      .seq (
       .reg [5] [
         ⟨some 21, .op (.mv (.t 5)), none⟩,
         ⟨some 22, .op (.ldn 3 (.t 1)), none⟩,
         ⟨some 23, .call (.c (.fn 58 [] [])) [(.t 21), (.t 22)], none⟩]) (
       .seq (
        .reg [2, 3] [
          ⟨some 24, .op (.mv (.t 5)), none⟩,
          ⟨some 25, .call (.c (.fn 59 [] [])) [(.t 24)], none⟩,
          ⟨some 2, .op (.mv (.t 25)), none⟩,
          ⟨some 3, .op (.mv (.c (.int .i64 0))), none⟩]) (
        .ret)))))))
theorem cf29 : compF Try.prog Try.f29 h29 = some (ac29, rs29) := by kernel_rfl

/-! mailcoach/mailcoachref13.Bytes params 2 -/
def h30 : Hints := ⟨[(13, [4]), (5, [0, 3, 5]), (11, [0, 3, 5, 6, 7]), (12, [0, 3, 5, 6, 7]), (10, [0, 3, 5, 6, 7, 52]), (9, [0, 3, 5, 6, 7]), (8, [0, 3, 5, 6]), (7, [0, 3, 5, 6]), (6, [0, 3, 5]), (4, [0, 3, 5, 27]), (3, [0, 3, 5]), (2, [0, 3]), (1, [0, 3]), (0, [0, 3])], [(10, [0, 3, 5, 6, 7]), (4, [0, 3, 5])], [(1, [(0, []), (1, []), (2, []), (3, []), (5, []), (6, []), (7, []), (4, [6]), (8, []), (9, [])]), (12, [(0, []), (1, []), (2, []), (3, []), (4, []), (5, []), (7, []), (8, []), (9, []), (10, []), (11, []), (6, [10]), (12, []), (13, [])])]⟩
def rs30 : List ARes := [.t 4]
def ac30 : ACode :=
 .seq (
  .reg [0, 3] [
    ⟨some 3, .op (.box (.t 1)), none⟩,
    ⟨some 4, .op (.mv (.c (.nilsl))), none⟩]) (
  .seq (
   .dreg [0, 3] [
     (⟨some 8, .op (.mv (.t 0)), none⟩, []),
     (⟨some 9, .op (.fieldAddr 0 (.t 3)), none⟩, []),
     (⟨some 10, .op (.fieldAddr 0 (.t 9)), none⟩, []),
     (⟨some 11, .op (.ld1 (.t 10)), none⟩, []),
     (⟨some 13, .op (.fieldAddr 0 (.t 3)), none⟩, []),
     (⟨some 14, .op (.fieldAddr 1 (.t 13)), none⟩, []),
     (⟨some 15, .op (.ld1 (.t 14)), none⟩, []),
     (⟨some 12, .call (.c (.fn 60 [] [])) [(.t 8), (.t 11), (.c (.int .i64 8))], none⟩, [6]),
     (⟨some 16, .call (.c (.fn 60 [] [])) [(.t 12), (.t 15), (.c (.int .i64 8))], none⟩, []),
     (⟨some 0, .op (.mv (.t 16)), none⟩, [])]) (
   .seq (
    .reg [0, 3] [
      ⟨some 17, .op (.mv (.t 0)), none⟩,
      ⟨some 18, .op (.fieldAddr 2 (.t 3)), none⟩,
      ⟨some 19, .op (.ld1 (.t 18)), none⟩,
      ⟨some 20, .op (.len 1 (.t 19)), none⟩,
      ⟨some 21, .op (.toInt .u64 (.t 20)), none⟩,
      ⟨some 22, .call (.c (.fn 60 [] [])) [(.t 17), (.t 21), (.c (.int .i64 2))], none⟩,
      ⟨some 0, .op (.mv (.t 22)), none⟩]) (
    .seq (
     .seq (
      .reg [0, 3, 5] [
        ⟨some 5, .op (.mv (.c (.int .i64 0))), none⟩]) (
      .block 0 (
       .loop [0, 3, 5] (
        .seq (
         .seq (
          .reg [0, 3, 5, 27] [
            ⟨some 23, .op (.mv (.t 5)), none⟩,
            ⟨some 24, .op (.fieldAddr 2 (.t 3)), none⟩,
            ⟨some 25, .op (.ld1 (.t 24)), none⟩,
            ⟨some 26, .op (.len 1 (.t 25)), none⟩,
            ⟨some 27, .op (.bin .lss (.t 23) (.t 26)), none⟩]) (
          .cond (.t 27) (
           .skip) (
           .exit 0))) (
         .seq (
          .block 1 (
           .seq (
            .reg [0, 3, 5] [
              ⟨some 30, .op (.mv (.t 0)), none⟩,
              ⟨some 31, .op (.fieldAddr 2 (.t 3)), none⟩,
              ⟨some 32, .op (.ld1 (.t 31)), none⟩,
              ⟨some 33, .op (.mv (.t 5)), none⟩,
              ⟨some 34, .op (.idxAddr 2 (.t 32) (.t 33)), none⟩,
              ⟨some 35, .op (.fieldAddr 0 (.t 34)), none⟩,
              ⟨some 36, .op (.ld1 (.t 35)), none⟩,
              ⟨some 37, .call (.c (.fn 60 [] [])) [(.t 30), (.t 36), (.c (.int .i64 8))], none⟩,
              ⟨some 0, .op (.mv (.t 37)), none⟩]) (
            .seq (
             .reg [0, 3, 5, 6] [
               ⟨some 38, .op (.fieldAddr 2 (.t 3)), none⟩,
               ⟨some 39, .op (.ld1 (.t 38)), none⟩,
               ⟨some 40, .op (.mv (.t 5)), none⟩,
               ⟨some 41, .op (.idxAddr 2 (.t 39) (.t 40)), none⟩,
               ⟨some 42, .op (.fieldAddr 1 (.t 41)), none⟩,
               ⟨some 43, .op (.ld1 (.t 42)), none⟩,
               ⟨some 6, .op (.mv (.t 43)), none⟩]) (
             .seq (
              .reg [0, 3, 5, 6] [
                ⟨some 44, .op (.mv (.t 0)), none⟩,
                ⟨some 45, .op (.mv (.t 6)), none⟩,
                ⟨some 46, .op (.len 1 (.t 45)), none⟩,
                ⟨some 47, .op (.toInt .u64 (.t 46)), none⟩,
                ⟨some 48, .call (.c (.fn 60 [] [])) [(.t 44), (.t 47), (.c (.int .i64 2))], none⟩,
                ⟨some 0, .op (.mv (.t 48)), none⟩]) (
              .seq (
               .reg [0, 3, 5, 6, 7] [
                 ⟨some 7, .op (.mv (.c (.int .i64 0))), none⟩]) (
               .block 2 (
                .loop [0, 3, 5, 6, 7] (
                 .seq (
                  .seq (
                   .reg [0, 3, 5, 6, 7, 52] [
                     ⟨some 49, .op (.mv (.t 7)), none⟩,
                     ⟨some 50, .op (.mv (.t 6)), none⟩,
                     ⟨some 51, .op (.len 1 (.t 50)), none⟩,
                     ⟨some 52, .op (.bin .lss (.t 49) (.t 51)), none⟩]) (
                   .cond (.t 52) (
                    .skip) (
                    .exit 2))) (
                  .seq (
                   .block 3 (
                    .dreg [0, 3, 5, 6, 7] [
                      (⟨some 55, .op (.mv (.t 0)), none⟩, []),
                      (⟨some 56, .op (.mv (.t 6)), none⟩, []),
                      (⟨some 57, .op (.mv (.t 7)), none⟩, []),
                      (⟨some 58, .op (.idxAddr 2 (.t 56) (.t 57)), none⟩, []),
                      (⟨some 59, .op (.fieldAddr 0 (.t 58)), none⟩, []),
                      (⟨some 60, .op (.ld1 (.t 59)), none⟩, []),
                      (⟨some 62, .op (.mv (.t 6)), none⟩, []),
                      (⟨some 63, .op (.mv (.t 7)), none⟩, []),
                      (⟨some 64, .op (.idxAddr 2 (.t 62) (.t 63)), none⟩, []),
                      (⟨some 65, .op (.fieldAddr 1 (.t 64)), none⟩, []),
                      (⟨some 66, .op (.ld1 (.t 65)), none⟩, []),
                      (⟨some 61, .call (.c (.fn 60 [] [])) [(.t 55), (.t 60), (.c (.int .i64 8))], none⟩, [10]),
                      (⟨some 67, .call (.c (.fn 60 [] [])) [(.t 61), (.t 66), (.c (.int .i64 8))], none⟩, []),
                      (⟨some 0, .op (.mv (.t 67)), none⟩, [])])) (
                   .reg [0, 3, 5, 6, 7] [
                     ⟨some 53, .op (.mv (.t 7)), none⟩,
                     ⟨some 54, .op (.bin .add (.t 53) (.c (.int .i64 1))), none⟩,
                     ⟨some 7, .op (.mv (.t 54)), none⟩])))))))))) (
          .reg [0, 3, 5] [
            ⟨some 28, .op (.mv (.t 5)), none⟩,
            ⟨some 29, .op (.bin .add (.t 28) (.c (.int .i64 1))), none⟩,
            ⟨some 5, .op (.mv (.t 29)), none⟩])))))) (
     .seq (
      .reg [4] [
        ⟨some 68, .op (.mv (.t 0)), none⟩,
        ⟨some 4, .op (.mv (.t 68)), none⟩]) (
      .ret)))))
theorem cf30 : compF Try.prog Try.f30 h30 = some (ac30, rs30) := by kernel_rfl

/-! mailcoach/cursor.Decode params 1 -/
def h31 : Hints := ⟨[(5, [2, 3]), (4, [2, 3]), (3, [2, 4, 5, 10]), (2, [2, 4, 5]), (1, [0, 2, 4]), (0, [0, 2])], [], []⟩
def rs31 : List ARes := [.cn 2 3, .t 3]
def ac31 : ACode :=
 .seq (
  .reg [0, 2] [
    ⟨some 2, .op (.alloc [.int .u64 0, .int .u64 0, .nilsl]), none⟩,
    ⟨some 3, .op (.mv (.c (.int .i64 0))), none⟩]) (
  .seq (
   .reg [0, 2, 4] [
     ⟨some 4, .op (.alloc [.int .u64 0, .int .u64 0, .nilsl]), none⟩]) (
   .seq (
    .seq (
     .reg [2, 4, 5] [
       ⟨some 6, .op (.mv (.t 0)), none⟩,
       ⟨some 7, .op (.mkfn 62 [] [(.t 4)]), none⟩,
       ⟨some 8, .call (.c (.fn 61 [] [])) [(.t 6), (.t 7)], none⟩,
       ⟨some 5, .op (.mv (.t 8)), none⟩]) (
     .seq (
      .reg [2, 4, 5, 10] [
        ⟨some 9, .op (.mv (.t 5)), none⟩,
        ⟨some 10, .op (.bin .neq (.t 9) (.c (.int .i64 0))), none⟩]) (
      .cond (.t 10) (
       .seq (
        .reg [2, 3] [
          ⟨some 11, .op (.build [.int .u64 0, .int .u64 0, .nilsl] []), none⟩,
          ⟨some 12, .op (.mv (.t 5)), none⟩,
          ⟨none, .op (.st 3 (.t 2) (.t 11)), none⟩,
          ⟨some 3, .op (.mv (.t 12)), none⟩]) (
        .ret)) (
       .skip)))) (
    .seq (
     .reg [2, 3] [
       ⟨some 13, .op (.ldn 3 (.t 4)), none⟩,
       ⟨none, .op (.st 3 (.t 2) (.t 13)), none⟩,
       ⟨some 3, .op (.mv (.c (.int .i64 0))), none⟩]) (
     .ret))))
theorem cf31 : compF Try.prog Try.f31 h31 = some (ac31, rs31) := by kernel_rfl

/-! mailcoach/mailcoachref13.Take params 1 -/
def h32 : Hints := ⟨[(20, [2]), (19, [2, 3]), (18, [0, 2, 3, 80]), (7, [0, 2, 3, 4, 5]), (17, [0, 2, 3, 4, 5]), (12, [0, 2, 3, 4, 5, 6, 7, 8]), (16, [0, 2, 3, 4, 5, 6, 7, 8]), (15, [0, 2, 3, 4, 5, 6, 7, 8, 9]), (14, [0, 2, 3, 4, 5, 6, 7, 8, 9]), (13, [0, 2, 3, 4, 5, 6, 7, 8, 9]), (11, [0, 2, 3, 4, 5, 6, 7, 8, 49]), (10, [0, 2, 3, 4, 5, 6, 7, 8]), (9, [0, 2, 3, 4, 5, 6, 7]), (8, [0, 2, 3, 4, 5, 6]), (6, [0, 2, 3, 4, 5, 31]), (5, [0, 2, 3, 4, 5]), (4, [0, 2, 3, 4]), (3, [0, 2, 3]), (2, [0, 2, 3]), (1, [0, 2, 3]), (0, [0, 2])], [(11, [0, 2, 3, 4, 5, 6, 7, 8]), (6, [0, 2, 3, 4, 5])], []⟩
def rs32 : List ARes := [.cn 2 3]
def ac32 : ACode :=
 .seq (
  .reg [0, 2] [
    ⟨some 2, .op (.alloc [.int .u64 0, .int .u64 0, .nilsl]), none⟩]) (
  .seq (
   .reg [0, 2, 3] [
     ⟨some 10, .op (.build [.int .u64 0, .int .u64 0, .nilsl] []), none⟩,
     ⟨some 3, .op (.alloc [.int .u64 0, .int .u64 0, .nilsl]), none⟩,
     ⟨none, .op (.st 3 (.t 3) (.t 10)), none⟩]) (
   .seq (
    .reg [0, 2, 3] [
      ⟨some 11, .op (.mv (.t 0)), none⟩,
      ⟨some 12, .call (.c (.fn 64 [] [])) [(.t 11), (.c (.int .i64 8))], none⟩,
      ⟨some 13, .op (.fieldAddr 0 (.t 3)), none⟩,
      ⟨some 14, .op (.fieldAddr 0 (.t 13)), none⟩,
      ⟨none, .op (.st 1 (.t 14) (.t 12)), none⟩]) (
    .seq (
     .reg [0, 2, 3] [
       ⟨some 15, .op (.mv (.t 0)), none⟩,
       ⟨some 16, .call (.c (.fn 64 [] [])) [(.t 15), (.c (.int .i64 8))], none⟩,
       ⟨some 17, .op (.fieldAddr 0 (.t 3)), none⟩,
       ⟨some 18, .op (.fieldAddr 1 (.t 17)), none⟩,
       ⟨none, .op (.st 1 (.t 18) (.t 16)), none⟩]) (
     .seq (
      .reg [0, 2, 3, 4] [
        ⟨some 19, .op (.mv (.t 0)), none⟩,
        ⟨some 20, .call (.c (.fn 64 [] [])) [(.t 19), (.c (.int .i64 2))], none⟩,
        ⟨some 21, .op (.toInt .i64 (.t 20)), none⟩,
        ⟨some 4, .op (.mv (.t 21)), none⟩]) (
      .seq (
       .seq (
        .reg [0, 2, 3, 4, 5] [
          ⟨some 5, .op (.mv (.c (.int .i64 0))), none⟩]) (
        .block 0 (
         .loop [0, 2, 3, 4, 5] (
          .seq (
           .seq (
            .reg [0, 2, 3, 4, 5, 31] [
              ⟨some 22, .op (.mv (.t 5)), none⟩,
              ⟨some 23, .op (.mv (.t 4)), none⟩,
              ⟨some 24, .op (.bin .lss (.t 22) (.t 23)), none⟩,
              ⟨some 25, .op (.mv (.t 24)), none⟩,
              ⟨some 26, .op (.mv (.t 0)), some (25, true)⟩,
              ⟨some 27, .op (.nilCheck (.t 26)), some (25, true)⟩,
              ⟨some 28, .op (.fieldAddr 1 (.t 27)), some (25, true)⟩,
              ⟨some 29, .op (.ld1 (.t 28)), some (25, true)⟩,
              ⟨some 30, .op (.bin .eql (.t 29) (.c (.int .i64 0))), some (25, true)⟩,
              ⟨some 31, .pick (.t 25) (.t 30) (.c (.bool false)), none⟩]) (
            .cond (.t 31) (
             .skip) (
             .exit 0))) (
           .seq (
            .block 1 (
             .seq (
              .reg [0, 2, 3, 4, 5, 6] [
                ⟨some 34, .op (.mv (.t 0)), none⟩,
                ⟨some 35, .call (.c (.fn 64 [] [])) [(.t 34), (.c (.int .i64 8))], none⟩,
                ⟨some 36, .op (.build [.int .u64 0, .nilsl] [(0, 1, (.t 35))]), none⟩,
                ⟨some 6, .op (.alloc [.int .u64 0, .nilsl]), none⟩,
                ⟨none, .op (.st 2 (.t 6) (.t 36)), none⟩]) (
              .seq (
               .reg [0, 2, 3, 4, 5, 6, 7] [
                 ⟨some 37, .op (.mv (.t 0)), none⟩,
                 ⟨some 38, .call (.c (.fn 64 [] [])) [(.t 37), (.c (.int .i64 2))], none⟩,
                 ⟨some 39, .op (.toInt .i64 (.t 38)), none⟩,
                 ⟨some 7, .op (.mv (.t 39)), none⟩]) (
               .seq (
                .seq (
                 .reg [0, 2, 3, 4, 5, 6, 7, 8] [
                   ⟨some 8, .op (.mv (.c (.int .i64 0))), none⟩]) (
                 .block 2 (
                  .loop [0, 2, 3, 4, 5, 6, 7, 8] (
                   .seq (
                    .seq (
                     .reg [0, 2, 3, 4, 5, 6, 7, 8, 49] [
                       ⟨some 40, .op (.mv (.t 8)), none⟩,
                       ⟨some 41, .op (.mv (.t 7)), none⟩,
                       ⟨some 42, .op (.bin .lss (.t 40) (.t 41)), none⟩,
                       ⟨some 43, .op (.mv (.t 42)), none⟩,
                       ⟨some 44, .op (.mv (.t 0)), some (43, true)⟩,
                       ⟨some 45, .op (.nilCheck (.t 44)), some (43, true)⟩,
                       ⟨some 46, .op (.fieldAddr 1 (.t 45)), some (43, true)⟩,
                       ⟨some 47, .op (.ld1 (.t 46)), some (43, true)⟩,
                       ⟨some 48, .op (.bin .eql (.t 47) (.c (.int .i64 0))), some (43, true)⟩,
                       ⟨some 49, .pick (.t 43) (.t 48) (.c (.bool false)), none⟩]) (
                     .cond (.t 49) (
                      .skip) (
                      .exit 2))) (
                    .seq (
                     .block 3 (
                      .seq (
                       .reg [0, 2, 3, 4, 5, 6, 7, 8, 9] [
                         ⟨some 52, .op (.build [.int .u64 0, .int .u64 0] []), none⟩,
                         ⟨some 9, .op (.alloc [.int .u64 0, .int .u64 0]), none⟩,
                         ⟨none, .op (.st 2 (.t 9) (.t 52)), none⟩]) (
                       .seq (
                        .reg [0, 2, 3, 4, 5, 6, 7, 8, 9] [
                          ⟨some 53, .op (.mv (.t 0)), none⟩,
                          ⟨some 54, .call (.c (.fn 64 [] [])) [(.t 53), (.c (.int .i64 8))], none⟩,
                          ⟨some 55, .op (.fieldAddr 0 (.t 9)), none⟩,
                          ⟨none, .op (.st 1 (.t 55) (.t 54)), none⟩]) (
                        .seq (
                         .reg [0, 2, 3, 4, 5, 6, 7, 8, 9] [
                           ⟨some 56, .op (.mv (.t 0)), none⟩,
                           ⟨some 57, .call (.c (.fn 64 [] [])) [(.t 56), (.c (.int .i64 8))], none⟩,
                           ⟨some 58, .op (.fieldAddr 1 (.t 9)), none⟩,
                           ⟨none, .op (.st 1 (.t 58) (.t 57)), none⟩]) (
                         .reg [0, 2, 3, 4, 5, 6, 7, 8] [
                           ⟨some 59, .op (.fieldAddr 1 (.t 6)), none⟩,
                           ⟨some 60, .op (.ld1 (.t 59)), none⟩,
                           ⟨some 61, .op (.ldn 2 (.t 9)), none⟩,
                           ⟨some 62, .op (.buildSl 2 [.int .u64 0, .int .u64 0] 1 [(0, (.t 61))]), none⟩,
                           ⟨some 63, .op (.append 2 16 (.t 60) (.t 62)), none⟩,
                           ⟨some 64, .op (.fieldAddr 1 (.t 6)), none⟩,
                           ⟨none, .op (.st 1 (.t 64) (.t 63)), none⟩]))))) (
                     .reg [0, 2, 3, 4, 5, 6, 7, 8] [
                       ⟨some 50, .op (.mv (.t 8)), none⟩,
                       ⟨some 51, .op (.bin .add (.t 50) (.c (.int .i64 1))), none⟩,
                       ⟨some 8, .op (.mv (.t 51)), none⟩])))))) (
                .reg [0, 2, 3, 4, 5] [
                  ⟨some 65, .op (.fieldAddr 2 (.t 3)), none⟩,
                  ⟨some 66, .op (.ld1 (.t 65)), none⟩,
                  ⟨some 67, .op (.ldn 2 (.t 6)), none⟩,
                  ⟨some 68, .op (.buildSl 2 [.int .u64 0, .nilsl] 1 [(0, (.t 67))]), none⟩,
                  ⟨some 69, .op (.append 2 32 (.t 66) (.t 68)), none⟩,
                  ⟨some 70, .op (.fieldAddr 2 (.t 3)), none⟩,
                  ⟨none, .op (.st 1 (.t 70) (.t 69)), none⟩]))))) (
            .reg [0, 2, 3, 4, 5] [
              ⟨some 32, .op (.mv (.t 5)), none⟩,
              ⟨some 33, .op (.bin .add (.t 32) (.c (.int .i64 1))), none⟩,
              ⟨some 5, .op (.mv (.t 33)), none⟩])))))) (
       .seq (
        .seq (
         .reg [0, 2, 3, 80] [
           ⟨some 71, .op (.mv (.t 0)), none⟩,
           ⟨some 72, .op (.nilCheck (.t 71)), none⟩,
           ⟨some 73, .op (.fieldAddr 1 (.t 72)), none⟩,
           ⟨some 74, .op (.ld1 (.t 73)), none⟩,
           ⟨some 75, .op (.bin .eql (.t 74) (.c (.int .i64 0))), none⟩,
           ⟨some 76, .op (.mv (.t 75)), none⟩,
           ⟨some 77, .op (.ldn 3 (.t 3)), some (76, true)⟩,
           ⟨some 78, .call (.c (.fn 28 [] [])) [(.t 77)], some (76, true)⟩,
           ⟨some 79, .op (.un .not (.t 78)), some (76, true)⟩,
           ⟨some 80, .pick (.t 76) (.t 79) (.c (.bool false)), none⟩]) (
         .cond (.t 80) (
          .reg [2, 3] [
            ⟨some 81, .op (.mv (.t 0)), none⟩,
            ⟨some 82, .call (.c (.fn 65 [] [])) [(.t 81), (.c (.int .i64 23))], none⟩]) (
          .skip))) (
        .seq (
         .reg [2] [
           ⟨some 83, .op (.ldn 3 (.t 3)), none⟩,
           ⟨none, .op (.st 3 (.t 2) (.t 83)), none⟩]) (
         .ret))))))))
theorem cf32 : compF Try.prog Try.f32 h32 = some (ac32, rs32) := by kernel_rfl

/-! (*mailcoach/mailcoachref01.Reader).End params 1 -/
def h33 : Hints := ⟨[(3, [2]), (2, [0]), (1, [0, 15]), (0, [0])], [], []⟩
def rs33 : List ARes := [.t 2]
def ac33 : ACode :=
 .seq (
  .reg [0] [
    ⟨some 2, .op (.mv (.c (.int .i64 0))), none⟩]) (
  .seq (
   .seq (
    .reg [0, 15] [
      ⟨some 3, .op (.mv (.t 0)), none⟩,
      ⟨some 4, .op (.nilCheck (.t 3)), none⟩,
      ⟨some 5, .op (.fieldAddr 1 (.t 4)), none⟩,
      ⟨some 6, .op (.ld1 (.t 5)), none⟩,
      ⟨some 7, .op (.bin .eql (.t 6) (.c (.int .i64 0))), none⟩,
      ⟨some 8, .op (.mv (.t 7)), none⟩,
      ⟨some 9, .op (.mv (.t 0)), some (8, true)⟩,
      ⟨some 10, .op (.nilCheck (.t 9)), some (8, true)⟩,
      ⟨some 11, .op (.fieldAddr 0 (.t 10)), some (8, true)⟩,
      ⟨some 12, .op (.ld1 (.t 11)), some (8, true)⟩,
      ⟨some 13, .op (.len 1 (.t 12)), some (8, true)⟩,
      ⟨some 14, .op (.bin .gtr (.t 13) (.c (.int .i64 0))), some (8, true)⟩,
      ⟨some 15, .pick (.t 8) (.t 14) (.c (.bool false)), none⟩]) (
    .cond (.t 15) (
     .reg [0] [
       ⟨some 16, .op (.mv (.t 0)), none⟩,
       ⟨some 17, .op (.nilCheck (.t 16)), none⟩,
       ⟨some 18, .op (.fieldAddr 1 (.t 17)), none⟩,
       ⟨none, .op (.st 1 (.t 18) (.c (.int .i64 5))), none⟩]) (
     .skip))) (
   .seq (
    .reg [2] [
      ⟨some 19, .op (.mv (.t 0)), none⟩,
      ⟨some 20, .op (.nilCheck (.t 19)), none⟩,
      ⟨some 21, .op (.fieldAddr 1 (.t 20)), none⟩,
      ⟨some 22, .op (.ld1 (.t 21)), none⟩,
      ⟨some 2, .op (.mv (.t 22)), none⟩]) (
    .ret)))
theorem cf33 : compF Try.prog Try.f33 h33 = some (ac33, rs33) := by kernel_rfl

/-! mailcoach/mailcoachref03.Set params 2 -/
def h34 : Hints := ⟨[(11, [4]), (5, [0, 1, 5, 6, 7]), (9, [0, 1, 5, 6, 7]), (10, [0, 1, 5, 6, 7]), (8, [0, 1, 5, 6, 7, 8, 53]), (7, [0, 1, 5, 6, 7, 8]), (6, [0, 1, 5, 6, 7, 36]), (4, [0, 1, 5, 6, 7, 19]), (3, [0, 1, 5, 6, 7]), (2, [0, 1, 5, 6]), (1, [0, 1, 5]), (0, [0, 1])], [(4, [0, 1, 5, 6, 7])], [(8, [(0, []), (1, []), (2, []), (3, []), (4, []), (5, []), (6, []), (7, []), (8, []), (9, []), (10, []), (11, []), (12, []), (13, []), (14, [])]), (10, [(0, []), (1, []), (2, []), (3, []), (4, []), (5, []), (6, []), (7, []), (8, []), (9, []), (10, []), (11, []), (12, []), (13, [])])]⟩
def rs34 : List ARes := [.t 4]
def ac34 : ACode :=
 .seq (
  .reg [0, 1] [
    ⟨some 4, .op (.mv (.c (.nilsl))), none⟩]) (
  .seq (
   .reg [0, 1, 5] [
     ⟨some 9, .op (.buildSl 2 [.int .u64 0, .int .u64 0] 0 []), none⟩,
     ⟨some 10, .op (.mv (.t 0)), none⟩,
     ⟨some 11, .op (.append 2 16 (.t 9) (.t 10)), none⟩,
     ⟨some 12, .op (.mv (.t 1)), none⟩,
     ⟨some 13, .op (.append 2 16 (.t 11) (.t 12)), none⟩,
     ⟨some 14, .call (.c (.fn 66 [] [])) [(.t 13)], none⟩,
     ⟨some 5, .op (.mv (.t 14)), none⟩]) (
   .seq (
    .reg [0, 1, 5, 6] [
      ⟨some 6, .op (.mv (.c (.nilsl))), none⟩]) (
    .seq (
     .seq (
      .reg [0, 1, 5, 6, 7] [
        ⟨some 7, .op (.mv (.c (.int .i64 0))), none⟩]) (
      .block 0 (
       .loop [0, 1, 5, 6, 7] (
        .seq (
         .seq (
          .reg [0, 1, 5, 6, 7, 19] [
            ⟨some 15, .op (.mv (.t 7)), none⟩,
            ⟨some 16, .op (.bin .add (.t 15) (.c (.int .i64 1))), none⟩,
            ⟨some 17, .op (.mv (.t 5)), none⟩,
            ⟨some 18, .op (.len 1 (.t 17)), none⟩,
            ⟨some 19, .op (.bin .lss (.t 16) (.t 18)), none⟩]) (
          .cond (.t 19) (
           .skip) (
           .exit 0))) (
         .seq (
          .block 1 (
           .seq (
            .seq (
             .reg [0, 1, 5, 6, 7, 36] [
               ⟨some 22, .op (.mv (.t 0)), none⟩,
               ⟨some 23, .op (.mv (.t 5)), none⟩,
               ⟨some 24, .op (.mv (.t 7)), none⟩,
               ⟨some 25, .op (.idxAddr 1 (.t 23) (.t 24)), none⟩,
               ⟨some 26, .op (.ld1 (.t 25)), none⟩,
               ⟨some 27, .call (.c (.fn 47 [] [])) [(.t 22), (.t 26)], none⟩,
               ⟨some 28, .op (.un .not (.t 27)), none⟩,
               ⟨some 29, .op (.mv (.t 28)), none⟩,
               ⟨some 30, .op (.mv (.t 1)), some (29, false)⟩,
               ⟨some 31, .op (.mv (.t 5)), some (29, false)⟩,
               ⟨some 32, .op (.mv (.t 7)), some (29, false)⟩,
               ⟨some 33, .op (.idxAddr 1 (.t 31) (.t 32)), some (29, false)⟩,
               ⟨some 34, .op (.ld1 (.t 33)), some (29, false)⟩,
               ⟨some 35, .call (.c (.fn 47 [] [])) [(.t 30), (.t 34)], some (29, false)⟩,
               ⟨some 36, .pick (.t 29) (.c (.bool true)) (.t 35), none⟩]) (
             .cond (.t 36) (
              .exit 1) (
              .skip))) (
            .seq (
             .reg [0, 1, 5, 6, 7, 8] [
               ⟨some 37, .op (.mv (.t 6)), none⟩,
               ⟨some 38, .op (.len 1 (.t 37)), none⟩,
               ⟨some 8, .op (.mv (.t 38)), none⟩]) (
             .seq (
              .dreg [0, 1, 5, 6, 7, 8, 53] [
                (⟨some 39, .op (.mv (.t 8)), none⟩, []),
                (⟨some 40, .op (.bin .gtr (.t 39) (.c (.int .i64 0))), none⟩, []),
                (⟨some 41, .op (.mv (.t 40)), none⟩, []),
                (⟨some 42, .op (.mv (.t 6)), some (41, true)⟩, []),
                (⟨some 43, .op (.mv (.t 8)), some (41, true)⟩, []),
                (⟨some 44, .op (.bin .sub (.t 43) (.c (.int .i64 1))), some (41, true)⟩, []),
                (⟨some 45, .op (.idxAddr 2 (.t 42) (.t 44)), some (41, true)⟩, []),
                (⟨some 46, .op (.fieldAddr 1 (.t 45)), some (41, true)⟩, []),
                (⟨some 47, .op (.ld1 (.t 46)), some (41, true)⟩, []),
                (⟨some 48, .op (.mv (.t 5)), some (41, true)⟩, []),
                (⟨some 49, .op (.mv (.t 7)), some (41, true)⟩, []),
                (⟨some 50, .op (.idxAddr 1 (.t 48) (.t 49)), some (41, true)⟩, []),
                (⟨some 51, .op (.ld1 (.t 50)), some (41, true)⟩, []),
                (⟨some 52, .op (.bin .eql (.t 47) (.t 51)), some (41, true)⟩, []),
                (⟨some 53, .pick (.t 41) (.t 52) (.c (.bool false)), none⟩, [])]) (
              .cond (.t 53) (
               .reg [0, 1, 5, 6, 7] [
                 ⟨some 54, .op (.mv (.t 6)), none⟩,
                 ⟨some 55, .op (.mv (.t 8)), none⟩,
                 ⟨some 56, .op (.bin .sub (.t 55) (.c (.int .i64 1))), none⟩,
                 ⟨some 57, .op (.mv (.t 5)), none⟩,
                 ⟨some 58, .op (.mv (.t 7)), none⟩,
                 ⟨some 59, .op (.bin .add (.t 58) (.c (.int .i64 1))), none⟩,
                 ⟨some 60, .op (.idxAddr 1 (.t 57) (.t 59)), none⟩,
                 ⟨some 61, .op (.ld1 (.t 60)), none⟩,
                 ⟨some 62, .op (.idxAddr 2 (.t 54) (.t 56)), none⟩,
                 ⟨some 63, .op (.fieldAddr 1 (.t 62)), none⟩,
                 ⟨none, .op (.st 1 (.t 63) (.t 61)), none⟩]) (
               .dreg [0, 1, 5, 6, 7] [
                 (⟨some 64, .op (.mv (.t 6)), none⟩, []),
                 (⟨some 65, .op (.mv (.t 5)), none⟩, []),
                 (⟨some 66, .op (.mv (.t 7)), none⟩, []),
                 (⟨some 67, .op (.idxAddr 1 (.t 65) (.t 66)), none⟩, []),
                 (⟨some 68, .op (.ld1 (.t 67)), none⟩, []),
                 (⟨some 69, .op (.mv (.t 5)), none⟩, []),
                 (⟨some 70, .op (.mv (.t 7)), none⟩, []),
                 (⟨some 71, .op (.bin .add (.t 70) (.c (.int .i64 1))), none⟩, []),
                 (⟨some 72, .op (.idxAddr 1 (.t 69) (.t 71)), none⟩, []),
                 (⟨some 73, .op (.ld1 (.t 72)), none⟩, []),
                 (⟨some 74, .op (.build [.int .u64 0, .int .u64 0] [(0, 1, (.t 68)), (1, 1, (.t 73))]), none⟩, []),
                 (⟨some 75, .op (.buildSl 2 [.int .u64 0, .int .u64 0] 1 [(0, (.t 74))]), none⟩, []),
                 (⟨some 76, .op (.append 2 16 (.t 64) (.t 75)), none⟩, []),
                 (⟨some 6, .op (.mv (.t 76)), none⟩, [])])))))) (
          .reg [0, 1, 5, 6, 7] [
            ⟨some 20, .op (.mv (.t 7)), none⟩,
            ⟨some 21, .op (.bin .add (.t 20) (.c (.int .i64 1))), none⟩,
            ⟨some 7, .op (.mv (.t 21)), none⟩])))))) (
     .seq (
      .reg [4] [
        ⟨some 77, .op (.mv (.t 6)), none⟩,
        ⟨some 4, .op (.mv (.t 77)), none⟩]) (
      .ret)))))
theorem cf34 : compF Try.prog Try.f34 h34 = some (ac34, rs34) := by kernel_rfl

/-! mailcoach/cursor.tight params 3 -/
def h35 : Hints := ⟨[(14, [6]), (13, [5, 6, 9, 47, 48, 49]), (12, [5, 6, 9, 47, 48, 49]), (11, [5, 6, 9, 11, 47, 48, 49, 78]), (10, [5, 6, 9, 11, 47, 48, 49]), (9, [5, 6, 9, 11, 47, 48, 49, 60]), (8, [5, 6, 9, 11, 47, 48, 49, 53]), (7, [5, 6, 9, 11, 47, 48, 49]), (6, [5, 6, 9, 47, 48, 49, 50]), (5, [5, 6, 9, 47, 48, 49]), (4, [5, 6, 9]), (3, [0, 1, 5, 6]), (2, [0, 1, 5, 6, 7, 31]), (1, [0, 1, 5, 6, 7, 8]), (0, [0, 1, 5, 6])], [(6, [5, 6, 9, 47, 48, 49]), (1, [0, 1, 5, 6])], [(2, [(0, []), (1, []), (2, []), (3, []), (4, []), (5, []), (7, []), (8, []), (6, [7]), (9, []), (10, []), (11, [])]), (3, [(0, []), (1, []), (2, []), (3, []), (4, []), (6, []), (7, []), (5, [1, 6]), (8, [1]), (9, []), (10, []), (11, [])]), (12, [(0, []), (1, []), (2, []), (3, []), (4, []), (5, []), (6, [1, 3]), (7, []), (8, []), (9, []), (10, []), (11, [])])]⟩
def rs35 : List ARes := [.cn 6 3]
def ac35 : ACode :=
 .seq (
  .reg [0, 1, 5, 6] [
    ⟨some 5, .op (.box (.t 2)), none⟩,
    ⟨some 6, .op (.alloc [.int .u64 0, .int .u64 0, .nilsl]), none⟩]) (
  .seq (
   .block 0 (
    .loop [0, 1, 5, 6] (
     .block 1 (
      .seq (
       .reg [0, 1, 5, 6, 7, 8] [
         ⟨some 13, .op (.mv (.t 0)), none⟩,
         ⟨some 14, .op (.mv (.t 1)), none⟩,
         ⟨some 15, .op (.fieldAddr 0 (.t 5)), none⟩,
         ⟨some 16, .op (.ldn 2 (.t 15)), none⟩,
         ⟨some 17, .call (.c (.fn 51 [] [])) [(.t 13), (.t 14), (.t 16)], none⟩,
         ⟨some 12, .op (.mv (.t 17)), none⟩,
         ⟨some 18, .op (.extract (.t 12) 0), none⟩,
         ⟨some 19, .op (.extract (.t 12) 1), none⟩,
         ⟨some 7, .op (.alloc [.int .u64 0, .int .u64 0]), none⟩,
         ⟨none, .op (.st 2 (.t 7) (.t 18)), none⟩,
         ⟨some 8, .op (.mv (.t 19)), none⟩]) (
       .seq (
        .seq (
         .dreg [0, 1, 5, 6, 7, 31] [
           (⟨some 20, .op (.mv (.t 8)), none⟩, []),
           (⟨some 21, .op (.un .not (.t 20)), none⟩, []),
           (⟨some 22, .op (.mv (.t 21)), none⟩, []),
           (⟨some 23, .op (.ldn 3 (.t 5)), some (22, false)⟩, []),
           (⟨some 24, .op (.fieldAddr 0 (.t 7)), some (22, false)⟩, []),
           (⟨some 25, .op (.ld1 (.t 24)), some (22, false)⟩, []),
           (⟨some 27, .op (.fieldAddr 1 (.t 7)), some (22, false)⟩, []),
           (⟨some 28, .op (.ld1 (.t 27)), some (22, false)⟩, []),
           (⟨some 26, .call (.c (.fn 46 [] [])) [(.t 23), (.t 25)], some (22, false)⟩, [7]),
           (⟨some 29, .call (.c (.fn 45 [] [])) [(.t 26), (.t 28)], some (22, false)⟩, []),
           (⟨some 30, .op (.un .not (.t 29)), some (22, false)⟩, []),
           (⟨some 31, .pick (.t 22) (.c (.bool true)) (.t 30), none⟩, [])]) (
         .cond (.t 31) (
          .exit 0) (
          .skip))) (
        .dreg [0, 1, 5, 6] [
          (⟨some 32, .op (.fieldAddr 0 (.t 7)), none⟩, []),
          (⟨some 33, .op (.ld1 (.t 32)), none⟩, []),
          (⟨some 34, .op (.ldn 3 (.t 5)), none⟩, []),
          (⟨some 35, .op (.fieldAddr 0 (.t 7)), none⟩, []),
          (⟨some 36, .op (.ld1 (.t 35)), none⟩, []),
          (⟨some 38, .op (.fieldAddr 1 (.t 7)), none⟩, []),
          (⟨some 39, .op (.ld1 (.t 38)), none⟩, []),
          (⟨some 37, .call (.c (.fn 46 [] [])) [(.t 34), (.t 36)], none⟩, [1, 6]),
          (⟨some 40, .call (.c (.fn 52 [] [])) [(.t 37), (.t 39)], none⟩, [1]),
          (⟨some 41, .op (.build [.int .u64 0, .int .u64 0] [(0, 1, (.t 33)), (1, 1, (.t 40))]), none⟩, []),
          (⟨some 42, .op (.fieldAddr 0 (.t 5)), none⟩, []),
          (⟨none, .op (.st 2 (.t 42) (.t 41)), none⟩, [])])))))) (
   .seq (
    .reg [5, 6, 9] [
      ⟨some 43, .op (.fieldAddr 0 (.t 5)), none⟩,
      ⟨some 44, .op (.ldn 2 (.t 43)), none⟩,
      ⟨some 45, .op (.build [.int .u64 0, .int .u64 0, .nilsl] [(0, 2, (.t 44))]), none⟩,
      ⟨some 9, .op (.alloc [.int .u64 0, .int .u64 0, .nilsl]), none⟩,
      ⟨none, .op (.st 3 (.t 9) (.t 45)), none⟩]) (
    .seq (
     .seq (
      .reg [5, 6, 9, 47, 48, 49] [
        ⟨some 46, .op (.fieldAddr 2 (.t 5)), none⟩,
        ⟨some 47, .op (.ld1 (.t 46)), none⟩,
        ⟨some 48, .op (.len 1 (.t 47)), none⟩,
        ⟨some 49, .op (.mv (.c (.int .i64 0))), none⟩]) (
      .block 2 (
       .loop [5, 6, 9, 47, 48, 49] (
        .seq (
         .reg [5, 6, 9, 47, 48, 49, 50] [
           ⟨some 50, .op (.bin .lss (.t 49) (.t 48)), none⟩]) (
         .seq (
          .cond (.t 50) (
           .skip) (
           .exit 2)) (
          .seq (
           .block 3 (
            .seq (
             .reg [5, 6, 9, 11, 47, 48, 49] [
               ⟨some 51, .op (.idxAddr 2 (.t 47) (.t 49)), none⟩,
               ⟨some 52, .op (.ldn 2 (.t 51)), none⟩,
               ⟨some 11, .op (.alloc [.int .u64 0, .nilsl]), none⟩,
               ⟨none, .op (.st 2 (.t 11) (.t 52)), none⟩]) (
             .seq (
              .block 4 (
               .seq (
                .reg [5, 6, 9, 11, 47, 48, 49, 53] [
                  ⟨some 54, .op (.fieldAddr 0 (.t 11)), none⟩,
                  ⟨some 55, .op (.ld1 (.t 54)), none⟩,
                  ⟨some 56, .op (.fieldAddr 0 (.t 5)), none⟩,
                  ⟨some 57, .op (.fieldAddr 0 (.t 56)), none⟩,
                  ⟨some 58, .op (.ld1 (.t 57)), none⟩,
                  ⟨some 59, .op (.bin .lss (.t 55) (.t 58)), none⟩,
                  ⟨some 53, .op (.mv (.t 59)), none⟩]) (
                .cond (.t 53) (
                 .exit 3) (
                 .seq (
                  .reg [5, 6, 9, 11, 47, 48, 49, 60] [
                    ⟨some 61, .op (.fieldAddr 0 (.t 11)), none⟩,
                    ⟨some 62, .op (.ld1 (.t 61)), none⟩,
                    ⟨some 63, .op (.fieldAddr 0 (.t 5)), none⟩,
                    ⟨some 64, .op (.fieldAddr 0 (.t 63)), none⟩,
                    ⟨some 65, .op (.ld1 (.t 64)), none⟩,
                    ⟨some 66, .op (.bin .eql (.t 62) (.t 65)), none⟩,
                    ⟨some 60, .op (.mv (.t 66)), none⟩]) (
                  .cond (.t 60) (
                   .reg [5, 6, 9, 11, 47, 48, 49] [
                     ⟨some 67, .op (.fieldAddr 1 (.t 11)), none⟩,
                     ⟨some 68, .op (.ld1 (.t 67)), none⟩,
                     ⟨some 69, .op (.fieldAddr 0 (.t 5)), none⟩,
                     ⟨some 70, .op (.fieldAddr 1 (.t 69)), none⟩,
                     ⟨some 71, .op (.ld1 (.t 70)), none⟩,
                     ⟨some 72, .op (.build [.int .u64 0, .int .u64 0] [(1, 1, (.t 71))]), none⟩,
                     ⟨some 73, .call (.c (.fn 67 [] [])) [(.t 68), (.t 72)], none⟩,
                     ⟨some 74, .op (.fieldAddr 1 (.t 11)), none⟩,
                     ⟨none, .op (.st 1 (.t 74) (.t 73)), none⟩]) (
                   .skip)))))) (
              .seq (
               .reg [5, 6, 9, 11, 47, 48, 49, 78] [
                 ⟨some 75, .op (.fieldAddr 1 (.t 11)), none⟩,
                 ⟨some 76, .op (.ld1 (.t 75)), none⟩,
                 ⟨some 77, .op (.len 1 (.t 76)), none⟩,
                 ⟨some 78, .op (.bin .gtr (.t 77) (.c (.int .i64 0))), none⟩]) (
               .cond (.t 78) (
                .dreg [5, 6, 9, 47, 48, 49] [
                  (⟨some 79, .op (.fieldAddr 2 (.t 9)), none⟩, []),
                  (⟨some 80, .op (.ld1 (.t 79)), none⟩, []),
                  (⟨some 81, .op (.fieldAddr 0 (.t 11)), none⟩, []),
                  (⟨some 82, .op (.ld1 (.t 81)), none⟩, []),
                  (⟨some 83, .op (.fieldAddr 1 (.t 11)), none⟩, []),
                  (⟨some 84, .op (.ld1 (.t 83)), none⟩, []),
                  (⟨some 85, .call (.c (.fn 68 [] [])) [(.t 84)], none⟩, [1, 3]),
                  (⟨some 86, .op (.build [.int .u64 0, .nilsl] [(0, 1, (.t 82)), (1, 1, (.t 85))]), none⟩, []),
                  (⟨some 87, .op (.buildSl 2 [.int .u64 0, .nilsl] 1 [(0, (.t 86))]), none⟩, []),
                  (⟨some 88, .op (.append 2 32 (.t 80) (.t 87)), none⟩, []),
                  (⟨some 89, .op (.fieldAddr 2 (.t 9)), none⟩, []),
                  (⟨none, .op (.st 1 (.t 89) (.t 88)), none⟩, [])]) (
                .skip)))))) (
           .reg [5, 6, 9, 47, 48, 49] [
             ⟨some 90, .op (.bin .add (.t 49) (.c (.int .i64 1))), none⟩,
             ⟨some 49, .op (.mv (.t 90)), none⟩]))))))) (
     .seq (
      .reg [6] [
        ⟨some 91, .op (.ldn 3 (.t 9)), none⟩,
        ⟨none, .op (.st 3 (.t 6) (.t 91)), none⟩]) (
      .ret)))))
theorem cf35 : compF Try.prog Try.f35 h35 = some (ac35, rs35) := by kernel_rfl

/-! mailcoach/cursor.put params 2 -/
def h36 : Hints := ⟨[(15, [4]), (14, [2, 4, 6]), (13, [2, 3, 4, 5, 6, 58]), (12, [2, 3, 4, 5, 6, 7, 17, 18, 19]), (11, [2, 3, 4, 5, 6, 7, 17, 18, 19]), (8, [2, 3, 4, 5, 6, 7, 9, 17, 18, 19]), (10, [2, 3, 4, 5, 6, 7, 9, 17, 18, 19]), (9, [2, 3, 4, 5, 6, 7, 9, 17, 18, 19, 34]), (7, [2, 3, 4, 5, 6, 7, 9, 17, 18, 19, 23]), (6, [2, 3, 4, 5, 6, 7, 9, 17, 18, 19]), (5, [2, 3, 4, 5, 6, 7, 17, 18, 19, 20]), (4, [2, 3, 4, 5, 6, 7, 17, 18, 19]), (3, [2, 3, 4, 5, 6, 7]), (2, [2, 3, 4, 5, 6]), (1, [2, 3, 4, 5]), (0, [2, 3, 4])], [(5, [2, 3, 4, 5, 6, 7, 17, 18, 19])], []⟩
def rs36 : List ARes := [.cn 4 3]
def ac36 : ACode :=
 .seq (
  .reg [2, 3, 4] [
    ⟨some 2, .op (.box (.t 0)), none⟩,
    ⟨some 3, .op (.box (.t 1)), none⟩,
    ⟨some 4, .op (.alloc [.int .u64 0, .int .u64 0, .nilsl]), none⟩]) (
  .seq (
   .reg [2, 3, 4, 5] [
     ⟨some 10, .op (.fieldAddr 1 (.t 3)), none⟩,
     ⟨some 11, .op (.ld1 (.t 10)), none⟩,
     ⟨some 12, .op (.fieldAddr 1 (.t 3)), none⟩,
     ⟨some 13, .op (.ld1 (.t 12)), none⟩,
     ⟨some 14, .op (.bin .add (.t 13) (.c (.int .u64 1))), none⟩,
     ⟨some 15, .op (.build [.int .u64 0, .int .u64 0] [(0, 1, (.t 11)), (1, 1, (.t 14))]), none⟩,
     ⟨some 5, .op (.alloc [.int .u64 0, .int .u64 0]), none⟩,
     ⟨none, .op (.st 2 (.t 5) (.t 15)), none⟩]) (
   .seq (
    .reg [2, 3, 4, 5, 6] [
      ⟨some 6, .op (.mv (.c (.nilsl))), none⟩]) (
    .seq (
     .reg [2, 3, 4, 5, 6, 7] [
       ⟨some 7, .op (.mv (.c (.bool false))), none⟩]) (
     .seq (
      .seq (
       .reg [2, 3, 4, 5, 6, 7, 17, 18, 19] [
         ⟨some 16, .op (.fieldAddr 2 (.t 2)), none⟩,
         ⟨some 17, .op (.ld1 (.t 16)), none⟩,
         ⟨some 18, .op (.len 1 (.t 17)), none⟩,
         ⟨some 19, .op (.mv (.c (.int .i64 0))), none⟩]) (
       .block 0 (
        .loop [2, 3, 4, 5, 6, 7, 17, 18, 19] (
         .seq (
          .reg [2, 3, 4, 5, 6, 7, 17, 18, 19, 20] [
            ⟨some 20, .op (.bin .lss (.t 19) (.t 18)), none⟩]) (
          .seq (
           .cond (.t 20) (
            .skip) (
            .exit 0)) (
           .seq (
            .block 1 (
             .seq (
              .reg [2, 3, 4, 5, 6, 7, 9, 17, 18, 19] [
                ⟨some 21, .op (.idxAddr 2 (.t 17) (.t 19)), none⟩,
                ⟨some 22, .op (.ldn 2 (.t 21)), none⟩,
                ⟨some 9, .op (.alloc [.int .u64 0, .nilsl]), none⟩,
                ⟨none, .op (.st 2 (.t 9) (.t 22)), none⟩]) (
              .seq (
               .block 2 (
                .seq (
                 .reg [2, 3, 4, 5, 6, 7, 9, 17, 18, 19, 23] [
                   ⟨some 24, .op (.fieldAddr 0 (.t 9)), none⟩,
                   ⟨some 25, .op (.ld1 (.t 24)), none⟩,
                   ⟨some 26, .op (.fieldAddr 0 (.t 3)), none⟩,
                   ⟨some 27, .op (.ld1 (.t 26)), none⟩,
                   ⟨some 28, .op (.bin .eql (.t 25) (.t 27)), none⟩,
                   ⟨some 23, .op (.mv (.t 28)), none⟩]) (
                 .cond (.t 23) (
                  .reg [2, 3, 4, 5, 6, 7, 9, 17, 18, 19] [
                    ⟨some 29, .op (.fieldAddr 1 (.t 9)), none⟩,
                    ⟨some 30, .op (.ld1 (.t 29)), none⟩,
                    ⟨some 31, .op (.ldn 2 (.t 5)), none⟩,
                    ⟨some 32, .call (.c (.fn 69 [] [])) [(.t 30), (.t 31)], none⟩,
                    ⟨some 33, .op (.fieldAddr 1 (.t 9)), none⟩,
                    ⟨none, .op (.st 1 (.t 33) (.t 32)), none⟩,
                    ⟨some 7, .op (.mv (.c (.bool true))), none⟩]) (
                  .seq (
                   .reg [2, 3, 4, 5, 6, 7, 9, 17, 18, 19, 34] [
                     ⟨some 35, .op (.fieldAddr 0 (.t 9)), none⟩,
                     ⟨some 36, .op (.ld1 (.t 35)), none⟩,
                     ⟨some 37, .op (.fieldAddr 0 (.t 3)), none⟩,
                     ⟨some 38, .op (.ld1 (.t 37)), none⟩,
                     ⟨some 39, .op (.bin .gtr (.t 36) (.t 38)), none⟩,
                     ⟨some 40, .op (.mv (.t 39)), none⟩,
                     ⟨some 41, .op (.mv (.t 7)), some (40, true)⟩,
                     ⟨some 42, .op (.un .not (.t 41)), some (40, true)⟩,
                     ⟨some 43, .pick (.t 40) (.t 42) (.c (.bool false)), none⟩,
                     ⟨some 34, .op (.mv (.t 43)), none⟩]) (
                   .cond (.t 34) (
                    .reg [2, 3, 4, 5, 6, 7, 9, 17, 18, 19] [
                      ⟨some 44, .op (.mv (.t 6)), none⟩,
                      ⟨some 45, .op (.fieldAddr 0 (.t 3)), none⟩,
                      ⟨some 46, .op (.ld1 (.t 45)), none⟩,
                      ⟨some 47, .op (.ldn 2 (.t 5)), none⟩,
                      ⟨some 48, .op (.buildSl 2 [.int .u64 0, .int .u64 0] 1 [(0, (.t 47))]), none⟩,
                      ⟨some 49, .op (.build [.int .u64 0, .nilsl] [(0, 1, (.t 46)), (1, 1, (.t 48))]), none⟩,
                      ⟨some 50, .op (.buildSl 2 [.int .u64 0, .nilsl] 1 [(0, (.t 49))]), none⟩,
                      ⟨some 51, .op (.append 2 32 (.t 44) (.t 50)), none⟩,
                      ⟨some 6, .op (.mv (.t 51)), none⟩,
                      ⟨some 7, .op (.mv (.c (.bool true))), none⟩]) (
                    .skip)))))) (
               .reg [2, 3, 4, 5, 6, 7, 17, 18, 19] [
                 ⟨some 52, .op (.mv (.t 6)), none⟩,
                 ⟨some 53, .op (.ldn 2 (.t 9)), none⟩,
                 ⟨some 54, .op (.buildSl 2 [.int .u64 0, .nilsl] 1 [(0, (.t 53))]), none⟩,
                 ⟨some 55, .op (.append 2 32 (.t 52) (.t 54)), none⟩,
                 ⟨some 6, .op (.mv (.t 55)), none⟩])))) (
            .reg [2, 3, 4, 5, 6, 7, 17, 18, 19] [
              ⟨some 56, .op (.bin .add (.t 19) (.c (.int .i64 1))), none⟩,
              ⟨some 19, .op (.mv (.t 56)), none⟩]))))))) (
      .seq (
       .seq (
        .reg [2, 3, 4, 5, 6, 58] [
          ⟨some 57, .op (.mv (.t 7)), none⟩,
          ⟨some 58, .op (.un .not (.t 57)), none⟩]) (
        .cond (.t 58) (
         .reg [2, 4, 6] [
           ⟨some 59, .op (.mv (.t 6)), none⟩,
           ⟨some 60, .op (.fieldAddr 0 (.t 3)), none⟩,
           ⟨some 61, .op (.ld1 (.t 60)), none⟩,
           ⟨some 62, .op (.ldn 2 (.t 5)), none⟩,
           ⟨some 63, .op (.buildSl 2 [.int .u64 0, .int .u64 0] 1 [(0, (.t 62))]), none⟩,
           ⟨some 64, .op (.build [.int .u64 0, .nilsl] [(0, 1, (.t 61)), (1, 1, (.t 63))]), none⟩,
           ⟨some 65, .op (.buildSl 2 [.int .u64 0, .nilsl] 1 [(0, (.t 64))]), none⟩,
           ⟨some 66, .op (.append 2 32 (.t 59) (.t 65)), none⟩,
           ⟨some 6, .op (.mv (.t 66)), none⟩]) (
         .skip))) (
       .seq (
        .reg [4] [
          ⟨some 67, .op (.fieldAddr 0 (.t 2)), none⟩,
          ⟨some 68, .op (.ldn 2 (.t 67)), none⟩,
          ⟨some 69, .op (.mv (.t 6)), none⟩,
          ⟨some 70, .op (.build [.int .u64 0, .int .u64 0, .nilsl] [(0, 2, (.t 68)), (2, 1, (.t 69))]), none⟩,
          ⟨none, .op (.st 3 (.t 4) (.t 70)), none⟩]) (
        .ret)))))))
theorem cf36 : compF Try.prog Try.f36 h36 = some (ac36, rs36) := by kernel_rfl

/-! mailcoach/mailcoachref03.Same params 2 -/
def h41 : Hints := ⟨[(8, [4]), (5, [0, 1, 5]), (7, [4]), (6, [0, 1, 5, 25]), (4, [0, 1, 5, 14]), (3, [0, 1, 5]), (2, [4]), (1, [0, 1, 10]), (0, [0, 1])], [(4, [0, 1, 5])], [(6, [(0, []), (1, []), (2, []), (3, []), (4, []), (5, []), (6, []), (7, []), (8, [])])]⟩
def rs41 : List ARes := [.t 4]
def ac41 : ACode :=
 .seq (
  .reg [0, 1] [
    ⟨some 4, .op (.mv (.c (.bool false))), none⟩]) (
  .seq (
   .seq (
    .reg [0, 1, 10] [
      ⟨some 6, .op (.mv (.t 0)), none⟩,
      ⟨some 7, .op (.len 1 (.t 6)), none⟩,
      ⟨some 8, .op (.mv (.t 1)), none⟩,
      ⟨some 9, .op (.len 1 (.t 8)), none⟩,
      ⟨some 10, .op (.bin .neq (.t 7) (.t 9)), none⟩]) (
    .cond (.t 10) (
     .seq (
      .reg [4] [
        ⟨some 4, .op (.mv (.c (.bool false))), none⟩]) (
      .ret)) (
     .skip))) (
   .seq (
    .seq (
     .reg [0, 1, 5] [
       ⟨some 5, .op (.mv (.c (.int .i64 0))), none⟩]) (
     .block 0 (
      .loop [0, 1, 5] (
       .seq (
        .seq (
         .reg [0, 1, 5, 14] [
           ⟨some 11, .op (.mv (.t 5)), none⟩,
           ⟨some 12, .op (.mv (.t 0)), none⟩,
           ⟨some 13, .op (.len 1 (.t 12)), none⟩,
           ⟨some 14, .op (.bin .lss (.t 11) (.t 13)), none⟩]) (
         .cond (.t 14) (
          .skip) (
          .exit 0))) (
        .seq (
         .block 1 (
          .seq (
           .dreg [0, 1, 5, 25] [
             (⟨some 17, .op (.mv (.t 0)), none⟩, []),
             (⟨some 18, .op (.mv (.t 5)), none⟩, []),
             (⟨some 19, .op (.idxAddr 2 (.t 17) (.t 18)), none⟩, []),
             (⟨some 20, .op (.ldn 2 (.t 19)), none⟩, []),
             (⟨some 21, .op (.mv (.t 1)), none⟩, []),
             (⟨some 22, .op (.mv (.t 5)), none⟩, []),
             (⟨some 23, .op (.idxAddr 2 (.t 21) (.t 22)), none⟩, []),
             (⟨some 24, .op (.ldn 2 (.t 23)), none⟩, []),
             (⟨some 25, .op (.eqs true [1, 1] (.t 20) (.t 24)), none⟩, [])]) (
           .cond (.t 25) (
            .seq (
             .reg [4] [
               ⟨some 4, .op (.mv (.c (.bool false))), none⟩]) (
             .ret)) (
            .skip)))) (
         .reg [0, 1, 5] [
           ⟨some 15, .op (.mv (.t 5)), none⟩,
           ⟨some 16, .op (.bin .add (.t 15) (.c (.int .i64 1))), none⟩,
           ⟨some 5, .op (.mv (.t 16)), none⟩])))))) (
    .seq (
     .reg [4] [
       ⟨some 4, .op (.mv (.c (.bool true))), none⟩]) (
     .ret))))
theorem cf41 : compF Try.prog Try.f41 h41 = some (ac41, rs41) := by kernel_rfl

/-! mailcoach/mailcoachref13.Order params 2 -/
def h43 : Hints := ⟨[(5, [4]), (2, [4]), (4, [4]), (3, [25]), (1, [2, 3, 5]), (0, [2, 3])], [], []⟩
def rs43 : List ARes := [.t 4]
def ac43 : ACode :=
 .seq (
  .reg [2, 3] [
    ⟨some 2, .op (.box (.t 0)), none⟩,
    ⟨some 3, .op (.box (.t 1)), none⟩,
    ⟨some 4, .op (.mv (.c (.int .i64 0))), none⟩]) (
  .seq (
   .block 0 (
    .seq (
     .reg [2, 3, 5] [
       ⟨some 6, .op (.fieldAddr 0 (.t 2)), none⟩,
       ⟨some 7, .op (.ld1 (.t 6)), none⟩,
       ⟨some 8, .op (.fieldAddr 0 (.t 3)), none⟩,
       ⟨some 9, .op (.ld1 (.t 8)), none⟩,
       ⟨some 10, .op (.bin .lss (.t 7) (.t 9)), none⟩,
       ⟨some 11, .op (.mv (.t 10)), none⟩,
       ⟨some 12, .op (.fieldAddr 0 (.t 2)), some (11, false)⟩,
       ⟨some 13, .op (.ld1 (.t 12)), some (11, false)⟩,
       ⟨some 14, .op (.fieldAddr 0 (.t 3)), some (11, false)⟩,
       ⟨some 15, .op (.ld1 (.t 14)), some (11, false)⟩,
       ⟨some 16, .op (.bin .eql (.t 13) (.t 15)), some (11, false)⟩,
       ⟨some 17, .op (.mv (.t 16)), some (11, false)⟩,
       ⟨some 18, .op (.fieldAddr 1 (.t 2)), some (17, true)⟩,
       ⟨some 19, .op (.ld1 (.t 18)), some (17, true)⟩,
       ⟨some 20, .op (.fieldAddr 1 (.t 3)), some (17, true)⟩,
       ⟨some 21, .op (.ld1 (.t 20)), some (17, true)⟩,
       ⟨some 22, .op (.bin .lss (.t 19) (.t 21)), some (17, true)⟩,
       ⟨some 23, .pick (.t 17) (.t 22) (.c (.bool false)), some (11, false)⟩,
       ⟨some 24, .pick (.t 11) (.c (.bool true)) (.t 23), none⟩,
       ⟨some 5, .op (.mv (.t 24)), none⟩]) (
     .cond (.t 5) (
      .seq (
       .reg [4] [
         ⟨some 4, .op (.mv (.c (.int .i64 (-1)))), none⟩]) (
       .ret)) (
      .seq (
       .reg [25] [
         ⟨some 26, .op (.ldn 2 (.t 2)), none⟩,
         ⟨some 27, .op (.ldn 2 (.t 3)), none⟩,
         ⟨some 28, .op (.eqs false [1, 1] (.t 26) (.t 27)), none⟩,
         ⟨some 25, .op (.mv (.t 28)), none⟩]) (
       .cond (.t 25) (
        .seq (
         .reg [4] [
           ⟨some 4, .op (.mv (.c (.int .i64 0))), none⟩]) (
         .ret)) (
        .skip)))))) (
   .seq (
    .reg [4] [
      ⟨some 4, .op (.mv (.c (.int .i64 1))), none⟩]) (
    .ret)))
theorem cf43 : compF Try.prog Try.f43 h43 = some (ac43, rs43) := by kernel_rfl

/-! mailcoach/ranges.Has params 2 -/
def h45 : Hints := ⟨[(6, [4]), (3, [0, 1, 5]), (5, [4]), (4, [0, 1, 5, 30]), (2, [0, 1, 5, 21]), (1, [0, 1, 5]), (0, [0, 1])], [(2, [0, 1, 5])], []⟩
def rs45 : List ARes := [.t 4]
def ac45 : ACode :=
 .seq (
  .reg [0, 1] [
    ⟨some 4, .op (.mv (.c (.bool false))), none⟩]) (
  .seq (
   .reg [0, 1, 5] [
     ⟨some 6, .op (.mv (.t 0)), none⟩,
     ⟨some 7, .op (.mv (.t 1)), none⟩,
     ⟨some 8, .call (.c (.fn 72 [] [])) [(.t 6), (.t 7)], none⟩,
     ⟨some 5, .op (.mv (.t 8)), none⟩]) (
   .seq (
    .block 0 (
     .loop [0, 1, 5] (
      .seq (
       .seq (
        .reg [0, 1, 5, 21] [
          ⟨some 9, .op (.mv (.t 5)), none⟩,
          ⟨some 10, .op (.mv (.t 0)), none⟩,
          ⟨some 11, .op (.len 1 (.t 10)), none⟩,
          ⟨some 12, .op (.bin .lss (.t 9) (.t 11)), none⟩,
          ⟨some 13, .op (.mv (.t 12)), none⟩,
          ⟨some 14, .op (.mv (.t 0)), some (13, true)⟩,
          ⟨some 15, .op (.mv (.t 5)), some (13, true)⟩,
          ⟨some 16, .op (.idxAddr 2 (.t 14) (.t 15)), some (13, true)⟩,
          ⟨some 17, .op (.fieldAddr 0 (.t 16)), some (13, true)⟩,
          ⟨some 18, .op (.ld1 (.t 17)), some (13, true)⟩,
          ⟨some 19, .op (.mv (.t 1)), some (13, true)⟩,
          ⟨some 20, .op (.bin .leq (.t 18) (.t 19)), some (13, true)⟩,
          ⟨some 21, .pick (.t 13) (.t 20) (.c (.bool false)), none⟩]) (
        .cond (.t 21) (
         .skip) (
         .exit 0))) (
       .seq (
        .block 1 (
         .seq (
          .reg [0, 1, 5, 30] [
            ⟨some 24, .op (.mv (.t 1)), none⟩,
            ⟨some 25, .op (.mv (.t 0)), none⟩,
            ⟨some 26, .op (.mv (.t 5)), none⟩,
            ⟨some 27, .op (.idxAddr 2 (.t 25) (.t 26)), none⟩,
            ⟨some 28, .op (.fieldAddr 1 (.t 27)), none⟩,
            ⟨some 29, .op (.ld1 (.t 28)), none⟩,
            ⟨some 30, .op (.bin .lss (.t 24) (.t 29)), none⟩]) (
          .cond (.t 30) (
           .seq (
            .reg [4] [
              ⟨some 4, .op (.mv (.c (.bool true))), none⟩]) (
            .ret)) (
           .skip)))) (
        .reg [0, 1, 5] [
          ⟨some 22, .op (.mv (.t 5)), none⟩,
          ⟨some 23, .op (.bin .add (.t 22) (.c (.int .i64 1))), none⟩,
          ⟨some 5, .op (.mv (.t 23)), none⟩]))))) (
    .seq (
     .reg [4] [
       ⟨some 4, .op (.mv (.c (.bool false))), none⟩]) (
     .ret))))
theorem cf45 : compF Try.prog Try.f45 h45 = some (ac45, rs45) := by kernel_rfl

/-! mailcoach/cursor.held params 2 -/
def h46 : Hints := ⟨[(7, [4]), (6, [1, 8, 9, 10]), (5, [4]), (4, [1, 6, 8, 9, 10, 17]), (3, [1, 6, 8, 9, 10]), (2, [1, 8, 9, 10, 11]), (1, [1, 8, 9, 10]), (0, [1, 2])], [(2, [1, 8, 9, 10])], []⟩
def rs46 : List ARes := [.t 4]
def ac46 : ACode :=
 .seq (
  .reg [1, 2] [
    ⟨some 2, .op (.box (.t 0)), none⟩,
    ⟨some 4, .op (.mv (.c (.nilsl))), none⟩]) (
  .seq (
   .seq (
    .reg [1, 8, 9, 10] [
      ⟨some 7, .op (.fieldAddr 2 (.t 2)), none⟩,
      ⟨some 8, .op (.ld1 (.t 7)), none⟩,
      ⟨some 9, .op (.len 1 (.t 8)), none⟩,
      ⟨some 10, .op (.mv (.c (.int .i64 0))), none⟩]) (
    .block 0 (
     .loop [1, 8, 9, 10] (
      .seq (
       .reg [1, 8, 9, 10, 11] [
         ⟨some 11, .op (.bin .lss (.t 10) (.t 9)), none⟩]) (
       .seq (
        .cond (.t 11) (
         .skip) (
         .exit 0)) (
        .seq (
         .block 1 (
          .seq (
           .reg [1, 6, 8, 9, 10] [
             ⟨some 12, .op (.idxAddr 2 (.t 8) (.t 10)), none⟩,
             ⟨some 13, .op (.ldn 2 (.t 12)), none⟩,
             ⟨some 6, .op (.alloc [.int .u64 0, .nilsl]), none⟩,
             ⟨none, .op (.st 2 (.t 6) (.t 13)), none⟩]) (
           .seq (
            .reg [1, 6, 8, 9, 10, 17] [
              ⟨some 14, .op (.fieldAddr 0 (.t 6)), none⟩,
              ⟨some 15, .op (.ld1 (.t 14)), none⟩,
              ⟨some 16, .op (.mv (.t 1)), none⟩,
              ⟨some 17, .op (.bin .eql (.t 15) (.t 16)), none⟩]) (
            .cond (.t 17) (
             .seq (
              .reg [4] [
                ⟨some 18, .op (.fieldAddr 1 (.t 6)), none⟩,
                ⟨some 19, .op (.ld1 (.t 18)), none⟩,
                ⟨some 4, .op (.mv (.t 19)), none⟩]) (
              .ret)) (
             .skip))))) (
         .reg [1, 8, 9, 10] [
           ⟨some 20, .op (.bin .add (.t 10) (.c (.int .i64 1))), none⟩,
           ⟨some 10, .op (.mv (.t 20)), none⟩]))))))) (
   .seq (
    .reg [4] [
      ⟨some 4, .op (.mv (.c (.nilsl))), none⟩]) (
    .ret)))
theorem cf46 : compF Try.prog Try.f46 h46 = some (ac46, rs46) := by kernel_rfl

/-! mailcoach/mailcoachref03.In params 2 -/
def h47 : Hints := ⟨[(6, [4]), (3, [0, 1, 5]), (5, [4]), (4, [0, 1, 5, 27]), (2, [0, 1, 5, 9]), (1, [0, 1, 5]), (0, [0, 1])], [(2, [0, 1, 5])], []⟩
def rs47 : List ARes := [.t 4]
def ac47 : ACode :=
 .seq (
  .reg [0, 1] [
    ⟨some 4, .op (.mv (.c (.bool false))), none⟩]) (
  .seq (
   .seq (
    .reg [0, 1, 5] [
      ⟨some 5, .op (.mv (.c (.int .i64 0))), none⟩]) (
    .block 0 (
     .loop [0, 1, 5] (
      .seq (
       .seq (
        .reg [0, 1, 5, 9] [
          ⟨some 6, .op (.mv (.t 5)), none⟩,
          ⟨some 7, .op (.mv (.t 0)), none⟩,
          ⟨some 8, .op (.len 1 (.t 7)), none⟩,
          ⟨some 9, .op (.bin .lss (.t 6) (.t 8)), none⟩]) (
        .cond (.t 9) (
         .skip) (
         .exit 0))) (
       .seq (
        .block 1 (
         .seq (
          .reg [0, 1, 5, 27] [
            ⟨some 12, .op (.mv (.t 0)), none⟩,
            ⟨some 13, .op (.mv (.t 5)), none⟩,
            ⟨some 14, .op (.idxAddr 2 (.t 12) (.t 13)), none⟩,
            ⟨some 15, .op (.fieldAddr 0 (.t 14)), none⟩,
            ⟨some 16, .op (.ld1 (.t 15)), none⟩,
            ⟨some 17, .op (.mv (.t 1)), none⟩,
            ⟨some 18, .op (.bin .leq (.t 16) (.t 17)), none⟩,
            ⟨some 19, .op (.mv (.t 18)), none⟩,
            ⟨some 20, .op (.mv (.t 1)), some (19, true)⟩,
            ⟨some 21, .op (.mv (.t 0)), some (19, true)⟩,
            ⟨some 22, .op (.mv (.t 5)), some (19, true)⟩,
            ⟨some 23, .op (.idxAddr 2 (.t 21) (.t 22)), some (19, true)⟩,
            ⟨some 24, .op (.fieldAddr 1 (.t 23)), some (19, true)⟩,
            ⟨some 25, .op (.ld1 (.t 24)), some (19, true)⟩,
            ⟨some 26, .op (.bin .lss (.t 20) (.t 25)), some (19, true)⟩,
            ⟨some 27, .pick (.t 19) (.t 26) (.c (.bool false)), none⟩]) (
          .cond (.t 27) (
           .seq (
            .reg [4] [
              ⟨some 4, .op (.mv (.c (.bool true))), none⟩]) (
            .ret)) (
           .skip)))) (
        .reg [0, 1, 5] [
          ⟨some 10, .op (.mv (.t 5)), none⟩,
          ⟨some 11, .op (.bin .add (.t 10) (.c (.int .i64 1))), none⟩,
          ⟨some 5, .op (.mv (.t 11)), none⟩])))))) (
   .seq (
    .reg [4] [
      ⟨some 4, .op (.mv (.c (.bool false))), none⟩]) (
    .ret)))
theorem cf47 : compF Try.prog Try.f47 h47 = some (ac47, rs47) := by kernel_rfl

/-! cmp.Or[int] params 1 -/
def h48 : Hints := ⟨[(8, [2]), (7, [3, 6, 7, 8]), (6, [2]), (5, [3, 5, 6, 7, 8, 14]), (4, [3, 5, 6, 7, 8]), (3, [3, 6, 7, 8, 9]), (2, [3, 6, 7, 8]), (1, [0, 3]), (0, [0])], [(3, [3, 6, 7, 8])], []⟩
def rs48 : List ARes := [.t 2]
def ac48 : ACode :=
 .seq (
  .reg [0] [
    ⟨some 2, .op (.mv (.c (.int .i64 0))), none⟩]) (
  .seq (
   .reg [0, 3] [
     ⟨some 3, .op (.mv (.c (.int .i64 0))), none⟩]) (
   .seq (
    .seq (
     .reg [3, 6, 7, 8] [
       ⟨some 6, .op (.mv (.t 0)), none⟩,
       ⟨some 7, .op (.len 1 (.t 6)), none⟩,
       ⟨some 8, .op (.mv (.c (.int .i64 0))), none⟩]) (
     .block 0 (
      .loop [3, 6, 7, 8] (
       .seq (
        .reg [3, 6, 7, 8, 9] [
          ⟨some 9, .op (.bin .lss (.t 8) (.t 7)), none⟩]) (
        .seq (
         .cond (.t 9) (
          .skip) (
          .exit 0)) (
         .seq (
          .block 1 (
           .seq (
            .reg [3, 5, 6, 7, 8] [
              ⟨some 10, .op (.idxAddr 1 (.t 6) (.t 8)), none⟩,
              ⟨some 11, .op (.ld1 (.t 10)), none⟩,
              ⟨some 5, .op (.mv (.t 11)), none⟩]) (
            .seq (
             .reg [3, 5, 6, 7, 8, 14] [
               ⟨some 12, .op (.mv (.t 5)), none⟩,
               ⟨some 13, .op (.mv (.t 3)), none⟩,
               ⟨some 14, .op (.bin .neq (.t 12) (.t 13)), none⟩]) (
             .cond (.t 14) (
              .seq (
               .reg [2] [
                 ⟨some 15, .op (.mv (.t 5)), none⟩,
                 ⟨some 2, .op (.mv (.t 15)), none⟩]) (
               .ret)) (
              .skip))))) (
          .reg [3, 6, 7, 8] [
            ⟨some 16, .op (.bin .add (.t 8) (.c (.int .i64 1))), none⟩,
            ⟨some 8, .op (.mv (.t 16)), none⟩]))))))) (
    .seq (
     .reg [2] [
       ⟨some 17, .op (.mv (.t 3)), none⟩,
       ⟨some 2, .op (.mv (.t 17)), none⟩]) (
     .ret))))
theorem cf48 : compF Try.prog Try.f48 h48 = some (ac48, rs48) := by kernel_rfl

/-! cmp.Compare[uint64] params 2 -/
def h49 : Hints := ⟨[(13, [4]), (12, [4]), (11, [19]), (10, [4]), (9, [0, 1, 16]), (8, [4]), (7, [0, 1, 13]), (6, [4]), (5, [4]), (4, [12]), (3, [0, 1, 6, 11]), (2, [0, 1, 5, 6]), (1, [0, 1, 5]), (0, [0, 1])], [], []⟩
def rs49 : List ARes := [.t 4]
def ac49 : ACode :=
 .seq (
  .reg [0, 1] [
    ⟨some 4, .op (.mv (.c (.int .i64 0))), none⟩]) (
  .seq (
   .reg [0, 1, 5] [
     ⟨some 7, .op (.mv (.t 0)), none⟩,
     ⟨some 8, .call (.c (.fn 73 [] [])) [(.t 7)], none⟩,
     ⟨some 5, .op (.mv (.t 8)), none⟩]) (
   .seq (
    .reg [0, 1, 5, 6] [
      ⟨some 9, .op (.mv (.t 1)), none⟩,
      ⟨some 10, .call (.c (.fn 73 [] [])) [(.t 9)], none⟩,
      ⟨some 6, .op (.mv (.t 10)), none⟩]) (
    .seq (
     .seq (
      .reg [0, 1, 6, 11] [
        ⟨some 11, .op (.mv (.t 5)), none⟩]) (
      .cond (.t 11) (
       .seq (
        .seq (
         .reg [12] [
           ⟨some 12, .op (.mv (.t 6)), none⟩]) (
         .cond (.t 12) (
          .seq (
           .reg [4] [
             ⟨some 4, .op (.mv (.c (.int .i64 0))), none⟩]) (
           .ret)) (
          .skip))) (
        .seq (
         .reg [4] [
           ⟨some 4, .op (.mv (.c (.int .i64 (-1)))), none⟩]) (
         .ret))) (
       .skip))) (
     .seq (
      .seq (
       .reg [0, 1, 13] [
         ⟨some 13, .op (.mv (.t 6)), none⟩]) (
       .cond (.t 13) (
        .seq (
         .reg [4] [
           ⟨some 4, .op (.mv (.c (.int .i64 1))), none⟩]) (
         .ret)) (
        .skip))) (
      .seq (
       .seq (
        .reg [0, 1, 16] [
          ⟨some 14, .op (.mv (.t 0)), none⟩,
          ⟨some 15, .op (.mv (.t 1)), none⟩,
          ⟨some 16, .op (.bin .lss (.t 14) (.t 15)), none⟩]) (
        .cond (.t 16) (
         .seq (
          .reg [4] [
            ⟨some 4, .op (.mv (.c (.int .i64 (-1)))), none⟩]) (
          .ret)) (
         .skip))) (
       .seq (
        .seq (
         .reg [19] [
           ⟨some 17, .op (.mv (.t 0)), none⟩,
           ⟨some 18, .op (.mv (.t 1)), none⟩,
           ⟨some 19, .op (.bin .gtr (.t 17) (.t 18)), none⟩]) (
         .cond (.t 19) (
          .seq (
           .reg [4] [
             ⟨some 4, .op (.mv (.c (.int .i64 1))), none⟩]) (
           .ret)) (
          .skip))) (
        .seq (
         .reg [4] [
           ⟨some 4, .op (.mv (.c (.int .i64 0))), none⟩]) (
         .ret))))))))
theorem cf49 : compF Try.prog Try.f49 h49 = some (ac49, rs49) := by kernel_rfl

/-! mailcoach/ranges.Check params 1 -/
def h50 : Hints := ⟨[(7, [2]), (6, [0, 5, 6, 7]), (5, [2]), (4, [0, 5, 6, 7, 31]), (3, [0, 3, 4, 5, 6, 7]), (2, [0, 5, 6, 7, 8]), (1, [0, 5, 6, 7]), (0, [0])], [(2, [0, 5, 6, 7])], [(4, [(0, []), (1, []), (2, []), (3, []), (4, []), (5, []), (6, []), (7, []), (8, []), (9, []), (10, []), (11, []), (12, []), (13, []), (14, []), (15, []), (16, []), (17, []), (18, []), (19, [])])]⟩
def rs50 : List ARes := [.t 2]
def ac50 : ACode :=
 .seq (
  .reg [0] [
    ⟨some 2, .op (.mv (.c (.bool false))), none⟩]) (
  .seq (
   .seq (
    .reg [0, 5, 6, 7] [
      ⟨some 5, .op (.mv (.t 0)), none⟩,
      ⟨some 6, .op (.len 1 (.t 5)), none⟩,
      ⟨some 7, .op (.mv (.c (.int .i64 0))), none⟩]) (
    .block 0 (
     .loop [0, 5, 6, 7] (
      .seq (
       .reg [0, 5, 6, 7, 8] [
         ⟨some 8, .op (.bin .lss (.t 7) (.t 6)), none⟩]) (
       .seq (
        .cond (.t 8) (
         .skip) (
         .exit 0)) (
        .seq (
         .block 1 (
          .seq (
           .reg [0, 3, 4, 5, 6, 7] [
             ⟨some 9, .op (.mv (.t 7)), none⟩,
             ⟨some 10, .op (.idxAddr 2 (.t 5) (.t 7)), none⟩,
             ⟨some 11, .op (.ldn 2 (.t 10)), none⟩,
             ⟨some 4, .op (.alloc [.int .u64 0, .int .u64 0]), none⟩,
             ⟨some 3, .op (.mv (.t 9)), none⟩,
             ⟨none, .op (.st 2 (.t 4) (.t 11)), none⟩]) (
           .seq (
            .dreg [0, 5, 6, 7, 31] [
              (⟨some 12, .op (.fieldAddr 0 (.t 4)), none⟩, []),
              (⟨some 13, .op (.ld1 (.t 12)), none⟩, []),
              (⟨some 14, .op (.fieldAddr 1 (.t 4)), none⟩, []),
              (⟨some 15, .op (.ld1 (.t 14)), none⟩, []),
              (⟨some 16, .op (.bin .geq (.t 13) (.t 15)), none⟩, []),
              (⟨some 17, .op (.mv (.t 16)), none⟩, []),
              (⟨some 18, .op (.mv (.t 3)), some (17, false)⟩, []),
              (⟨some 19, .op (.bin .gtr (.t 18) (.c (.int .i64 0))), some (17, false)⟩, []),
              (⟨some 20, .op (.mv (.t 19)), some (17, false)⟩, []),
              (⟨some 21, .op (.mv (.t 0)), some (20, true)⟩, []),
              (⟨some 22, .op (.mv (.t 3)), some (20, true)⟩, []),
              (⟨some 23, .op (.bin .sub (.t 22) (.c (.int .i64 1))), some (20, true)⟩, []),
              (⟨some 24, .op (.idxAddr 2 (.t 21) (.t 23)), some (20, true)⟩, []),
              (⟨some 25, .op (.fieldAddr 1 (.t 24)), some (20, true)⟩, []),
              (⟨some 26, .op (.ld1 (.t 25)), some (20, true)⟩, []),
              (⟨some 27, .op (.fieldAddr 0 (.t 4)), some (20, true)⟩, []),
              (⟨some 28, .op (.ld1 (.t 27)), some (20, true)⟩, []),
              (⟨some 29, .op (.bin .geq (.t 26) (.t 28)), some (20, true)⟩, []),
              (⟨some 30, .pick (.t 20) (.t 29) (.c (.bool false)), some (17, false)⟩, []),
              (⟨some 31, .pick (.t 17) (.c (.bool true)) (.t 30), none⟩, [])]) (
            .cond (.t 31) (
             .seq (
              .reg [2] [
                ⟨some 2, .op (.mv (.c (.bool false))), none⟩]) (
              .ret)) (
             .skip))))) (
         .reg [0, 5, 6, 7] [
           ⟨some 32, .op (.bin .add (.t 7) (.c (.int .i64 1))), none⟩,
           ⟨some 7, .op (.mv (.t 32)), none⟩]))))))) (
   .seq (
    .reg [2] [
      ⟨some 2, .op (.mv (.c (.bool true))), none⟩]) (
    .ret)))
theorem cf50 : compF Try.prog Try.f50 h50 = some (ac50, rs50) := by kernel_rfl

/-! mailcoach/ledgers.Next params 3 -/
def h51 : Hints := ⟨[(11, [6, 7]), (10, [1, 5, 6, 8, 14, 15, 16]), (9, [1, 5, 6, 8, 14, 15, 16]), (8, [6, 7]), (7, [1, 5, 6, 8, 10, 11, 12, 14, 15, 16, 29]), (6, [1, 5, 6, 8, 10, 11, 12, 14, 15, 16]), (5, [1, 5, 6, 8, 10, 11, 14, 15, 16]), (4, [1, 5, 6, 8, 10, 14, 15, 16]), (3, [1, 5, 6, 8, 14, 15, 16, 17]), (2, [1, 5, 6, 8, 14, 15, 16]), (1, [0, 1, 5, 6, 8]), (0, [0, 1, 5, 6])], [(3, [1, 5, 6, 8, 14, 15, 16])], []⟩
def rs51 : List ARes := [.cn 6 2, .t 7]
def ac51 : ACode :=
 .seq (
  .reg [0, 1, 5, 6] [
    ⟨some 5, .op (.box (.t 2)), none⟩,
    ⟨some 6, .op (.alloc [.int .u64 0, .int .u64 0]), none⟩,
    ⟨some 7, .op (.mv (.c (.bool false))), none⟩]) (
  .seq (
   .reg [0, 1, 5, 6, 8] [
     ⟨some 13, .op (.build [.int .u64 0, .int .u64 0] []), none⟩,
     ⟨some 8, .op (.alloc [.int .u64 0, .int .u64 0]), none⟩,
     ⟨none, .op (.st 2 (.t 8) (.t 13)), none⟩]) (
   .seq (
    .seq (
     .reg [1, 5, 6, 8, 14, 15, 16] [
       ⟨some 14, .op (.mv (.t 0)), none⟩,
       ⟨some 15, .op (.len 1 (.t 14)), none⟩,
       ⟨some 16, .op (.mv (.c (.int .i64 0))), none⟩]) (
     .block 0 (
      .loop [1, 5, 6, 8, 14, 15, 16] (
       .seq (
        .reg [1, 5, 6, 8, 14, 15, 16, 17] [
          ⟨some 17, .op (.bin .lss (.t 16) (.t 15)), none⟩]) (
        .seq (
         .cond (.t 17) (
          .skip) (
          .exit 0)) (
         .seq (
          .block 1 (
           .seq (
            .reg [1, 5, 6, 8, 10, 14, 15, 16] [
              ⟨some 18, .op (.idxAddr 3 (.t 14) (.t 16)), none⟩,
              ⟨some 19, .op (.ldn 3 (.t 18)), none⟩,
              ⟨some 10, .op (.alloc [.int .u64 0, .bool false, .int .u64 0]), none⟩,
              ⟨none, .op (.st 3 (.t 10) (.t 19)), none⟩]) (
            .seq (
             .reg [1, 5, 6, 8, 10, 11, 14, 15, 16] [
               ⟨some 20, .op (.ldn 3 (.t 10)), none⟩,
               ⟨some 21, .op (.mv (.t 1)), none⟩,
               ⟨some 22, .call (.c (.fn 74 [] [])) [(.t 20), (.t 21)], none⟩,
               ⟨some 11, .op (.mv (.t 22)), none⟩]) (
             .seq (
              .seq (
               .reg [1, 5, 6, 8, 10, 11, 12, 14, 15, 16] [
                 ⟨some 23, .op (.ldn 2 (.t 5)), none⟩,
                 ⟨some 24, .op (.fieldAddr 0 (.t 10)), none⟩,
                 ⟨some 25, .op (.ld1 (.t 24)), none⟩,
                 ⟨some 26, .call (.c (.fn 75 [] [])) [(.t 23), (.t 25)], none⟩,
                 ⟨some 12, .op (.mv (.t 26)), none⟩]) (
               .seq (
                .reg [1, 5, 6, 8, 10, 11, 12, 14, 15, 16, 29] [
                  ⟨some 27, .op (.mv (.t 12)), none⟩,
                  ⟨some 28, .op (.mv (.t 11)), none⟩,
                  ⟨some 29, .op (.bin .lss (.t 27) (.t 28)), none⟩]) (
                .cond (.t 29) (
                 .seq (
                  .reg [6, 7] [
                    ⟨some 30, .op (.fieldAddr 0 (.t 10)), none⟩,
                    ⟨some 31, .op (.ld1 (.t 30)), none⟩,
                    ⟨some 32, .op (.mv (.t 12)), none⟩,
                    ⟨some 33, .op (.build [.int .u64 0, .int .u64 0] [(0, 1, (.t 31)), (1, 1, (.t 32))]), none⟩,
                    ⟨none, .op (.st 2 (.t 6) (.t 33)), none⟩,
                    ⟨some 7, .op (.mv (.c (.bool true))), none⟩]) (
                  .ret)) (
                 .skip)))) (
              .reg [1, 5, 6, 8, 14, 15, 16] [
                ⟨some 34, .op (.fieldAddr 0 (.t 10)), none⟩,
                ⟨some 35, .op (.ld1 (.t 34)), none⟩,
                ⟨some 36, .op (.mv (.t 11)), none⟩,
                ⟨some 37, .op (.build [.int .u64 0, .int .u64 0] [(0, 1, (.t 35)), (1, 1, (.t 36))]), none⟩,
                ⟨none, .op (.st 2 (.t 8) (.t 37)), none⟩]))))) (
          .reg [1, 5, 6, 8, 14, 15, 16] [
            ⟨some 38, .op (.bin .add (.t 16) (.c (.int .i64 1))), none⟩,
            ⟨some 16, .op (.mv (.t 38)), none⟩]))))))) (
    .seq (
     .reg [6, 7] [
       ⟨some 39, .op (.ldn 2 (.t 8)), none⟩,
       ⟨none, .op (.st 2 (.t 6) (.t 39)), none⟩,
       ⟨some 7, .op (.mv (.c (.bool false))), none⟩]) (
     .ret))))
theorem cf51 : compF Try.prog Try.f51 h51 = some (ac51, rs51) := by kernel_rfl

/-! mailcoach/ranges.Gap params 2 -/
def h52 : Hints := ⟨[(7, [4]), (6, [1, 7, 8, 9]), (5, [1, 7, 8, 9]), (4, [1, 6, 7, 8, 9, 22]), (3, [1, 6, 7, 8, 9]), (2, [1, 7, 8, 9, 10]), (1, [1, 7, 8, 9]), (0, [0, 1])], [(2, [1, 7, 8, 9])], []⟩
def rs52 : List ARes := [.t 4]
def ac52 : ACode :=
 .seq (
  .reg [0, 1] [
    ⟨some 4, .op (.mv (.c (.int .u64 0))), none⟩]) (
  .seq (
   .seq (
    .reg [1, 7, 8, 9] [
      ⟨some 7, .op (.mv (.t 0)), none⟩,
      ⟨some 8, .op (.len 1 (.t 7)), none⟩,
      ⟨some 9, .op (.mv (.c (.int .i64 0))), none⟩]) (
    .block 0 (
     .loop [1, 7, 8, 9] (
      .seq (
       .reg [1, 7, 8, 9, 10] [
         ⟨some 10, .op (.bin .lss (.t 9) (.t 8)), none⟩]) (
       .seq (
        .cond (.t 10) (
         .skip) (
         .exit 0)) (
        .seq (
         .block 1 (
          .seq (
           .reg [1, 6, 7, 8, 9] [
             ⟨some 11, .op (.idxAddr 2 (.t 7) (.t 9)), none⟩,
             ⟨some 12, .op (.ldn 2 (.t 11)), none⟩,
             ⟨some 6, .op (.alloc [.int .u64 0, .int .u64 0]), none⟩,
             ⟨none, .op (.st 2 (.t 6) (.t 12)), none⟩]) (
           .seq (
            .reg [1, 6, 7, 8, 9, 22] [
              ⟨some 13, .op (.fieldAddr 0 (.t 6)), none⟩,
              ⟨some 14, .op (.ld1 (.t 13)), none⟩,
              ⟨some 15, .op (.mv (.t 1)), none⟩,
              ⟨some 16, .op (.bin .leq (.t 14) (.t 15)), none⟩,
              ⟨some 17, .op (.mv (.t 16)), none⟩,
              ⟨some 18, .op (.mv (.t 1)), some (17, true)⟩,
              ⟨some 19, .op (.fieldAddr 1 (.t 6)), some (17, true)⟩,
              ⟨some 20, .op (.ld1 (.t 19)), some (17, true)⟩,
              ⟨some 21, .op (.bin .lss (.t 18) (.t 20)), some (17, true)⟩,
              ⟨some 22, .pick (.t 17) (.t 21) (.c (.bool false)), none⟩]) (
            .cond (.t 22) (
             .reg [1, 7, 8, 9] [
               ⟨some 23, .op (.fieldAddr 1 (.t 6)), none⟩,
               ⟨some 24, .op (.ld1 (.t 23)), none⟩,
               ⟨some 1, .op (.mv (.t 24)), none⟩]) (
             .skip))))) (
         .reg [1, 7, 8, 9] [
           ⟨some 25, .op (.bin .add (.t 9) (.c (.int .i64 1))), none⟩,
           ⟨some 9, .op (.mv (.t 25)), none⟩]))))))) (
   .seq (
    .reg [4] [
      ⟨some 26, .op (.mv (.t 1)), none⟩,
      ⟨some 4, .op (.mv (.t 26)), none⟩]) (
    .ret)))
theorem cf52 : compF Try.prog Try.f52 h52 = some (ac52, rs52) := by kernel_rfl

/-! mailcoach/mailcoachref03.Right params 1 -/
def h55 : Hints := ⟨[(8, [2]), (3, [0, 3]), (7, [2]), (6, [0, 3, 36]), (5, [2]), (4, [0, 3, 20]), (2, [0, 3, 7]), (1, [0, 3]), (0, [0])], [(2, [0, 3])], [(4, [(0, []), (1, []), (2, []), (3, []), (4, []), (5, []), (6, []), (7, []), (8, []), (9, []), (10, [])]), (6, [(0, []), (1, []), (2, []), (3, []), (4, []), (5, []), (6, []), (7, []), (8, []), (9, []), (10, []), (11, []), (12, []), (13, []), (14, []), (15, [])])]⟩
def rs55 : List ARes := [.t 2]
def ac55 : ACode :=
 .seq (
  .reg [0] [
    ⟨some 2, .op (.mv (.c (.bool false))), none⟩]) (
  .seq (
   .seq (
    .reg [0, 3] [
      ⟨some 3, .op (.mv (.c (.int .i64 0))), none⟩]) (
    .block 0 (
     .loop [0, 3] (
      .seq (
       .seq (
        .reg [0, 3, 7] [
          ⟨some 4, .op (.mv (.t 3)), none⟩,
          ⟨some 5, .op (.mv (.t 0)), none⟩,
          ⟨some 6, .op (.len 1 (.t 5)), none⟩,
          ⟨some 7, .op (.bin .lss (.t 4) (.t 6)), none⟩]) (
        .cond (.t 7) (
         .skip) (
         .exit 0))) (
       .seq (
        .block 1 (
         .seq (
          .seq (
           .dreg [0, 3, 20] [
             (⟨some 10, .op (.mv (.t 0)), none⟩, []),
             (⟨some 11, .op (.mv (.t 3)), none⟩, []),
             (⟨some 12, .op (.idxAddr 2 (.t 10) (.t 11)), none⟩, []),
             (⟨some 13, .op (.fieldAddr 0 (.t 12)), none⟩, []),
             (⟨some 14, .op (.ld1 (.t 13)), none⟩, []),
             (⟨some 15, .op (.mv (.t 0)), none⟩, []),
             (⟨some 16, .op (.mv (.t 3)), none⟩, []),
             (⟨some 17, .op (.idxAddr 2 (.t 15) (.t 16)), none⟩, []),
             (⟨some 18, .op (.fieldAddr 1 (.t 17)), none⟩, []),
             (⟨some 19, .op (.ld1 (.t 18)), none⟩, []),
             (⟨some 20, .op (.bin .geq (.t 14) (.t 19)), none⟩, [])]) (
           .cond (.t 20) (
            .seq (
             .reg [2] [
               ⟨some 2, .op (.mv (.c (.bool false))), none⟩]) (
             .ret)) (
            .skip))) (
          .seq (
           .dreg [0, 3, 36] [
             (⟨some 21, .op (.mv (.t 3)), none⟩, []),
             (⟨some 22, .op (.bin .gtr (.t 21) (.c (.int .i64 0))), none⟩, []),
             (⟨some 23, .op (.mv (.t 22)), none⟩, []),
             (⟨some 24, .op (.mv (.t 0)), some (23, true)⟩, []),
             (⟨some 25, .op (.mv (.t 3)), some (23, true)⟩, []),
             (⟨some 26, .op (.idxAddr 2 (.t 24) (.t 25)), some (23, true)⟩, []),
             (⟨some 27, .op (.fieldAddr 0 (.t 26)), some (23, true)⟩, []),
             (⟨some 28, .op (.ld1 (.t 27)), some (23, true)⟩, []),
             (⟨some 29, .op (.mv (.t 0)), some (23, true)⟩, []),
             (⟨some 30, .op (.mv (.t 3)), some (23, true)⟩, []),
             (⟨some 31, .op (.bin .sub (.t 30) (.c (.int .i64 1))), some (23, true)⟩, []),
             (⟨some 32, .op (.idxAddr 2 (.t 29) (.t 31)), some (23, true)⟩, []),
             (⟨some 33, .op (.fieldAddr 1 (.t 32)), some (23, true)⟩, []),
             (⟨some 34, .op (.ld1 (.t 33)), some (23, true)⟩, []),
             (⟨some 35, .op (.bin .leq (.t 28) (.t 34)), some (23, true)⟩, []),
             (⟨some 36, .pick (.t 23) (.t 35) (.c (.bool false)), none⟩, [])]) (
           .cond (.t 36) (
            .seq (
             .reg [2] [
               ⟨some 2, .op (.mv (.c (.bool false))), none⟩]) (
             .ret)) (
            .skip))))) (
        .reg [0, 3] [
          ⟨some 8, .op (.mv (.t 3)), none⟩,
          ⟨some 9, .op (.bin .add (.t 8) (.c (.int .i64 1))), none⟩,
          ⟨some 3, .op (.mv (.t 9)), none⟩])))))) (
   .seq (
    .reg [2] [
      ⟨some 2, .op (.mv (.c (.bool true))), none⟩]) (
    .ret)))
theorem cf55 : compF Try.prog Try.f55 h55 = some (ac55, rs55) := by kernel_rfl

/-! mailcoach/cursor.Encode$1 params 1 -/
def h56 : Hints := ⟨[(1, [2]), (0, [1])], [], []⟩
def rs56 : List ARes := [.t 2]
def ac56 : ACode :=
 .seq (
  .reg [1] [
    ⟨some 1, .op (.box (.t 0)), none⟩,
    ⟨some 2, .op (.mv (.c (.bool false))), none⟩]) (
  .seq (
   .reg [2] [
     ⟨some 3, .op (.fieldAddr 1 (.t 1)), none⟩,
     ⟨some 4, .op (.ld1 (.t 3)), none⟩,
     ⟨some 5, .op (.len 1 (.t 4)), none⟩,
     ⟨some 6, .op (.bin .gtr (.t 5) (.c (.int .i64 65535))), none⟩,
     ⟨some 2, .op (.mv (.t 6)), none⟩]) (
   .ret))
theorem cf56 : compF Try.prog Try.f56 h56 = some (ac56, rs56) := by kernel_rfl

/-! slices.ContainsFunc[[]mailcoach/api.Held,mailcoach/api.Held] params 2 -/
def h57 : Hints := ⟨[(1, [4]), (0, [0, 1])], [], []⟩
def rs57 : List ARes := [.t 4]
def ac57 : ACode :=
 .seq (
  .reg [0, 1] [
    ⟨some 4, .op (.mv (.c (.bool false))), none⟩]) (
  .seq (
   .reg [4] [
     ⟨some 5, .op (.mv (.t 0)), none⟩,
     ⟨some 6, .op (.mv (.t 1)), none⟩,
     ⟨some 7, .call (.c (.fn 76 [] [])) [(.t 5), (.t 6)], none⟩,
     ⟨some 8, .op (.bin .geq (.t 7) (.c (.int .i64 0))), none⟩,
     ⟨some 4, .op (.mv (.t 8)), none⟩]) (
   .ret))
theorem cf57 : compF Try.prog Try.f57 h57 = some (ac57, rs57) := by kernel_rfl

/-! mailcoach/cursor.Write params 2 -/
def h58 : Hints := ⟨[(15, [0, 25, 26, 27]), (14, [0, 25, 26, 27, 42, 43, 44]), (13, [0, 25, 26, 27, 42, 43, 44]), (12, [0, 7, 25, 26, 27, 42, 43, 44]), (11, [0, 7, 25, 26, 27, 42, 43, 44]), (10, [0, 25, 26, 27, 42, 43, 44, 45]), (9, [0, 25, 26, 27, 42, 43, 44]), (8, [0, 5, 25, 26, 27]), (7, [0, 5, 25, 26, 27]), (6, [0, 5, 25, 26, 27]), (5, [0, 25, 26, 27, 28]), (4, [0, 25, 26, 27]), (3, [0, 3]), (2, [0, 3]), (1, [0, 3]), (0, [0, 3])], [(10, [0, 25, 26, 27, 42, 43, 44]), (5, [0, 25, 26, 27])], []⟩
def rs58 : List ARes := []
def ac58 : ACode :=
 .seq (
  .reg [0, 3] [
    ⟨some 3, .op (.box (.t 1)), none⟩]) (
  .seq (
   .reg [0, 3] [
     ⟨some 8, .op (.mv (.t 0)), none⟩,
     ⟨some 9, .op (.fieldAddr 0 (.t 3)), none⟩,
     ⟨some 10, .op (.fieldAddr 0 (.t 9)), none⟩,
     ⟨some 11, .op (.ld1 (.t 10)), none⟩,
     ⟨some 12, .call (.c (.fn 77 [] [])) [(.t 8), (.t 11)], none⟩]) (
   .seq (
    .reg [0, 3] [
      ⟨some 13, .op (.mv (.t 0)), none⟩,
      ⟨some 14, .op (.fieldAddr 0 (.t 3)), none⟩,
      ⟨some 15, .op (.fieldAddr 1 (.t 14)), none⟩,
      ⟨some 16, .op (.ld1 (.t 15)), none⟩,
      ⟨some 17, .call (.c (.fn 77 [] [])) [(.t 13), (.t 16)], none⟩]) (
    .seq (
     .reg [0, 3] [
       ⟨some 18, .op (.mv (.t 0)), none⟩,
       ⟨some 19, .op (.fieldAddr 2 (.t 3)), none⟩,
       ⟨some 20, .op (.ld1 (.t 19)), none⟩,
       ⟨some 21, .op (.len 1 (.t 20)), none⟩,
       ⟨some 22, .op (.toInt .u16 (.t 21)), none⟩,
       ⟨some 23, .call (.c (.fn 78 [] [])) [(.t 18), (.t 22)], none⟩]) (
     .seq (
      .reg [0, 25, 26, 27] [
        ⟨some 24, .op (.fieldAddr 2 (.t 3)), none⟩,
        ⟨some 25, .op (.ld1 (.t 24)), none⟩,
        ⟨some 26, .op (.len 1 (.t 25)), none⟩,
        ⟨some 27, .op (.mv (.c (.int .i64 0))), none⟩]) (
      .block 0 (
       .loop [0, 25, 26, 27] (
        .seq (
         .reg [0, 25, 26, 27, 28] [
           ⟨some 28, .op (.bin .lss (.t 27) (.t 26)), none⟩]) (
         .seq (
          .cond (.t 28) (
           .skip) (
           .exit 0)) (
          .seq (
           .block 1 (
            .seq (
             .reg [0, 5, 25, 26, 27] [
               ⟨some 29, .op (.idxAddr 2 (.t 25) (.t 27)), none⟩,
               ⟨some 30, .op (.ldn 2 (.t 29)), none⟩,
               ⟨some 5, .op (.alloc [.int .u64 0, .nilsl]), none⟩,
               ⟨none, .op (.st 2 (.t 5) (.t 30)), none⟩]) (
             .seq (
              .reg [0, 5, 25, 26, 27] [
                ⟨some 31, .op (.mv (.t 0)), none⟩,
                ⟨some 32, .op (.fieldAddr 0 (.t 5)), none⟩,
                ⟨some 33, .op (.ld1 (.t 32)), none⟩,
                ⟨some 34, .call (.c (.fn 77 [] [])) [(.t 31), (.t 33)], none⟩]) (
              .seq (
               .reg [0, 5, 25, 26, 27] [
                 ⟨some 35, .op (.mv (.t 0)), none⟩,
                 ⟨some 36, .op (.fieldAddr 1 (.t 5)), none⟩,
                 ⟨some 37, .op (.ld1 (.t 36)), none⟩,
                 ⟨some 38, .op (.len 1 (.t 37)), none⟩,
                 ⟨some 39, .op (.toInt .u16 (.t 38)), none⟩,
                 ⟨some 40, .call (.c (.fn 78 [] [])) [(.t 35), (.t 39)], none⟩]) (
               .seq (
                .reg [0, 25, 26, 27, 42, 43, 44] [
                  ⟨some 41, .op (.fieldAddr 1 (.t 5)), none⟩,
                  ⟨some 42, .op (.ld1 (.t 41)), none⟩,
                  ⟨some 43, .op (.len 1 (.t 42)), none⟩,
                  ⟨some 44, .op (.mv (.c (.int .i64 0))), none⟩]) (
                .block 2 (
                 .loop [0, 25, 26, 27, 42, 43, 44] (
                  .seq (
                   .reg [0, 25, 26, 27, 42, 43, 44, 45] [
                     ⟨some 45, .op (.bin .lss (.t 44) (.t 43)), none⟩]) (
                   .seq (
                    .cond (.t 45) (
                     .skip) (
                     .exit 2)) (
                    .seq (
                     .block 3 (
                      .seq (
                       .reg [0, 7, 25, 26, 27, 42, 43, 44] [
                         ⟨some 46, .op (.idxAddr 2 (.t 42) (.t 44)), none⟩,
                         ⟨some 47, .op (.ldn 2 (.t 46)), none⟩,
                         ⟨some 7, .op (.alloc [.int .u64 0, .int .u64 0]), none⟩,
                         ⟨none, .op (.st 2 (.t 7) (.t 47)), none⟩]) (
                       .seq (
                        .reg [0, 7, 25, 26, 27, 42, 43, 44] [
                          ⟨some 48, .op (.mv (.t 0)), none⟩,
                          ⟨some 49, .op (.fieldAddr 0 (.t 7)), none⟩,
                          ⟨some 50, .op (.ld1 (.t 49)), none⟩,
                          ⟨some 51, .call (.c (.fn 77 [] [])) [(.t 48), (.t 50)], none⟩]) (
                        .reg [0, 25, 26, 27, 42, 43, 44] [
                          ⟨some 52, .op (.mv (.t 0)), none⟩,
                          ⟨some 53, .op (.fieldAddr 1 (.t 7)), none⟩,
                          ⟨some 54, .op (.ld1 (.t 53)), none⟩,
                          ⟨some 55, .call (.c (.fn 77 [] [])) [(.t 52), (.t 54)], none⟩])))) (
                     .reg [0, 25, 26, 27, 42, 43, 44] [
                       ⟨some 56, .op (.bin .add (.t 44) (.c (.int .i64 1))), none⟩,
                       ⟨some 44, .op (.mv (.t 56)), none⟩]))))))))))) (
           .reg [0, 25, 26, 27] [
             ⟨some 57, .op (.bin .add (.t 27) (.c (.int .i64 1))), none⟩,
             ⟨some 27, .op (.mv (.t 57)), none⟩]))))))))))
theorem cf58 : compF Try.prog Try.f58 h58 = some (ac58, rs58) := by kernel_rfl

/-! (*mailcoach/pack.Writer).Done params 1 -/
def h59 : Hints := ⟨[(3, [2]), (2, [2]), (1, [0, 4]), (0, [0])], [], []⟩
def rs59 : List ARes := [.t 2]
def ac59 : ACode :=
 .seq (
  .reg [0] [
    ⟨some 2, .op (.mv (.c (.nilsl))), none⟩]) (
  .seq (
   .seq (
    .reg [0, 4] [
      ⟨some 3, .op (.mv (.t 0)), none⟩,
      ⟨some 4, .op (.eqn 0 false (.t 3) (.c (.nilp))), none⟩]) (
    .cond (.t 4) (
     .seq (
      .reg [2] [
        ⟨some 2, .op (.mv (.c (.nilsl))), none⟩]) (
      .ret)) (
     .skip))) (
   .seq (
    .reg [2] [
      ⟨some 5, .op (.mv (.t 0)), none⟩,
      ⟨some 6, .op (.nilCheck (.t 5)), none⟩,
      ⟨some 7, .op (.fieldAddr 0 (.t 6)), none⟩,
      ⟨some 8, .op (.ld1 (.t 7)), none⟩,
      ⟨some 9, .call (.c (.fn 79 [] [])) [(.t 8)], none⟩,
      ⟨some 2, .op (.mv (.t 9)), none⟩]) (
    .ret)))
theorem cf59 : compF Try.prog Try.f59 h59 = some (ac59, rs59) := by kernel_rfl

/-! mailcoach/mailcoachref01.Put params 3 -/
def h60 : Hints := ⟨[(10, [6]), (3, [0, 1, 7]), (9, [0, 1, 7]), (7, [0, 1, 7, 8, 9]), (8, [0, 1, 7, 8, 9]), (6, [0, 1, 7, 8, 9, 19]), (5, [0, 1, 7, 8, 9]), (4, [0, 1, 7, 8]), (2, [0, 1, 7, 13]), (1, [0, 1, 7]), (0, [0, 1, 2])], [(6, [0, 1, 7, 8, 9]), (2, [0, 1, 7])], []⟩
def rs60 : List ARes := [.t 6]
def ac60 : ACode :=
 .seq (
  .reg [0, 1, 2] [
    ⟨some 6, .op (.mv (.c (.nilsl))), none⟩]) (
  .seq (
   .seq (
    .reg [0, 1, 7] [
      ⟨some 10, .op (.mv (.t 2)), none⟩,
      ⟨some 11, .op (.bin .sub (.t 10) (.c (.int .i64 1))), none⟩,
      ⟨some 7, .op (.mv (.t 11)), none⟩]) (
    .block 0 (
     .loop [0, 1, 7] (
      .seq (
       .seq (
        .reg [0, 1, 7, 13] [
          ⟨some 12, .op (.mv (.t 7)), none⟩,
          ⟨some 13, .op (.bin .geq (.t 12) (.c (.int .i64 0))), none⟩]) (
        .cond (.t 13) (
         .skip) (
         .exit 0))) (
       .seq (
        .block 1 (
         .seq (
          .reg [0, 1, 7, 8] [
            ⟨some 16, .op (.mv (.t 1)), none⟩,
            ⟨some 8, .op (.mv (.t 16)), none⟩]) (
          .seq (
           .seq (
            .reg [0, 1, 7, 8, 9] [
              ⟨some 9, .op (.mv (.c (.int .i64 0))), none⟩]) (
            .block 2 (
             .loop [0, 1, 7, 8, 9] (
              .seq (
               .seq (
                .reg [0, 1, 7, 8, 9, 19] [
                  ⟨some 17, .op (.mv (.t 9)), none⟩,
                  ⟨some 18, .op (.mv (.t 7)), none⟩,
                  ⟨some 19, .op (.bin .lss (.t 17) (.t 18)), none⟩]) (
                .cond (.t 19) (
                 .skip) (
                 .exit 2))) (
               .seq (
                .block 3 (
                 .reg [0, 1, 7, 8, 9] [
                   ⟨some 22, .op (.mv (.t 8)), none⟩,
                   ⟨some 23, .op (.bin .quo (.t 22) (.c (.int .u64 256))), none⟩,
                   ⟨some 8, .op (.mv (.t 23)), none⟩])) (
                .reg [0, 1, 7, 8, 9] [
                  ⟨some 20, .op (.mv (.t 9)), none⟩,
                  ⟨some 21, .op (.bin .add (.t 20) (.c (.int .i64 1))), none⟩,
                  ⟨some 9, .op (.mv (.t 21)), none⟩])))))) (
           .reg [0, 1, 7] [
             ⟨some 24, .op (.mv (.t 0)), none⟩,
             ⟨some 25, .op (.mv (.t 8)), none⟩,
             ⟨some 26, .op (.bin .rem (.t 25) (.c (.int .u64 256))), none⟩,
             ⟨some 27, .op (.toInt .u8 (.t 26)), none⟩,
             ⟨some 28, .op (.buildSl 1 [.int .u8 0] 1 [(0, (.t 27))]), none⟩,
             ⟨some 29, .op (.append 1 1 (.t 24) (.t 28)), none⟩,
             ⟨some 0, .op (.mv (.t 29)), none⟩])))) (
        .reg [0, 1, 7] [
          ⟨some 14, .op (.mv (.t 7)), none⟩,
          ⟨some 15, .op (.bin .sub (.t 14) (.c (.int .i64 1))), none⟩,
          ⟨some 7, .op (.mv (.t 15)), none⟩])))))) (
   .seq (
    .reg [6] [
      ⟨some 30, .op (.mv (.t 0)), none⟩,
      ⟨some 6, .op (.mv (.t 30)), none⟩]) (
    .ret)))
theorem cf60 : compF Try.prog Try.f60 h60 = some (ac60, rs60) := by kernel_rfl

/-! mailcoach/pack.Read params 2 -/
def h61 : Hints := ⟨[(6, [4]), (5, [4]), (4, [4, 18]), (3, [4, 5]), (2, [1, 4, 5]), (1, [0, 1, 4]), (0, [0, 1, 4])], [], []⟩
def rs61 : List ARes := [.c1 4]
def ac61 : ACode :=
 .seq (
  .reg [0, 1, 4] [
    ⟨some 4, .op (.alloc [.int .i64 0]), none⟩]) (
  .seq (
   .reg [0, 1, 4] [
     ⟨some 6, .op (.mkfn 80 [] [(.t 4)]), none⟩,
     ⟨none, .op (.stuck), none⟩]) (
   .seq (
    .reg [1, 4, 5] [
      ⟨some 7, .op (.mv (.t 0)), none⟩,
      ⟨some 8, .op (.build [.nilsl] [(0, 1, (.t 7))]), none⟩,
      ⟨some 9, .op (.box (.t 8)), none⟩,
      ⟨some 5, .op (.mv (.t 9)), none⟩]) (
    .seq (
     .reg [4, 5] [
       ⟨some 10, .op (.mv (.t 1)), none⟩,
       ⟨some 11, .op (.mv (.t 5)), none⟩,
       ⟨some 12, .call (.t 10) [(.t 11)], none⟩]) (
     .seq (
      .seq (
       .reg [4, 18] [
         ⟨some 13, .op (.mv (.t 5)), none⟩,
         ⟨some 14, .op (.nilCheck (.t 13)), none⟩,
         ⟨some 15, .op (.fieldAddr 0 (.t 14)), none⟩,
         ⟨some 16, .op (.ld1 (.t 15)), none⟩,
         ⟨some 17, .op (.len 1 (.t 16)), none⟩,
         ⟨some 18, .op (.bin .gtr (.t 17) (.c (.int .i64 0))), none⟩]) (
       .cond (.t 18) (
        .seq (
         .reg [4] [
           ⟨none, .op (.st 1 (.t 4) (.c (.int .i64 5))), none⟩]) (
         .ret)) (
        .skip))) (
      .seq (
       .reg [4] [
         ⟨none, .op (.st 1 (.t 4) (.c (.int .i64 0))), none⟩]) (
       .ret))))))
theorem cf61 : compF Try.prog Try.f61 h61 = some (ac61, rs61) := by kernel_rfl

/-! mailcoach/cursor.Decode$1 params 2 -/
def h62 : Hints := ⟨[(0, [])], [], []⟩
def rs62 : List ARes := []
def ac62 : ACode :=
 .reg [] [
   ⟨some 3, .op (.mv (.t 0)), none⟩,
   ⟨some 4, .call (.c (.fn 63 [] [])) [(.t 3)], none⟩,
   ⟨none, .op (.st 3 (.t 1) (.t 4)), none⟩]
theorem cf62 : compF Try.prog Try.f62 h62 = some (ac62, rs62) := by kernel_rfl

/-! mailcoach/cursor.Take params 1 -/
def h63 : Hints := ⟨[(13, [2]), (12, [2, 3]), (11, [0, 2, 3, 42]), (10, [0, 2, 3, 12, 13]), (9, [0, 2, 3, 12, 13]), (8, [0, 2, 3, 4, 12, 13, 19, 20]), (7, [0, 2, 3, 4, 12, 13, 19, 20]), (6, [0, 2, 3, 4, 12, 13, 19, 20, 21]), (5, [0, 2, 3, 4, 12, 13, 19, 20]), (4, [0, 2, 3, 4, 12, 13]), (3, [0, 2, 3, 12, 13, 14]), (2, [0, 2, 3, 12, 13]), (1, [0, 2, 3]), (0, [0, 2])], [(6, [0, 2, 3, 4, 12, 13, 19, 20]), (3, [0, 2, 3, 12, 13])], [(7, [(0, []), (1, []), (2, []), (4, []), (3, [1]), (5, [1]), (6, []), (7, []), (8, []), (9, []), (10, [])])]⟩
def rs63 : List ARes := [.cn 2 3]
def ac63 : ACode :=
 .seq (
  .reg [0, 2] [
    ⟨some 2, .op (.alloc [.int .u64 0, .int .u64 0, .nilsl]), none⟩]) (
  .seq (
   .reg [0, 2, 3] [
     ⟨some 5, .op (.mv (.t 0)), none⟩,
     ⟨some 6, .call (.c (.fn 81 [] [])) [(.t 5)], none⟩,
     ⟨some 7, .op (.mv (.t 0)), none⟩,
     ⟨some 8, .call (.c (.fn 81 [] [])) [(.t 7)], none⟩,
     ⟨some 9, .op (.build [.int .u64 0, .int .u64 0] [(0, 1, (.t 6)), (1, 1, (.t 8))]), none⟩,
     ⟨some 10, .op (.build [.int .u64 0, .int .u64 0, .nilsl] [(0, 2, (.t 9))]), none⟩,
     ⟨some 3, .op (.alloc [.int .u64 0, .int .u64 0, .nilsl]), none⟩,
     ⟨none, .op (.st 3 (.t 3) (.t 10)), none⟩]) (
   .seq (
    .seq (
     .reg [0, 2, 3, 12, 13] [
       ⟨some 11, .op (.mv (.t 0)), none⟩,
       ⟨some 12, .call (.c (.fn 82 [] [])) [(.t 11)], none⟩,
       ⟨some 13, .op (.mv (.c (.int .u16 0))), none⟩]) (
     .block 0 (
      .loop [0, 2, 3, 12, 13] (
       .seq (
        .reg [0, 2, 3, 12, 13, 14] [
          ⟨some 14, .op (.bin .lss (.t 13) (.t 12)), none⟩]) (
        .seq (
         .cond (.t 14) (
          .skip) (
          .exit 0)) (
         .seq (
          .block 1 (
           .seq (
            .reg [0, 2, 3, 4, 12, 13] [
              ⟨some 15, .op (.mv (.t 0)), none⟩,
              ⟨some 16, .call (.c (.fn 81 [] [])) [(.t 15)], none⟩,
              ⟨some 17, .op (.build [.int .u64 0, .nilsl] [(0, 1, (.t 16))]), none⟩,
              ⟨some 4, .op (.alloc [.int .u64 0, .nilsl]), none⟩,
              ⟨none, .op (.st 2 (.t 4) (.t 17)), none⟩]) (
            .seq (
             .seq (
              .reg [0, 2, 3, 4, 12, 13, 19, 20] [
                ⟨some 18, .op (.mv (.t 0)), none⟩,
                ⟨some 19, .call (.c (.fn 82 [] [])) [(.t 18)], none⟩,
                ⟨some 20, .op (.mv (.c (.int .u16 0))), none⟩]) (
              .block 2 (
               .loop [0, 2, 3, 4, 12, 13, 19, 20] (
                .seq (
                 .reg [0, 2, 3, 4, 12, 13, 19, 20, 21] [
                   ⟨some 21, .op (.bin .lss (.t 20) (.t 19)), none⟩]) (
                 .seq (
                  .cond (.t 21) (
                   .skip) (
                   .exit 2)) (
                  .seq (
                   .block 3 (
                    .dreg [0, 2, 3, 4, 12, 13, 19, 20] [
                      (⟨some 22, .op (.fieldAddr 1 (.t 4)), none⟩, []),
                      (⟨some 23, .op (.ld1 (.t 22)), none⟩, []),
                      (⟨some 24, .op (.mv (.t 0)), none⟩, []),
                      (⟨some 26, .op (.mv (.t 0)), none⟩, []),
                      (⟨some 25, .call (.c (.fn 81 [] [])) [(.t 24)], none⟩, [1]),
                      (⟨some 27, .call (.c (.fn 81 [] [])) [(.t 26)], none⟩, [1]),
                      (⟨some 28, .op (.build [.int .u64 0, .int .u64 0] [(0, 1, (.t 25)), (1, 1, (.t 27))]), none⟩, []),
                      (⟨some 29, .op (.buildSl 2 [.int .u64 0, .int .u64 0] 1 [(0, (.t 28))]), none⟩, []),
                      (⟨some 30, .op (.append 2 16 (.t 23) (.t 29)), none⟩, []),
                      (⟨some 31, .op (.fieldAddr 1 (.t 4)), none⟩, []),
                      (⟨none, .op (.st 1 (.t 31) (.t 30)), none⟩, [])])) (
                   .reg [0, 2, 3, 4, 12, 13, 19, 20] [
                     ⟨some 32, .op (.bin .add (.t 20) (.c (.int .u16 1))), none⟩,
                     ⟨some 20, .op (.mv (.t 32)), none⟩]))))))) (
             .reg [0, 2, 3, 12, 13] [
               ⟨some 33, .op (.fieldAddr 2 (.t 3)), none⟩,
               ⟨some 34, .op (.ld1 (.t 33)), none⟩,
               ⟨some 35, .op (.ldn 2 (.t 4)), none⟩,
               ⟨some 36, .op (.buildSl 2 [.int .u64 0, .nilsl] 1 [(0, (.t 35))]), none⟩,
               ⟨some 37, .op (.append 2 32 (.t 34) (.t 36)), none⟩,
               ⟨some 38, .op (.fieldAddr 2 (.t 3)), none⟩,
               ⟨none, .op (.st 1 (.t 38) (.t 37)), none⟩])))) (
          .reg [0, 2, 3, 12, 13] [
            ⟨some 39, .op (.bin .add (.t 13) (.c (.int .u16 1))), none⟩,
            ⟨some 13, .op (.mv (.t 39)), none⟩]))))))) (
    .seq (
     .seq (
      .reg [0, 2, 3, 42] [
        ⟨some 40, .op (.ldn 3 (.t 3)), none⟩,
        ⟨some 41, .call (.c (.fn 21 [] [])) [(.t 40)], none⟩,
        ⟨some 42, .op (.un .not (.t 41)), none⟩]) (
      .cond (.t 42) (
       .reg [2, 3] [
         ⟨some 43, .op (.mv (.t 0)), none⟩,
         ⟨some 44, .call (.c (.fn 83 [] [])) [(.t 43), (.c (.int .i64 23))], none⟩]) (
       .skip))) (
     .seq (
      .reg [2] [
        ⟨some 45, .op (.ldn 3 (.t 3)), none⟩,
        ⟨none, .op (.st 3 (.t 2) (.t 45)), none⟩]) (
      .ret)))))
theorem cf63 : compF Try.prog Try.f63 h63 = some (ac63, rs63) := by kernel_rfl

/-! (*mailcoach/mailcoachref01.Reader).Number params 2 -/
def h64 : Hints := ⟨[(11, [4]), (10, [5]), (8, [0, 1, 5, 6]), (9, [0, 1, 5, 6]), (7, [0, 1, 5, 6, 31]), (6, [0, 1, 5, 6]), (5, [0, 1, 5]), (4, [4]), (3, [0, 1, 28]), (2, [0, 1]), (1, [0, 1, 20]), (0, [0, 1])], [(7, [0, 1, 5, 6])], []⟩
def rs64 : List ARes := [.t 4]
def ac64 : ACode :=
 .seq (
  .reg [0, 1] [
    ⟨some 4, .op (.mv (.c (.int .u64 0))), none⟩]) (
  .seq (
   .seq (
    .reg [0, 1, 20] [
      ⟨some 7, .op (.mv (.t 0)), none⟩,
      ⟨some 8, .op (.nilCheck (.t 7)), none⟩,
      ⟨some 9, .op (.fieldAddr 1 (.t 8)), none⟩,
      ⟨some 10, .op (.ld1 (.t 9)), none⟩,
      ⟨some 11, .op (.bin .eql (.t 10) (.c (.int .i64 0))), none⟩,
      ⟨some 12, .op (.mv (.t 11)), none⟩,
      ⟨some 13, .op (.mv (.t 0)), some (12, true)⟩,
      ⟨some 14, .op (.nilCheck (.t 13)), some (12, true)⟩,
      ⟨some 15, .op (.fieldAddr 0 (.t 14)), some (12, true)⟩,
      ⟨some 16, .op (.ld1 (.t 15)), some (12, true)⟩,
      ⟨some 17, .op (.len 1 (.t 16)), some (12, true)⟩,
      ⟨some 18, .op (.mv (.t 1)), some (12, true)⟩,
      ⟨some 19, .op (.bin .lss (.t 17) (.t 18)), some (12, true)⟩,
      ⟨some 20, .pick (.t 12) (.t 19) (.c (.bool false)), none⟩]) (
    .cond (.t 20) (
     .reg [0, 1] [
       ⟨some 21, .op (.mv (.t 0)), none⟩,
       ⟨some 22, .op (.nilCheck (.t 21)), none⟩,
       ⟨some 23, .op (.fieldAddr 1 (.t 22)), none⟩,
       ⟨none, .op (.st 1 (.t 23) (.c (.int .i64 4))), none⟩]) (
     .skip))) (
   .seq (
    .seq (
     .reg [0, 1, 28] [
       ⟨some 24, .op (.mv (.t 0)), none⟩,
       ⟨some 25, .op (.nilCheck (.t 24)), none⟩,
       ⟨some 26, .op (.fieldAddr 1 (.t 25)), none⟩,
       ⟨some 27, .op (.ld1 (.t 26)), none⟩,
       ⟨some 28, .op (.bin .neq (.t 27) (.c (.int .i64 0))), none⟩]) (
     .cond (.t 28) (
      .seq (
       .reg [4] [
         ⟨some 4, .op (.mv (.c (.int .u64 0))), none⟩]) (
       .ret)) (
      .skip))) (
    .seq (
     .reg [0, 1, 5] [
       ⟨some 5, .op (.mv (.c (.int .u64 0))), none⟩]) (
     .seq (
      .seq (
       .reg [0, 1, 5, 6] [
         ⟨some 6, .op (.mv (.c (.int .i64 0))), none⟩]) (
       .block 0 (
        .loop [0, 1, 5, 6] (
         .seq (
          .seq (
           .reg [0, 1, 5, 6, 31] [
             ⟨some 29, .op (.mv (.t 6)), none⟩,
             ⟨some 30, .op (.mv (.t 1)), none⟩,
             ⟨some 31, .op (.bin .lss (.t 29) (.t 30)), none⟩]) (
           .cond (.t 31) (
            .skip) (
            .exit 0))) (
          .seq (
           .block 1 (
            .reg [0, 1, 5, 6] [
              ⟨some 34, .op (.mv (.t 5)), none⟩,
              ⟨some 35, .op (.bin .mul (.t 34) (.c (.int .u64 256))), none⟩,
              ⟨some 36, .op (.mv (.t 0)), none⟩,
              ⟨some 37, .op (.nilCheck (.t 36)), none⟩,
              ⟨some 38, .op (.fieldAddr 0 (.t 37)), none⟩,
              ⟨some 39, .op (.ld1 (.t 38)), none⟩,
              ⟨some 40, .op (.mv (.t 6)), none⟩,
              ⟨some 41, .op (.idxAddr 1 (.t 39) (.t 40)), none⟩,
              ⟨some 42, .op (.ld1 (.t 41)), none⟩,
              ⟨some 43, .op (.toInt .u64 (.t 42)), none⟩,
              ⟨some 44, .op (.bin .add (.t 35) (.t 43)), none⟩,
              ⟨some 5, .op (.mv (.t 44)), none⟩])) (
           .reg [0, 1, 5, 6] [
             ⟨some 32, .op (.mv (.t 6)), none⟩,
             ⟨some 33, .op (.bin .add (.t 32) (.c (.int .i64 1))), none⟩,
             ⟨some 6, .op (.mv (.t 33)), none⟩])))))) (
      .seq (
       .reg [5] [
         ⟨some 45, .op (.mv (.t 0)), none⟩,
         ⟨some 46, .op (.mv (.t 0)), none⟩,
         ⟨some 47, .op (.nilCheck (.t 46)), none⟩,
         ⟨some 48, .op (.fieldAddr 0 (.t 47)), none⟩,
         ⟨some 49, .op (.ld1 (.t 48)), none⟩,
         ⟨some 50, .op (.mv (.t 1)), none⟩,
         ⟨some 51, .op (.slice 1 (.t 49) (some (.t 50)) none none), none⟩,
         ⟨some 52, .op (.nilCheck (.t 45)), none⟩,
         ⟨some 53, .op (.fieldAddr 0 (.t 52)), none⟩,
         ⟨none, .op (.st 1 (.t 53) (.t 51)), none⟩]) (
       .seq (
        .reg [4] [
          ⟨some 54, .op (.mv (.t 5)), none⟩,
          ⟨some 4, .op (.mv (.t 54)), none⟩]) (
        .ret)))))))
theorem cf64 : compF Try.prog Try.f64 h64 = some (ac64, rs64) := by kernel_rfl

/-! (*mailcoach/mailcoachref01.Reader).Fail params 2 -/
def h65 : Hints := ⟨[(1, []), (0, [0, 1, 8])], [], []⟩
def rs65 : List ARes := []
def ac65 : ACode :=
 .seq (
  .reg [0, 1, 8] [
    ⟨some 4, .op (.mv (.t 0)), none⟩,
    ⟨some 5, .op (.nilCheck (.t 4)), none⟩,
    ⟨some 6, .op (.fieldAddr 1 (.t 5)), none⟩,
    ⟨some 7, .op (.ld1 (.t 6)), none⟩,
    ⟨some 8, .op (.bin .eql (.t 7) (.c (.int .i64 0))), none⟩]) (
  .cond (.t 8) (
   .reg [] [
     ⟨some 9, .op (.mv (.t 0)), none⟩,
     ⟨some 10, .op (.mv (.t 1)), none⟩,
     ⟨some 11, .op (.nilCheck (.t 9)), none⟩,
     ⟨some 12, .op (.fieldAddr 1 (.t 11)), none⟩,
     ⟨none, .op (.st 1 (.t 12) (.t 10)), none⟩]) (
   .skip))
theorem cf65 : compF Try.prog Try.f65 h65 = some (ac65, rs65) := by kernel_rfl

/-! mailcoach/mailcoachref03.ends params 1 -/
def h66 : Hints := ⟨[(6, [2]), (4, [0, 3, 4]), (5, [0, 3, 4]), (3, [0, 3, 4, 8]), (2, [0, 3, 4]), (1, [0, 3]), (0, [0])], [(3, [0, 3, 4])], [(5, [(0, []), (1, []), (2, []), (3, []), (4, []), (5, []), (7, []), (8, []), (9, []), (10, []), (11, []), (6, [10]), (12, []), (13, [])])]⟩
def rs66 : List ARes := [.t 2]
def ac66 : ACode :=
 .seq (
  .reg [0] [
    ⟨some 2, .op (.mv (.c (.nilsl))), none⟩]) (
  .seq (
   .reg [0, 3] [
     ⟨some 3, .op (.mv (.c (.nilsl))), none⟩]) (
   .seq (
    .seq (
     .reg [0, 3, 4] [
       ⟨some 4, .op (.mv (.c (.int .i64 0))), none⟩]) (
     .block 0 (
      .loop [0, 3, 4] (
       .seq (
        .seq (
         .reg [0, 3, 4, 8] [
           ⟨some 5, .op (.mv (.t 4)), none⟩,
           ⟨some 6, .op (.mv (.t 0)), none⟩,
           ⟨some 7, .op (.len 1 (.t 6)), none⟩,
           ⟨some 8, .op (.bin .lss (.t 5) (.t 7)), none⟩]) (
         .cond (.t 8) (
          .skip) (
          .exit 0))) (
        .seq (
         .block 1 (
          .dreg [0, 3, 4] [
            (⟨some 11, .op (.mv (.t 3)), none⟩, []),
            (⟨some 12, .op (.mv (.t 0)), none⟩, []),
            (⟨some 13, .op (.mv (.t 4)), none⟩, []),
            (⟨some 14, .op (.idxAddr 2 (.t 12) (.t 13)), none⟩, []),
            (⟨some 15, .op (.fieldAddr 0 (.t 14)), none⟩, []),
            (⟨some 16, .op (.ld1 (.t 15)), none⟩, []),
            (⟨some 18, .op (.mv (.t 0)), none⟩, []),
            (⟨some 19, .op (.mv (.t 4)), none⟩, []),
            (⟨some 20, .op (.idxAddr 2 (.t 18) (.t 19)), none⟩, []),
            (⟨some 21, .op (.fieldAddr 1 (.t 20)), none⟩, []),
            (⟨some 22, .op (.ld1 (.t 21)), none⟩, []),
            (⟨some 17, .call (.c (.fn 84 [] [])) [(.t 11), (.t 16)], none⟩, [10]),
            (⟨some 23, .call (.c (.fn 84 [] [])) [(.t 17), (.t 22)], none⟩, []),
            (⟨some 3, .op (.mv (.t 23)), none⟩, [])])) (
         .reg [0, 3, 4] [
           ⟨some 9, .op (.mv (.t 4)), none⟩,
           ⟨some 10, .op (.bin .add (.t 9) (.c (.int .i64 1))), none⟩,
           ⟨some 4, .op (.mv (.t 10)), none⟩])))))) (
    .seq (
     .reg [2] [
       ⟨some 24, .op (.mv (.t 3)), none⟩,
       ⟨some 2, .op (.mv (.t 24)), none⟩]) (
     .ret))))
theorem cf66 : compF Try.prog Try.f66 h66 = some (ac66, rs66) := by kernel_rfl

/-! mailcoach/ranges.Remove params 2 -/
def h67 : Hints := ⟨[(12, [4]), (11, [3, 5, 8, 9, 10]), (10, [3, 5, 8, 9, 10]), (9, [3, 5, 7, 8, 9, 10, 54]), (8, [3, 5, 7, 8, 9, 10]), (7, [3, 5, 7, 8, 9, 10, 41]), (6, [3, 5, 8, 9, 10]), (5, [3, 5, 7, 8, 9, 10, 32]), (4, [3, 5, 7, 8, 9, 10]), (3, [3, 5, 8, 9, 10, 11]), (2, [3, 5, 8, 9, 10]), (1, [0, 3, 5]), (0, [0, 3])], [(3, [3, 5, 8, 9, 10])], []⟩
def rs67 : List ARes := [.t 4]
def ac67 : ACode :=
 .seq (
  .reg [0, 3] [
    ⟨some 3, .op (.box (.t 1)), none⟩,
    ⟨some 4, .op (.mv (.c (.nilsl))), none⟩]) (
  .seq (
   .reg [0, 3, 5] [
     ⟨some 5, .op (.mv (.c (.nilsl))), none⟩]) (
   .seq (
    .seq (
     .reg [3, 5, 8, 9, 10] [
       ⟨some 8, .op (.mv (.t 0)), none⟩,
       ⟨some 9, .op (.len 1 (.t 8)), none⟩,
       ⟨some 10, .op (.mv (.c (.int .i64 0))), none⟩]) (
     .block 0 (
      .loop [3, 5, 8, 9, 10] (
       .seq (
        .reg [3, 5, 8, 9, 10, 11] [
          ⟨some 11, .op (.bin .lss (.t 10) (.t 9)), none⟩]) (
        .seq (
         .cond (.t 11) (
          .skip) (
          .exit 0)) (
         .seq (
          .block 1 (
           .seq (
            .reg [3, 5, 7, 8, 9, 10] [
              ⟨some 12, .op (.idxAddr 2 (.t 8) (.t 10)), none⟩,
              ⟨some 13, .op (.ldn 2 (.t 12)), none⟩,
              ⟨some 7, .op (.alloc [.int .u64 0, .int .u64 0]), none⟩,
              ⟨none, .op (.st 2 (.t 7) (.t 13)), none⟩]) (
            .seq (
             .seq (
              .reg [3, 5, 7, 8, 9, 10, 32] [
                ⟨some 14, .op (.fieldAddr 0 (.t 3)), none⟩,
                ⟨some 15, .op (.ld1 (.t 14)), none⟩,
                ⟨some 16, .op (.fieldAddr 1 (.t 3)), none⟩,
                ⟨some 17, .op (.ld1 (.t 16)), none⟩,
                ⟨some 18, .op (.bin .geq (.t 15) (.t 17)), none⟩,
                ⟨some 19, .op (.mv (.t 18)), none⟩,
                ⟨some 20, .op (.fieldAddr 1 (.t 7)), some (19, false)⟩,
                ⟨some 21, .op (.ld1 (.t 20)), some (19, false)⟩,
                ⟨some 22, .op (.fieldAddr 0 (.t 3)), some (19, false)⟩,
                ⟨some 23, .op (.ld1 (.t 22)), some (19, false)⟩,
                ⟨some 24, .op (.bin .leq (.t 21) (.t 23)), some (19, false)⟩,
                ⟨some 25, .pick (.t 19) (.c (.bool true)) (.t 24), none⟩,
                ⟨some 26, .op (.mv (.t 25)), none⟩,
                ⟨some 27, .op (.fieldAddr 1 (.t 3)), some (26, false)⟩,
                ⟨some 28, .op (.ld1 (.t 27)), some (26, false)⟩,
                ⟨some 29, .op (.fieldAddr 0 (.t 7)), some (26, false)⟩,
                ⟨some 30, .op (.ld1 (.t 29)), some (26, false)⟩,
                ⟨some 31, .op (.bin .leq (.t 28) (.t 30)), some (26, false)⟩,
                ⟨some 32, .pick (.t 26) (.c (.bool true)) (.t 31), none⟩]) (
              .cond (.t 32) (
               .seq (
                .reg [3, 5, 8, 9, 10] [
                  ⟨some 33, .op (.mv (.t 5)), none⟩,
                  ⟨some 34, .op (.ldn 2 (.t 7)), none⟩,
                  ⟨some 35, .op (.buildSl 2 [.int .u64 0, .int .u64 0] 1 [(0, (.t 34))]), none⟩,
                  ⟨some 36, .op (.append 2 16 (.t 33) (.t 35)), none⟩,
                  ⟨some 5, .op (.mv (.t 36)), none⟩]) (
                .exit 1)) (
               .skip))) (
             .seq (
              .seq (
               .reg [3, 5, 7, 8, 9, 10, 41] [
                 ⟨some 37, .op (.fieldAddr 0 (.t 7)), none⟩,
                 ⟨some 38, .op (.ld1 (.t 37)), none⟩,
                 ⟨some 39, .op (.fieldAddr 0 (.t 3)), none⟩,
                 ⟨some 40, .op (.ld1 (.t 39)), none⟩,
                 ⟨some 41, .op (.bin .lss (.t 38) (.t 40)), none⟩]) (
               .cond (.t 41) (
                .reg [3, 5, 7, 8, 9, 10] [
                  ⟨some 42, .op (.mv (.t 5)), none⟩,
                  ⟨some 43, .op (.fieldAddr 0 (.t 7)), none⟩,
                  ⟨some 44, .op (.ld1 (.t 43)), none⟩,
                  ⟨some 45, .op (.fieldAddr 0 (.t 3)), none⟩,
                  ⟨some 46, .op (.ld1 (.t 45)), none⟩,
                  ⟨some 47, .op (.build [.int .u64 0, .int .u64 0] [(0, 1, (.t 44)), (1, 1, (.t 46))]), none⟩,
                  ⟨some 48, .op (.buildSl 2 [.int .u64 0, .int .u64 0] 1 [(0, (.t 47))]), none⟩,
                  ⟨some 49, .op (.append 2 16 (.t 42) (.t 48)), none⟩,
                  ⟨some 5, .op (.mv (.t 49)), none⟩]) (
                .skip))) (
              .seq (
               .reg [3, 5, 7, 8, 9, 10, 54] [
                 ⟨some 50, .op (.fieldAddr 1 (.t 3)), none⟩,
                 ⟨some 51, .op (.ld1 (.t 50)), none⟩,
                 ⟨some 52, .op (.fieldAddr 1 (.t 7)), none⟩,
                 ⟨some 53, .op (.ld1 (.t 52)), none⟩,
                 ⟨some 54, .op (.bin .lss (.t 51) (.t 53)), none⟩]) (
               .cond (.t 54) (
                .reg [3, 5, 8, 9, 10] [
                  ⟨some 55, .op (.mv (.t 5)), none⟩,
                  ⟨some 56, .op (.fieldAddr 1 (.t 3)), none⟩,
                  ⟨some 57, .op (.ld1 (.t 56)), none⟩,
                  ⟨some 58, .op (.fieldAddr 1 (.t 7)), none⟩,
                  ⟨some 59, .op (.ld1 (.t 58)), none⟩,
                  ⟨some 60, .op (.build [.int .u64 0, .int .u64 0] [(0, 1, (.t 57)), (1, 1, (.t 59))]), none⟩,
                  ⟨some 61, .op (.buildSl 2 [.int .u64 0, .int .u64 0] 1 [(0, (.t 60))]), none⟩,
                  ⟨some 62, .op (.append 2 16 (.t 55) (.t 61)), none⟩,
                  ⟨some 5, .op (.mv (.t 62)), none⟩]) (
                .skip))))))) (
          .reg [3, 5, 8, 9, 10] [
            ⟨some 63, .op (.bin .add (.t 10) (.c (.int .i64 1))), none⟩,
            ⟨some 10, .op (.mv (.t 63)), none⟩]))))))) (
    .seq (
     .reg [4] [
       ⟨some 64, .op (.mv (.t 5)), none⟩,
       ⟨some 4, .op (.mv (.t 64)), none⟩]) (
     .ret))))
theorem cf67 : compF Try.prog Try.f67 h67 = some (ac67, rs67) := by kernel_rfl

/-! slices.Clone[[]mailcoach/api.Range,mailcoach/api.Range] params 1 -/
def h68 : Hints := ⟨[(3, [2]), (2, [2]), (1, [0, 4]), (0, [0])], [], []⟩
def rs68 : List ARes := [.t 2]
def ac68 : ACode :=
 .seq (
  .reg [0] [
    ⟨some 2, .op (.mv (.c (.nilsl))), none⟩]) (
  .seq (
   .seq (
    .reg [0, 4] [
      ⟨some 3, .op (.mv (.t 0)), none⟩,
      ⟨some 4, .op (.eqn 1 false (.t 3) (.c (.nilsl))), none⟩]) (
    .cond (.t 4) (
     .seq (
      .reg [2] [
        ⟨some 2, .op (.mv (.c (.nilsl))), none⟩]) (
      .ret)) (
     .skip))) (
   .seq (
    .reg [2] [
      ⟨some 5, .op (.buildSl 2 [.int .u64 0, .int .u64 0] 0 []), none⟩,
      ⟨some 6, .op (.mv (.t 0)), none⟩,
      ⟨some 7, .op (.append 2 16 (.t 5) (.t 6)), none⟩,
      ⟨some 2, .op (.mv (.t 7)), none⟩]) (
    .ret)))
theorem cf68 : compF Try.prog Try.f68 h68 = some (ac68, rs68) := by kernel_rfl

/-! mailcoach/ranges.Add params 2 -/
def h69 : Hints := ⟨[(8, [4]), (7, [0, 3, 5, 6]), (6, [0, 3, 5, 6]), (5, [0, 3, 5, 6, 32]), (4, [0, 3, 5, 6]), (3, [0, 3, 5]), (2, [4]), (1, [0, 3, 11]), (0, [0, 3])], [(5, [0, 3, 5, 6])], [(5, [(0, []), (1, []), (2, []), (3, []), (4, []), (5, []), (6, []), (7, []), (8, []), (9, []), (10, []), (11, []), (12, []), (13, [])]), (6, [(0, []), (1, []), (2, []), (3, []), (4, []), (5, []), (6, []), (7, []), (8, []), (9, []), (10, []), (11, []), (12, []), (13, []), (14, []), (15, []), (16, []), (17, [14]), (18, []), (19, [])]), (8, [(0, []), (1, []), (2, []), (3, []), (4, []), (5, []), (6, []), (7, []), (8, []), (9, []), (10, [])])]⟩
def rs69 : List ARes := [.t 4]
def ac69 : ACode :=
 .seq (
  .reg [0, 3] [
    ⟨some 3, .op (.box (.t 1)), none⟩,
    ⟨some 4, .op (.mv (.c (.nilsl))), none⟩]) (
  .seq (
   .seq (
    .reg [0, 3, 11] [
      ⟨some 7, .op (.fieldAddr 0 (.t 3)), none⟩,
      ⟨some 8, .op (.ld1 (.t 7)), none⟩,
      ⟨some 9, .op (.fieldAddr 1 (.t 3)), none⟩,
      ⟨some 10, .op (.ld1 (.t 9)), none⟩,
      ⟨some 11, .op (.bin .geq (.t 8) (.t 10)), none⟩]) (
    .cond (.t 11) (
     .seq (
      .reg [4] [
        ⟨some 12, .op (.mv (.t 0)), none⟩,
        ⟨some 13, .call (.c (.fn 68 [] [])) [(.t 12)], none⟩,
        ⟨some 4, .op (.mv (.t 13)), none⟩]) (
      .ret)) (
     .skip))) (
   .seq (
    .reg [0, 3, 5] [
      ⟨some 14, .op (.mv (.t 0)), none⟩,
      ⟨some 15, .op (.fieldAddr 0 (.t 3)), none⟩,
      ⟨some 16, .op (.ld1 (.t 15)), none⟩,
      ⟨some 17, .call (.c (.fn 72 [] [])) [(.t 14), (.t 16)], none⟩,
      ⟨some 5, .op (.mv (.t 17)), none⟩]) (
    .seq (
     .reg [0, 3, 5, 6] [
       ⟨some 18, .op (.mv (.t 5)), none⟩,
       ⟨some 6, .op (.mv (.t 18)), none⟩]) (
     .seq (
      .block 0 (
       .loop [0, 3, 5, 6] (
        .seq (
         .seq (
          .dreg [0, 3, 5, 6, 32] [
            (⟨some 19, .op (.mv (.t 6)), none⟩, []),
            (⟨some 20, .op (.mv (.t 0)), none⟩, []),
            (⟨some 21, .op (.len 1 (.t 20)), none⟩, []),
            (⟨some 22, .op (.bin .lss (.t 19) (.t 21)), none⟩, []),
            (⟨some 23, .op (.mv (.t 22)), none⟩, []),
            (⟨some 24, .op (.mv (.t 0)), some (23, true)⟩, []),
            (⟨some 25, .op (.mv (.t 6)), some (23, true)⟩, []),
            (⟨some 26, .op (.idxAddr 2 (.t 24) (.t 25)), some (23, true)⟩, []),
            (⟨some 27, .op (.fieldAddr 0 (.t 26)), some (23, true)⟩, []),
            (⟨some 28, .op (.ld1 (.t 27)), some (23, true)⟩, []),
            (⟨some 29, .op (.fieldAddr 1 (.t 3)), some (23, true)⟩, []),
            (⟨some 30, .op (.ld1 (.t 29)), some (23, true)⟩, []),
            (⟨some 31, .op (.bin .leq (.t 28) (.t 30)), some (23, true)⟩, []),
            (⟨some 32, .pick (.t 23) (.t 31) (.c (.bool false)), none⟩, [])]) (
          .cond (.t 32) (
           .skip) (
           .exit 0))) (
         .block 1 (
          .seq (
           .dreg [0, 3, 5, 6] [
             (⟨some 33, .op (.fieldAddr 0 (.t 3)), none⟩, []),
             (⟨some 34, .op (.ld1 (.t 33)), none⟩, []),
             (⟨some 35, .op (.mv (.t 0)), none⟩, []),
             (⟨some 36, .op (.mv (.t 6)), none⟩, []),
             (⟨some 37, .op (.idxAddr 2 (.t 35) (.t 36)), none⟩, []),
             (⟨some 38, .op (.fieldAddr 0 (.t 37)), none⟩, []),
             (⟨some 39, .op (.ld1 (.t 38)), none⟩, []),
             (⟨some 40, .op (.minmax false (.t 34) (.t 39)), none⟩, []),
             (⟨some 41, .op (.fieldAddr 1 (.t 3)), none⟩, []),
             (⟨some 42, .op (.ld1 (.t 41)), none⟩, []),
             (⟨some 43, .op (.mv (.t 0)), none⟩, []),
             (⟨some 44, .op (.mv (.t 6)), none⟩, []),
             (⟨some 45, .op (.idxAddr 2 (.t 43) (.t 44)), none⟩, []),
             (⟨some 46, .op (.fieldAddr 1 (.t 45)), none⟩, []),
             (⟨some 47, .op (.ld1 (.t 46)), none⟩, []),
             (⟨some 48, .op (.minmax true (.t 42) (.t 47)), none⟩, []),
             (⟨some 49, .op (.fieldAddr 0 (.t 3)), none⟩, []),
             (⟨none, .op (.st 1 (.t 49) (.t 40)), none⟩, [14]),
             (⟨some 50, .op (.fieldAddr 1 (.t 3)), none⟩, []),
             (⟨none, .op (.st 1 (.t 50) (.t 48)), none⟩, [])]) (
           .reg [0, 3, 5, 6] [
             ⟨some 51, .op (.mv (.t 6)), none⟩,
             ⟨some 52, .op (.bin .add (.t 51) (.c (.int .i64 1))), none⟩,
             ⟨some 6, .op (.mv (.t 52)), none⟩])))))) (
      .seq (
       .dreg [4] [
         (⟨some 53, .op (.mv (.t 0)), none⟩, []),
         (⟨some 54, .op (.mv (.t 5)), none⟩, []),
         (⟨some 55, .op (.slice 2 (.t 53) none (some (.t 54)) none), none⟩, []),
         (⟨some 56, .op (.ldn 2 (.t 3)), none⟩, []),
         (⟨some 57, .op (.buildSl 2 [.int .u64 0, .int .u64 0] 1 [(0, (.t 56))]), none⟩, []),
         (⟨some 58, .op (.mv (.t 0)), none⟩, []),
         (⟨some 59, .op (.mv (.t 6)), none⟩, []),
         (⟨some 60, .op (.slice 2 (.t 58) (some (.t 59)) none none), none⟩, []),
         (⟨some 61, .op (.buildSl 1 [.nilsl] 3 [(0, (.t 55)), (1, (.t 57)), (2, (.t 60))]), none⟩, []),
         (⟨some 62, .call (.c (.fn 85 [] [])) [(.t 61)], none⟩, []),
         (⟨some 4, .op (.mv (.t 62)), none⟩, [])]) (
       .ret))))))
theorem cf69 : compF Try.prog Try.f69 h69 = some (ac69, rs69) := by kernel_rfl

/-! mailcoach/ranges.behind params 2 -/
def h72 : Hints := ⟨[(2, [4]), (1, [5]), (0, [0, 1])], [], []⟩
def rs72 : List ARes := [.t 4]
def ac72 : ACode :=
 .seq (
  .reg [0, 1] [
    ⟨some 4, .op (.mv (.c (.int .i64 0))), none⟩]) (
  .seq (
   .reg [5] [
     ⟨some 8, .op (.mv (.t 0)), none⟩,
     ⟨some 9, .op (.mv (.t 1)), none⟩,
     ⟨some 10, .call (.c (.fn 86 [] [])) [(.t 8), (.t 9), (.c (.fn 87 [] []))], none⟩,
     ⟨some 7, .op (.mv (.t 10)), none⟩,
     ⟨some 11, .op (.extract (.t 7) 0), none⟩,
     ⟨some 12, .op (.extract (.t 7) 1), none⟩,
     ⟨some 5, .op (.mv (.t 11)), none⟩,
     ⟨some 6, .op (.mv (.t 12)), none⟩]) (
   .seq (
    .reg [4] [
      ⟨some 13, .op (.mv (.t 5)), none⟩,
      ⟨some 4, .op (.mv (.t 13)), none⟩]) (
    .ret)))
theorem cf72 : compF Try.prog Try.f72 h72 = some (ac72, rs72) := by kernel_rfl

/-! cmp.isNaN[uint64] params 1 -/
def h73 : Hints := ⟨[(1, [2]), (0, [0])], [], []⟩
def rs73 : List ARes := [.t 2]
def ac73 : ACode :=
 .seq (
  .reg [0] [
    ⟨some 2, .op (.mv (.c (.bool false))), none⟩]) (
  .seq (
   .reg [2] [
     ⟨some 3, .op (.mv (.t 0)), none⟩,
     ⟨some 4, .op (.mv (.t 0)), none⟩,
     ⟨some 5, .op (.bin .neq (.t 3) (.t 4)), none⟩,
     ⟨some 2, .op (.mv (.t 5)), none⟩]) (
   .ret))
theorem cf73 : compF Try.prog Try.f73 h73 = some (ac73, rs73) := by kernel_rfl

/-! mailcoach/ledgers.size params 2 -/
def h74 : Hints := ⟨[(3, [4]), (2, [4]), (1, [1, 2, 6]), (0, [1, 2])], [], []⟩
def rs74 : List ARes := [.t 4]
def ac74 : ACode :=
 .seq (
  .reg [1, 2] [
    ⟨some 2, .op (.box (.t 0)), none⟩,
    ⟨some 4, .op (.mv (.c (.int .u64 0))), none⟩]) (
  .seq (
   .seq (
    .reg [1, 2, 6] [
      ⟨some 5, .op (.fieldAddr 1 (.t 2)), none⟩,
      ⟨some 6, .op (.ld1 (.t 5)), none⟩]) (
    .cond (.t 6) (
     .seq (
      .reg [4] [
        ⟨some 7, .op (.fieldAddr 2 (.t 2)), none⟩,
        ⟨some 8, .op (.ld1 (.t 7)), none⟩,
        ⟨some 4, .op (.mv (.t 8)), none⟩]) (
      .ret)) (
     .skip))) (
   .seq (
    .reg [4] [
      ⟨some 9, .op (.mv (.t 1)), none⟩,
      ⟨some 4, .op (.mv (.t 9)), none⟩]) (
    .ret)))
theorem cf74 : compF Try.prog Try.f74 h74 = some (ac74, rs74) := by kernel_rfl

/-! mailcoach/ledgers.at params 2 -/
def h75 : Hints := ⟨[(5, [4]), (2, [4]), (4, [4]), (3, [2, 10]), (1, [1, 2, 5]), (0, [1, 2])], [], []⟩
def rs75 : List ARes := [.t 4]
def ac75 : ACode :=
 .seq (
  .reg [1, 2] [
    ⟨some 2, .op (.box (.t 0)), none⟩,
    ⟨some 4, .op (.mv (.c (.int .u64 0))), none⟩]) (
  .seq (
   .block 0 (
    .seq (
     .reg [1, 2, 5] [
       ⟨some 6, .op (.fieldAddr 0 (.t 2)), none⟩,
       ⟨some 7, .op (.ld1 (.t 6)), none⟩,
       ⟨some 8, .op (.mv (.t 1)), none⟩,
       ⟨some 9, .op (.bin .lss (.t 7) (.t 8)), none⟩,
       ⟨some 5, .op (.mv (.t 9)), none⟩]) (
     .cond (.t 5) (
      .seq (
       .reg [4] [
         ⟨some 4, .op (.mv (.c (.int .u64 0))), none⟩]) (
       .ret)) (
      .seq (
       .reg [2, 10] [
         ⟨some 11, .op (.fieldAddr 0 (.t 2)), none⟩,
         ⟨some 12, .op (.ld1 (.t 11)), none⟩,
         ⟨some 13, .op (.mv (.t 1)), none⟩,
         ⟨some 14, .op (.bin .gtr (.t 12) (.t 13)), none⟩,
         ⟨some 10, .op (.mv (.t 14)), none⟩]) (
       .cond (.t 10) (
        .seq (
         .reg [4] [
           ⟨some 4, .op (.mv (.c (.int .u64 18446744073709551615))), none⟩]) (
         .ret)) (
        .skip)))))) (
   .seq (
    .reg [4] [
      ⟨some 15, .op (.fieldAddr 1 (.t 2)), none⟩,
      ⟨some 16, .op (.ld1 (.t 15)), none⟩,
      ⟨some 4, .op (.mv (.t 16)), none⟩]) (
    .ret)))
theorem cf75 : compF Try.prog Try.f75 h75 = some (ac75, rs75) := by kernel_rfl

/-! slices.IndexFunc[[]mailcoach/api.Held,mailcoach/api.Held] params 2 -/
def h76 : Hints := ⟨[(7, [4]), (6, [0, 1, 7, 8]), (5, [4]), (4, [0, 1, 5, 7, 8, 16]), (3, [0, 1, 5, 7, 8]), (2, [0, 1, 7, 8, 9]), (1, [0, 1, 7, 8]), (0, [0, 1])], [(2, [0, 1, 7, 8])], []⟩
def rs76 : List ARes := [.t 4]
def ac76 : ACode :=
 .seq (
  .reg [0, 1] [
    ⟨some 4, .op (.mv (.c (.int .i64 0))), none⟩]) (
  .seq (
   .seq (
    .reg [0, 1, 7, 8] [
      ⟨some 6, .op (.mv (.t 0)), none⟩,
      ⟨some 7, .op (.len 1 (.t 6)), none⟩,
      ⟨some 8, .op (.mv (.c (.int .i64 0))), none⟩]) (
    .block 0 (
     .loop [0, 1, 7, 8] (
      .seq (
       .reg [0, 1, 7, 8, 9] [
         ⟨some 9, .op (.bin .lss (.t 8) (.t 7)), none⟩]) (
       .seq (
        .cond (.t 9) (
         .skip) (
         .exit 0)) (
        .seq (
         .block 1 (
          .seq (
           .reg [0, 1, 5, 7, 8] [
             ⟨some 10, .op (.mv (.t 8)), none⟩,
             ⟨some 5, .op (.mv (.t 10)), none⟩]) (
           .seq (
            .reg [0, 1, 5, 7, 8, 16] [
              ⟨some 11, .op (.mv (.t 1)), none⟩,
              ⟨some 12, .op (.mv (.t 0)), none⟩,
              ⟨some 13, .op (.mv (.t 5)), none⟩,
              ⟨some 14, .op (.idxAddr 2 (.t 12) (.t 13)), none⟩,
              ⟨some 15, .op (.ldn 2 (.t 14)), none⟩,
              ⟨some 16, .call (.t 11) [(.t 15)], none⟩]) (
            .cond (.t 16) (
             .seq (
              .reg [4] [
                ⟨some 17, .op (.mv (.t 5)), none⟩,
                ⟨some 4, .op (.mv (.t 17)), none⟩]) (
              .ret)) (
             .skip))))) (
         .reg [0, 1, 7, 8] [
           ⟨some 18, .op (.bin .add (.t 8) (.c (.int .i64 1))), none⟩,
           ⟨some 8, .op (.mv (.t 18)), none⟩]))))))) (
   .seq (
    .reg [4] [
      ⟨some 4, .op (.mv (.c (.int .i64 (-1)))), none⟩]) (
    .ret)))
theorem cf76 : compF Try.prog Try.f76 h76 = some (ac76, rs76) := by kernel_rfl

/-! (*mailcoach/pack.Writer).U64 params 2 -/
def h77 : Hints := ⟨[(0, [])], [], []⟩
def rs77 : List ARes := []
def ac77 : ACode :=
 .reg [] [
   ⟨some 4, .op (.mv (.t 0)), none⟩,
   ⟨some 5, .op (.mv (.t 1)), none⟩,
   ⟨some 6, .call (.c (.fn 88 [] [])) [(.t 4), (.t 5), (.c (.int .i64 8))], none⟩]
theorem cf77 : compF Try.prog Try.f77 h77 = some (ac77, rs77) := by kernel_rfl

/-! (*mailcoach/pack.Writer).U16 params 2 -/
def h78 : Hints := ⟨[(0, [])], [], []⟩
def rs78 : List ARes := []
def ac78 : ACode :=
 .reg [] [
   ⟨some 4, .op (.mv (.t 0)), none⟩,
   ⟨some 5, .op (.mv (.t 1)), none⟩,
   ⟨some 6, .op (.toInt .u64 (.t 5)), none⟩,
   ⟨some 7, .call (.c (.fn 88 [] [])) [(.t 4), (.t 6), (.c (.int .i64 2))], none⟩]
theorem cf78 : compF Try.prog Try.f78 h78 = some (ac78, rs78) := by kernel_rfl

/-! slices.Clone[[]byte,byte] params 1 -/
def h79 : Hints := ⟨[(3, [2]), (2, [2]), (1, [0, 4]), (0, [0])], [], []⟩
def rs79 : List ARes := [.t 2]
def ac79 : ACode :=
 .seq (
  .reg [0] [
    ⟨some 2, .op (.mv (.c (.nilsl))), none⟩]) (
  .seq (
   .seq (
    .reg [0, 4] [
      ⟨some 3, .op (.mv (.t 0)), none⟩,
      ⟨some 4, .op (.eqn 1 false (.t 3) (.c (.nilsl))), none⟩]) (
    .cond (.t 4) (
     .seq (
      .reg [2] [
        ⟨some 2, .op (.mv (.c (.nilsl))), none⟩]) (
      .ret)) (
     .skip))) (
   .seq (
    .reg [2] [
      ⟨some 5, .op (.buildSl 1 [.int .u8 0] 0 []), none⟩,
      ⟨some 6, .op (.mv (.t 0)), none⟩,
      ⟨some 7, .op (.append 1 1 (.t 5) (.t 6)), none⟩,
      ⟨some 2, .op (.mv (.t 7)), none⟩]) (
    .ret)))
theorem cf79 : compF Try.prog Try.f79 h79 = some (ac79, rs79) := by kernel_rfl

/-! mailcoach/pack.Read$1 params 1 -/
def h80 : Hints := ⟨[(4, []), (7, []), (6, [0, 2]), (2, []), (1, [3]), (5, [0, 4, 8, 9]), (3, [0, 4, 6]), (0, [0, 4])], [], []⟩
def rs80 : List ARes := []
def ac80 : ACode :=
 .seq (
  .reg [0, 4] [
    ⟨some 4, .op (.stuck), none⟩]) (
  .block 0 (
   .seq (
    .reg [0, 4, 6] [
      ⟨some 6, .op (.stuck), none⟩]) (
    .cond (.t 6) (
     .reg [] [
       ⟨some 1, .op (.mv (.t 4)), none⟩]) (
     .seq (
      .reg [0, 4, 8, 9] [
        ⟨some 7, .op (.stuck), none⟩,
        ⟨some 8, .op (.extract (.t 7) 1), none⟩,
        ⟨some 9, .op (.extract (.t 7) 0), none⟩]) (
      .cond (.t 8) (
       .seq (
        .reg [0, 2] [
          ⟨some 2, .op (.alloc [.int .i64 0]), none⟩,
          ⟨none, .op (.st 1 (.t 2) (.t 9)), none⟩]) (
        .reg [] [
          ⟨some 10, .op (.fieldAddr 0 (.t 2)), none⟩,
          ⟨some 11, .op (.ld1 (.t 10)), none⟩,
          ⟨none, .op (.st 1 (.t 0) (.t 11)), none⟩])) (
       .seq (
        .reg [3] [
          ⟨some 3, .op (.mv (.t 4)), none⟩]) (
        .reg [] [
          ⟨some 5, .op (.mv (.t 3)), none⟩,
          ⟨none, .panic (.t 5), none⟩])))))))
theorem cf80 : compF Try.prog Try.f80 h80 = some (ac80, rs80) := by kernel_rfl

/-! (*mailcoach/pack.Reader).U64 params 1 -/
def h81 : Hints := ⟨[(1, [2]), (0, [0])], [], []⟩
def rs81 : List ARes := [.t 2]
def ac81 : ACode :=
 .seq (
  .reg [0] [
    ⟨some 2, .op (.mv (.c (.int .u64 0))), none⟩]) (
  .seq (
   .reg [2] [
     ⟨some 3, .op (.mv (.t 0)), none⟩,
     ⟨some 4, .call (.c (.fn 89 [] [])) [(.t 3), (.c (.int .u64 8))], none⟩,
     ⟨some 2, .op (.mv (.t 4)), none⟩]) (
   .ret))
theorem cf81 : compF Try.prog Try.f81 h81 = some (ac81, rs81) := by kernel_rfl

/-! (*mailcoach/pack.Reader).U16 params 1 -/
def h82 : Hints := ⟨[(1, [2]), (0, [0])], [], []⟩
def rs82 : List ARes := [.t 2]
def ac82 : ACode :=
 .seq (
  .reg [0] [
    ⟨some 2, .op (.mv (.c (.int .u16 0))), none⟩]) (
  .seq (
   .reg [2] [
     ⟨some 3, .op (.mv (.t 0)), none⟩,
     ⟨some 4, .call (.c (.fn 89 [] [])) [(.t 3), (.c (.int .u64 2))], none⟩,
     ⟨some 5, .op (.toInt .u16 (.t 4)), none⟩,
     ⟨some 2, .op (.mv (.t 5)), none⟩]) (
   .ret))
theorem cf82 : compF Try.prog Try.f82 h82 = some (ac82, rs82) := by kernel_rfl

/-! (*mailcoach/pack.Reader).Fail params 2 -/
def h83 : Hints := ⟨[(1, []), (0, [1, 5])], [], []⟩
def rs83 : List ARes := []
def ac83 : ACode :=
 .seq (
  .reg [1, 5] [
    ⟨some 4, .op (.mv (.t 1)), none⟩,
    ⟨some 5, .op (.bin .neq (.t 4) (.c (.int .i64 0))), none⟩]) (
  .cond (.t 5) (
   .reg [] [
     ⟨some 6, .op (.mv (.t 1)), none⟩,
     ⟨some 7, .op (.build [.int .i64 0] [(0, 1, (.t 6))]), none⟩,
     ⟨some 8, .op (.mkIface 115 (.t 7)), none⟩,
     ⟨none, .panic (.t 8), none⟩]) (
   .skip))
theorem cf83 : compF Try.prog Try.f83 h83 = some (ac83, rs83) := by kernel_rfl

/-! mailcoach/mailcoachref03.put params 2 -/
def h84 : Hints := ⟨[(6, [4]), (5, [4]), (4, [0, 1, 5, 31]), (3, [0, 1, 5]), (2, [0, 1, 5, 17]), (1, [0, 1, 5]), (0, [0, 1])], [(2, [0, 1, 5])], [(6, [(0, []), (1, []), (2, []), (3, []), (5, []), (6, []), (8, []), (9, []), (10, []), (4, [8]), (7, [8]), (11, []), (12, [])])]⟩
def rs84 : List ARes := [.t 4]
def ac84 : ACode :=
 .seq (
  .reg [0, 1] [
    ⟨some 4, .op (.mv (.c (.nilsl))), none⟩]) (
  .seq (
   .reg [0, 1, 5] [
     ⟨some 5, .op (.mv (.c (.int .i64 0))), none⟩]) (
   .seq (
    .block 0 (
     .loop [0, 1, 5] (
      .seq (
       .seq (
        .reg [0, 1, 5, 17] [
          ⟨some 6, .op (.mv (.t 5)), none⟩,
          ⟨some 7, .op (.mv (.t 0)), none⟩,
          ⟨some 8, .op (.len 1 (.t 7)), none⟩,
          ⟨some 9, .op (.bin .lss (.t 6) (.t 8)), none⟩,
          ⟨some 10, .op (.mv (.t 9)), none⟩,
          ⟨some 11, .op (.mv (.t 0)), some (10, true)⟩,
          ⟨some 12, .op (.mv (.t 5)), some (10, true)⟩,
          ⟨some 13, .op (.idxAddr 1 (.t 11) (.t 12)), some (10, true)⟩,
          ⟨some 14, .op (.ld1 (.t 13)), some (10, true)⟩,
          ⟨some 15, .op (.mv (.t 1)), some (10, true)⟩,
          ⟨some 16, .op (.bin .lss (.t 14) (.t 15)), some (10, true)⟩,
          ⟨some 17, .pick (.t 10) (.t 16) (.c (.bool false)), none⟩]) (
        .cond (.t 17) (
         .skip) (
         .exit 0))) (
       .block 1 (
        .reg [0, 1, 5] [
          ⟨some 18, .op (.mv (.t 5)), none⟩,
          ⟨some 19, .op (.bin .add (.t 18) (.c (.int .i64 1))), none⟩,
          ⟨some 5, .op (.mv (.t 19)), none⟩]))))) (
    .seq (
     .seq (
      .reg [0, 1, 5, 31] [
        ⟨some 20, .op (.mv (.t 5)), none⟩,
        ⟨some 21, .op (.mv (.t 0)), none⟩,
        ⟨some 22, .op (.len 1 (.t 21)), none⟩,
        ⟨some 23, .op (.bin .lss (.t 20) (.t 22)), none⟩,
        ⟨some 24, .op (.mv (.t 23)), none⟩,
        ⟨some 25, .op (.mv (.t 0)), some (24, true)⟩,
        ⟨some 26, .op (.mv (.t 5)), some (24, true)⟩,
        ⟨some 27, .op (.idxAddr 1 (.t 25) (.t 26)), some (24, true)⟩,
        ⟨some 28, .op (.ld1 (.t 27)), some (24, true)⟩,
        ⟨some 29, .op (.mv (.t 1)), some (24, true)⟩,
        ⟨some 30, .op (.bin .eql (.t 28) (.t 29)), some (24, true)⟩,
        ⟨some 31, .pick (.t 24) (.t 30) (.c (.bool false)), none⟩]) (
      .cond (.t 31) (
       .seq (
        .reg [4] [
          ⟨some 32, .op (.mv (.t 0)), none⟩,
          ⟨some 4, .op (.mv (.t 32)), none⟩]) (
        .ret)) (
       .skip))) (
     .seq (
      .dreg [4] [
        (⟨some 33, .op (.buildSl 1 [.int .u64 0] 0 []), none⟩, []),
        (⟨some 34, .op (.mv (.t 0)), none⟩, []),
        (⟨some 35, .op (.mv (.t 5)), none⟩, []),
        (⟨some 36, .op (.slice 1 (.t 34) none (some (.t 35)) none), none⟩, []),
        (⟨some 38, .op (.mv (.t 1)), none⟩, []),
        (⟨some 39, .op (.buildSl 1 [.int .u64 0] 1 [(0, (.t 38))]), none⟩, []),
        (⟨some 41, .op (.mv (.t 0)), none⟩, []),
        (⟨some 42, .op (.mv (.t 5)), none⟩, []),
        (⟨some 43, .op (.slice 1 (.t 41) (some (.t 42)) none none), none⟩, []),
        (⟨some 37, .op (.append 1 8 (.t 33) (.t 36)), none⟩, [8]),
        (⟨some 40, .op (.append 1 8 (.t 37) (.t 39)), none⟩, [8]),
        (⟨some 44, .op (.append 1 8 (.t 40) (.t 43)), none⟩, []),
        (⟨some 4, .op (.mv (.t 44)), none⟩, [])]) (
      .ret)))))
theorem cf84 : compF Try.prog Try.f84 h84 = some (ac84, rs84) := by kernel_rfl

/-! slices.Concat[[]mailcoach/api.Range,mailcoach/api.Range] params 1 -/
def h85 : Hints := ⟨[(15, [2]), (14, [6, 25, 26, 27]), (13, [6, 25, 26, 27]), (12, [6, 8, 25, 26, 27]), (11, [6, 25, 26, 27, 28]), (10, [6, 25, 26, 27]), (9, [0, 6]), (8, [0, 3, 9, 10, 11]), (7, [0, 3, 9, 10, 11]), (6, [0, 3, 9, 10, 11, 20]), (5, [0, 3, 9, 10, 11]), (4, [0, 3, 5, 9, 10, 11]), (3, [0, 3, 9, 10, 11, 12]), (2, [0, 3, 9, 10, 11]), (1, [0, 3]), (0, [0])], [(11, [6, 25, 26, 27]), (3, [0, 3, 9, 10, 11])], []⟩
def rs85 : List ARes := [.t 2]
def ac85 : ACode :=
 .seq (
  .reg [0] [
    ⟨some 2, .op (.mv (.c (.nilsl))), none⟩]) (
  .seq (
   .reg [0, 3] [
     ⟨some 3, .op (.mv (.c (.int .i64 0))), none⟩]) (
   .seq (
    .seq (
     .reg [0, 3, 9, 10, 11] [
       ⟨some 9, .op (.mv (.t 0)), none⟩,
       ⟨some 10, .op (.len 1 (.t 9)), none⟩,
       ⟨some 11, .op (.mv (.c (.int .i64 0))), none⟩]) (
     .block 0 (
      .loop [0, 3, 9, 10, 11] (
       .seq (
        .reg [0, 3, 9, 10, 11, 12] [
          ⟨some 12, .op (.bin .lss (.t 11) (.t 10)), none⟩]) (
        .seq (
         .cond (.t 12) (
          .skip) (
          .exit 0)) (
         .seq (
          .block 1 (
           .seq (
            .reg [0, 3, 5, 9, 10, 11] [
              ⟨some 13, .op (.idxAddr 1 (.t 9) (.t 11)), none⟩,
              ⟨some 14, .op (.ld1 (.t 13)), none⟩,
              ⟨some 5, .op (.mv (.t 14)), none⟩]) (
            .seq (
             .reg [0, 3, 9, 10, 11] [
               ⟨some 15, .op (.mv (.t 3)), none⟩,
               ⟨some 16, .op (.mv (.t 5)), none⟩,
               ⟨some 17, .op (.len 1 (.t 16)), none⟩,
               ⟨some 18, .op (.bin .add (.t 15) (.t 17)), none⟩,
               ⟨some 3, .op (.mv (.t 18)), none⟩]) (
             .seq (
              .reg [0, 3, 9, 10, 11, 20] [
                ⟨some 19, .op (.mv (.t 3)), none⟩,
                ⟨some 20, .op (.bin .lss (.t 19) (.c (.int .i64 0))), none⟩]) (
              .cond (.t 20) (
               .reg [0, 3, 9, 10, 11] [
                 ⟨some 21, .op (.mkIface 9 (.c (.str ⟨#[108, 101, 110, 32, 111, 117, 116, 32, 111, 102, 32, 114, 97, 110, 103, 101]⟩))), none⟩,
                 ⟨none, .panic (.t 21), none⟩]) (
               .skip)))))) (
          .reg [0, 3, 9, 10, 11] [
            ⟨some 22, .op (.bin .add (.t 11) (.c (.int .i64 1))), none⟩,
            ⟨some 11, .op (.mv (.t 22)), none⟩]))))))) (
    .seq (
     .reg [0, 6] [
       ⟨some 23, .op (.mv (.t 3)), none⟩,
       ⟨some 24, .call (.c (.fn 90 [] [])) [(.c (.nilsl)), (.t 23)], none⟩,
       ⟨some 6, .op (.mv (.t 24)), none⟩]) (
     .seq (
      .seq (
       .reg [6, 25, 26, 27] [
         ⟨some 25, .op (.mv (.t 0)), none⟩,
         ⟨some 26, .op (.len 1 (.t 25)), none⟩,
         ⟨some 27, .op (.mv (.c (.int .i64 0))), none⟩]) (
       .block 2 (
        .loop [6, 25, 26, 27] (
         .seq (
          .reg [6, 25, 26, 27, 28] [
            ⟨some 28, .op (.bin .lss (.t 27) (.t 26)), none⟩]) (
          .seq (
           .cond (.t 28) (
            .skip) (
            .exit 2)) (
           .seq (
            .block 3 (
             .seq (
              .reg [6, 8, 25, 26, 27] [
                ⟨some 29, .op (.idxAddr 1 (.t 25) (.t 27)), none⟩,
                ⟨some 30, .op (.ld1 (.t 29)), none⟩,
                ⟨some 8, .op (.mv (.t 30)), none⟩]) (
              .reg [6, 25, 26, 27] [
                ⟨some 31, .op (.mv (.t 6)), none⟩,
                ⟨some 32, .op (.mv (.t 8)), none⟩,
                ⟨some 33, .op (.append 2 16 (.t 31) (.t 32)), none⟩,
                ⟨some 6, .op (.mv (.t 33)), none⟩]))) (
            .reg [6, 25, 26, 27] [
              ⟨some 34, .op (.bin .add (.t 27) (.c (.int .i64 1))), none⟩,
              ⟨some 27, .op (.mv (.t 34)), none⟩]))))))) (
      .seq (
       .reg [2] [
         ⟨some 35, .op (.mv (.t 6)), none⟩,
         ⟨some 2, .op (.mv (.t 35)), none⟩]) (
       .ret))))))
theorem cf85 : compF Try.prog Try.f85 h85 = some (ac85, rs85) := by kernel_rfl

/-! slices.BinarySearchFunc[[]mailcoach/api.Range,mailcoach/api.Range,uint64] params 3 -/
def h86 : Hints := ⟨[(8, [6, 7]), (6, [0, 1, 2, 8, 9, 10]), (7, [0, 1, 2, 8, 9, 10]), (5, [0, 1, 2, 8, 9, 10, 11, 31]), (4, [0, 1, 2, 8, 9, 10, 11]), (3, [0, 1, 2, 8, 9, 10, 17]), (2, [0, 1, 2, 8, 9, 10]), (1, [0, 1, 2, 8]), (0, [0, 1, 2])], [(3, [0, 1, 2, 8, 9, 10])], []⟩
def rs86 : List ARes := [.t 6, .t 7]
def ac86 : ACode :=
 .seq (
  .reg [0, 1, 2] [
    ⟨some 6, .op (.mv (.c (.int .i64 0))), none⟩,
    ⟨some 7, .op (.mv (.c (.bool false))), none⟩]) (
  .seq (
   .reg [0, 1, 2, 8] [
     ⟨some 12, .op (.mv (.t 0)), none⟩,
     ⟨some 13, .op (.len 1 (.t 12)), none⟩,
     ⟨some 8, .op (.mv (.t 13)), none⟩]) (
   .seq (
    .reg [0, 1, 2, 8, 9, 10] [
      ⟨some 14, .op (.mv (.t 8)), none⟩,
      ⟨some 9, .op (.mv (.c (.int .i64 0))), none⟩,
      ⟨some 10, .op (.mv (.t 14)), none⟩]) (
    .seq (
     .block 0 (
      .loop [0, 1, 2, 8, 9, 10] (
       .seq (
        .seq (
         .reg [0, 1, 2, 8, 9, 10, 17] [
           ⟨some 15, .op (.mv (.t 9)), none⟩,
           ⟨some 16, .op (.mv (.t 10)), none⟩,
           ⟨some 17, .op (.bin .lss (.t 15) (.t 16)), none⟩]) (
         .cond (.t 17) (
          .skip) (
          .exit 0))) (
        .block 1 (
         .seq (
          .reg [0, 1, 2, 8, 9, 10, 11] [
            ⟨some 18, .op (.mv (.t 9)), none⟩,
            ⟨some 19, .op (.mv (.t 10)), none⟩,
            ⟨some 20, .op (.bin .add (.t 18) (.t 19)), none⟩,
            ⟨some 21, .op (.toInt .u64 (.t 20)), none⟩,
            ⟨some 22, .op (.bin .shr (.t 21) (.c (.int .u64 1))), none⟩,
            ⟨some 23, .op (.toInt .i64 (.t 22)), none⟩,
            ⟨some 11, .op (.mv (.t 23)), none⟩]) (
          .seq (
           .reg [0, 1, 2, 8, 9, 10, 11, 31] [
             ⟨some 24, .op (.mv (.t 2)), none⟩,
             ⟨some 25, .op (.mv (.t 0)), none⟩,
             ⟨some 26, .op (.mv (.t 11)), none⟩,
             ⟨some 27, .op (.idxAddr 2 (.t 25) (.t 26)), none⟩,
             ⟨some 28, .op (.ldn 2 (.t 27)), none⟩,
             ⟨some 29, .op (.mv (.t 1)), none⟩,
             ⟨some 30, .call (.t 24) [(.t 28), (.t 29)], none⟩,
             ⟨some 31, .op (.bin .lss (.t 30) (.c (.int .i64 0))), none⟩]) (
           .cond (.t 31) (
            .reg [0, 1, 2, 8, 9, 10] [
              ⟨some 32, .op (.mv (.t 11)), none⟩,
              ⟨some 33, .op (.bin .add (.t 32) (.c (.int .i64 1))), none⟩,
              ⟨some 9, .op (.mv (.t 33)), none⟩]) (
            .reg [0, 1, 2, 8, 9, 10] [
              ⟨some 34, .op (.mv (.t 11)), none⟩,
              ⟨some 10, .op (.mv (.t 34)), none⟩])))))))) (
     .seq (
      .reg [6, 7] [
        ⟨some 35, .op (.mv (.t 9)), none⟩,
        ⟨some 36, .op (.mv (.t 9)), none⟩,
        ⟨some 37, .op (.mv (.t 8)), none⟩,
        ⟨some 38, .op (.bin .lss (.t 36) (.t 37)), none⟩,
        ⟨some 39, .op (.mv (.t 38)), none⟩,
        ⟨some 40, .op (.mv (.t 2)), some (39, true)⟩,
        ⟨some 41, .op (.mv (.t 0)), some (39, true)⟩,
        ⟨some 42, .op (.mv (.t 9)), some (39, true)⟩,
        ⟨some 43, .op (.idxAddr 2 (.t 41) (.t 42)), some (39, true)⟩,
        ⟨some 44, .op (.ldn 2 (.t 43)), some (39, true)⟩,
        ⟨some 45, .op (.mv (.t 1)), some (39, true)⟩,
        ⟨some 46, .call (.t 40) [(.t 44), (.t 45)], some (39, true)⟩,
        ⟨some 47, .op (.bin .eql (.t 46) (.c (.int .i64 0))), some (39, true)⟩,
        ⟨some 48, .pick (.t 39) (.t 47) (.c (.bool false)), none⟩,
        ⟨some 6, .op (.mv (.t 35)), none⟩,
        ⟨some 7, .op (.mv (.t 48)), none⟩]) (
      .ret)))))
theorem cf86 : compF Try.prog Try.f86 h86 = some (ac86, rs86) := by kernel_rfl

/-! mailcoach/ranges.behind$1 params 2 -/
def h87 : Hints := ⟨[(3, [4]), (2, [4]), (1, [8]), (0, [1, 2])], [], []⟩
def rs87 : List ARes := [.t 4]
def ac87 : ACode :=
 .seq (
  .reg [1, 2] [
    ⟨some 2, .op (.box (.t 0)), none⟩,
    ⟨some 4, .op (.mv (.c (.int .i64 0))), none⟩]) (
  .seq (
   .seq (
    .reg [8] [
      ⟨some 5, .op (.fieldAddr 1 (.t 2)), none⟩,
      ⟨some 6, .op (.ld1 (.t 5)), none⟩,
      ⟨some 7, .op (.mv (.t 1)), none⟩,
      ⟨some 8, .op (.bin .lss (.t 6) (.t 7)), none⟩]) (
    .cond (.t 8) (
     .seq (
      .reg [4] [
        ⟨some 4, .op (.mv (.c (.int .i64 (-1)))), none⟩]) (
      .ret)) (
     .skip))) (
   .seq (
    .reg [4] [
      ⟨some 4, .op (.mv (.c (.int .i64 1))), none⟩]) (
    .ret)))
theorem cf87 : compF Try.prog Try.f87 h87 = some (ac87, rs87) := by kernel_rfl

/-! (*mailcoach/pack.Writer).number params 3 -/
def h88 : Hints := ⟨[(7, []), (6, [0, 2, 6, 21]), (5, [0, 1, 2, 6, 8]), (4, [0, 1, 2, 6, 8]), (3, [0, 1, 2, 6, 7, 8]), (2, [0, 1, 2, 6, 8, 9]), (1, [0, 1, 2, 6, 8]), (0, [0, 1, 2, 6])], [(2, [0, 1, 2, 6, 8])], [(7, [(0, []), (1, []), (2, []), (3, []), (4, []), (5, []), (6, []), (7, []), (8, []), (9, []), (10, []), (11, [])])]⟩
def rs88 : List ARes := []
def ac88 : ACode :=
 .seq (
  .reg [0, 1, 2, 6] [
    ⟨some 6, .op (.allocA 1 [.int .u8 0, .int .u8 0, .int .u8 0, .int .u8 0, .int .u8 0, .int .u8 0, .int .u8 0, .int .u8 0]), none⟩]) (
  .seq (
   .seq (
    .reg [0, 1, 2, 6, 8] [
      ⟨some 8, .op (.mv (.c (.int .i64 0))), none⟩]) (
    .block 0 (
     .loop [0, 1, 2, 6, 8] (
      .seq (
       .reg [0, 1, 2, 6, 8, 9] [
         ⟨some 9, .op (.bin .lss (.t 8) (.c (.int .i64 8))), none⟩]) (
       .seq (
        .cond (.t 9) (
         .skip) (
         .exit 0)) (
        .seq (
         .block 1 (
          .seq (
           .reg [0, 1, 2, 6, 7, 8] [
             ⟨some 10, .op (.mv (.t 8)), none⟩,
             ⟨some 7, .op (.mv (.t 10)), none⟩]) (
           .reg [0, 1, 2, 6, 8] [
             ⟨some 11, .op (.mv (.t 7)), none⟩,
             ⟨some 12, .op (.bin .sub (.c (.int .i64 7)) (.t 11)), none⟩,
             ⟨some 13, .op (.mv (.t 1)), none⟩,
             ⟨some 14, .op (.mv (.t 7)), none⟩,
             ⟨some 15, .op (.bin .mul (.c (.int .i64 8)) (.t 14)), none⟩,
             ⟨some 16, .op (.bin .shr (.t 13) (.t 15)), none⟩,
             ⟨some 17, .op (.toInt .u8 (.t 16)), none⟩,
             ⟨some 18, .op (.idxArr 8 1 (.t 6) (.t 12)), none⟩,
             ⟨none, .op (.st 1 (.t 18) (.t 17)), none⟩]))) (
         .reg [0, 1, 2, 6, 8] [
           ⟨some 19, .op (.bin .add (.t 8) (.c (.int .i64 1))), none⟩,
           ⟨some 8, .op (.mv (.t 19)), none⟩]))))))) (
   .seq (
    .reg [0, 2, 6, 21] [
      ⟨some 20, .op (.mv (.t 0)), none⟩,
      ⟨some 21, .op (.eqn 0 true (.t 20) (.c (.nilp))), none⟩]) (
    .cond (.t 21) (
     .dreg [] [
       (⟨some 22, .op (.mv (.t 0)), none⟩, []),
       (⟨some 23, .op (.mv (.t 0)), none⟩, []),
       (⟨some 24, .op (.nilCheck (.t 23)), none⟩, []),
       (⟨some 25, .op (.fieldAddr 0 (.t 24)), none⟩, []),
       (⟨some 26, .op (.ld1 (.t 25)), none⟩, []),
       (⟨some 27, .op (.mv (.t 2)), none⟩, []),
       (⟨some 28, .op (.bin .sub (.c (.int .i64 8)) (.t 27)), none⟩, []),
       (⟨some 29, .op (.sliceArr 8 1 (.t 6) (some (.t 28)) none none), none⟩, []),
       (⟨some 30, .op (.append 1 1 (.t 26) (.t 29)), none⟩, []),
       (⟨some 31, .op (.nilCheck (.t 22)), none⟩, []),
       (⟨some 32, .op (.fieldAddr 0 (.t 31)), none⟩, []),
       (⟨none, .op (.st 1 (.t 32) (.t 30)), none⟩, [])]) (
     .skip))))
theorem cf88 : compF Try.prog Try.f88 h88 = some (ac88, rs88) := by kernel_rfl

/-! (*mailcoach/pack.Reader).number params 2 -/
def h89 : Hints := ⟨[(7, [4]), (6, [5, 10, 11, 12]), (5, [5, 10, 11, 12]), (4, [5, 7, 10, 11, 12]), (3, [5, 10, 11, 12, 13]), (2, [5, 10, 11, 12]), (1, [0, 1, 5]), (0, [0, 1])], [(3, [5, 10, 11, 12])], []⟩
def rs89 : List ARes := [.t 4]
def ac89 : ACode :=
 .seq (
  .reg [0, 1] [
    ⟨some 4, .op (.mv (.c (.int .u64 0))), none⟩]) (
  .seq (
   .reg [0, 1, 5] [
     ⟨some 5, .op (.mv (.c (.int .u64 0))), none⟩]) (
   .seq (
    .seq (
     .reg [5, 10, 11, 12] [
       ⟨some 8, .op (.mv (.t 0)), none⟩,
       ⟨some 9, .op (.mv (.t 1)), none⟩,
       ⟨some 10, .call (.c (.fn 91 [] [])) [(.t 8), (.t 9)], none⟩,
       ⟨some 11, .op (.len 1 (.t 10)), none⟩,
       ⟨some 12, .op (.mv (.c (.int .i64 0))), none⟩]) (
     .block 0 (
      .loop [5, 10, 11, 12] (
       .seq (
        .reg [5, 10, 11, 12, 13] [
          ⟨some 13, .op (.bin .lss (.t 12) (.t 11)), none⟩]) (
        .seq (
         .cond (.t 13) (
          .skip) (
          .exit 0)) (
         .seq (
          .block 1 (
           .seq (
            .reg [5, 7, 10, 11, 12] [
              ⟨some 14, .op (.idxAddr 1 (.t 10) (.t 12)), none⟩,
              ⟨some 15, .op (.ld1 (.t 14)), none⟩,
              ⟨some 7, .op (.mv (.t 15)), none⟩]) (
            .reg [5, 10, 11, 12] [
              ⟨some 16, .op (.mv (.t 5)), none⟩,
              ⟨some 17, .op (.bin .shl (.t 16) (.c (.int .u64 8))), none⟩,
              ⟨some 18, .op (.mv (.t 7)), none⟩,
              ⟨some 19, .op (.toInt .u64 (.t 18)), none⟩,
              ⟨some 20, .op (.bin .or (.t 17) (.t 19)), none⟩,
              ⟨some 5, .op (.mv (.t 20)), none⟩]))) (
          .reg [5, 10, 11, 12] [
            ⟨some 21, .op (.bin .add (.t 12) (.c (.int .i64 1))), none⟩,
            ⟨some 12, .op (.mv (.t 21)), none⟩]))))))) (
    .seq (
     .reg [4] [
       ⟨some 22, .op (.mv (.t 5)), none⟩,
       ⟨some 4, .op (.mv (.t 22)), none⟩]) (
     .ret))))
theorem cf89 : compF Try.prog Try.f89 h89 = some (ac89, rs89) := by kernel_rfl

/-! slices.Grow[[]mailcoach/api.Range,mailcoach/api.Range] params 2 -/
def h90 : Hints := ⟨[(6, [4]), (5, [0]), (4, [0, 1, 16]), (3, [0, 1]), (2, [0, 1]), (1, [0, 1, 6]), (0, [0, 1])], [], []⟩
def rs90 : List ARes := [.t 4]
def ac90 : ACode :=
 .seq (
  .reg [0, 1] [
    ⟨some 4, .op (.mv (.c (.nilsl))), none⟩]) (
  .seq (
   .seq (
    .reg [0, 1, 6] [
      ⟨some 5, .op (.mv (.t 1)), none⟩,
      ⟨some 6, .op (.bin .lss (.t 5) (.c (.int .i64 0))), none⟩]) (
    .cond (.t 6) (
     .reg [0, 1] [
       ⟨some 7, .op (.mkIface 9 (.c (.str ⟨#[99, 97, 110, 110, 111, 116, 32, 98, 101, 32, 110, 101, 103, 97, 116, 105, 118, 101]⟩))), none⟩,
       ⟨none, .panic (.t 7), none⟩]) (
     .skip))) (
   .seq (
    .seq (
     .reg [0, 1] [
       ⟨some 8, .op (.mv (.t 1)), none⟩,
       ⟨some 9, .op (.mv (.t 0)), none⟩,
       ⟨some 10, .op (.cap (.t 9)), none⟩,
       ⟨some 11, .op (.mv (.t 0)), none⟩,
       ⟨some 12, .op (.len 1 (.t 11)), none⟩,
       ⟨some 13, .op (.bin .sub (.t 10) (.t 12)), none⟩,
       ⟨some 14, .op (.bin .sub (.t 8) (.t 13)), none⟩,
       ⟨some 1, .op (.mv (.t 14)), none⟩]) (
     .seq (
      .reg [0, 1, 16] [
        ⟨some 15, .op (.mv (.t 1)), none⟩,
        ⟨some 16, .op (.bin .gtr (.t 15) (.c (.int .i64 0))), none⟩]) (
      .cond (.t 16) (
       .reg [0] [
         ⟨some 17, .op (.mv (.t 0)), none⟩,
         ⟨some 18, .op (.mv (.t 0)), none⟩,
         ⟨some 19, .op (.cap (.t 18)), none⟩,
         ⟨some 20, .op (.slice 2 (.t 17) none (some (.t 19)) none), none⟩,
         ⟨some 21, .op (.mv (.t 1)), none⟩,
         ⟨some 22, .op (.appendMk 2 16 [.int .u64 0, .int .u64 0] (.t 20) (.t 21)), none⟩,
         ⟨some 23, .op (.mv (.t 0)), none⟩,
         ⟨some 24, .op (.len 1 (.t 23)), none⟩,
         ⟨some 25, .op (.slice 2 (.t 22) none (some (.t 24)) none), none⟩,
         ⟨some 0, .op (.mv (.t 25)), none⟩]) (
       .skip)))) (
    .seq (
     .reg [4] [
       ⟨some 26, .op (.mv (.t 0)), none⟩,
       ⟨some 4, .op (.mv (.t 26)), none⟩]) (
     .ret))))
theorem cf90 : compF Try.prog Try.f90 h90 = some (ac90, rs90) := by kernel_rfl

/-! (*mailcoach/pack.Reader).take params 2 -/
def h91 : Hints := ⟨[(5, [4]), (4, [5]), (3, [0, 1, 5]), (2, [0, 1]), (1, [0, 1, 13]), (0, [0, 1])], [], []⟩
def rs91 : List ARes := [.t 4]
def ac91 : ACode :=
 .seq (
  .reg [0, 1] [
    ⟨some 4, .op (.mv (.c (.nilsl))), none⟩]) (
  .seq (
   .seq (
    .reg [0, 1, 13] [
      ⟨some 6, .op (.mv (.t 1)), none⟩,
      ⟨some 7, .op (.mv (.t 0)), none⟩,
      ⟨some 8, .op (.nilCheck (.t 7)), none⟩,
      ⟨some 9, .op (.fieldAddr 0 (.t 8)), none⟩,
      ⟨some 10, .op (.ld1 (.t 9)), none⟩,
      ⟨some 11, .op (.len 1 (.t 10)), none⟩,
      ⟨some 12, .op (.toInt .u64 (.t 11)), none⟩,
      ⟨some 13, .op (.bin .gtr (.t 6) (.t 12)), none⟩]) (
    .cond (.t 13) (
     .reg [0, 1] [
       ⟨some 14, .op (.build [.int .i64 0] [(0, 1, (.c (.int .i64 4)))]), none⟩,
       ⟨some 15, .op (.mkIface 115 (.t 14)), none⟩,
       ⟨none, .panic (.t 15), none⟩]) (
     .skip))) (
   .seq (
    .reg [0, 1, 5] [
      ⟨some 16, .op (.mv (.t 0)), none⟩,
      ⟨some 17, .op (.nilCheck (.t 16)), none⟩,
      ⟨some 18, .op (.fieldAddr 0 (.t 17)), none⟩,
      ⟨some 19, .op (.ld1 (.t 18)), none⟩,
      ⟨some 20, .op (.mv (.t 1)), none⟩,
      ⟨some 21, .op (.slice 1 (.t 19) none (some (.t 20)) none), none⟩,
      ⟨some 5, .op (.mv (.t 21)), none⟩]) (
    .seq (
     .reg [5] [
       ⟨some 22, .op (.mv (.t 0)), none⟩,
       ⟨some 23, .op (.mv (.t 0)), none⟩,
       ⟨some 24, .op (.nilCheck (.t 23)), none⟩,
       ⟨some 25, .op (.fieldAddr 0 (.t 24)), none⟩,
       ⟨some 26, .op (.ld1 (.t 25)), none⟩,
       ⟨some 27, .op (.mv (.t 1)), none⟩,
       ⟨some 28, .op (.slice 1 (.t 26) (some (.t 27)) none none), none⟩,
       ⟨some 29, .op (.nilCheck (.t 22)), none⟩,
       ⟨some 30, .op (.fieldAddr 0 (.t 29)), none⟩,
       ⟨none, .op (.st 1 (.t 30) (.t 28)), none⟩]) (
     .seq (
      .reg [4] [
        ⟨some 31, .op (.mv (.t 5)), none⟩,
        ⟨some 4, .op (.mv (.t 31)), none⟩]) (
      .ret)))))
theorem cf91 : compF Try.prog Try.f91 h91 = some (ac91, rs91) := by kernel_rfl


end Go.Proofs.Ytinfnpbglapjhaa.AM
