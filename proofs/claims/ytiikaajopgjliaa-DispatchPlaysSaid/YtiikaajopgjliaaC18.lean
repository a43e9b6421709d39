/- The code of chapter 18, told as the abstract machine's. -/
import Derived.Test.YtiikaajopgjliaaAm3
import Derived.Test.YtiikaajopgjliaaProg
import Derived.KernelRfl
namespace Go.Proofs.Ytiikaajopgjliaa.AM
set_option maxRecDepth 100000
set_option maxHeartbeats 4000000
theorem hmx : Try.prog.follows .mixedOrders = true := by kernel_rfl

/-! mailcoach/mailcoachlaw18.DispatchPlays params 2 -/
def h4 : Hints := ⟨[(16, [4]), (15, [7, 8, 9, 47, 48, 49]), (14, [4]), (13, [7, 8, 9, 47, 48, 49, 87]), (12, [7, 8, 9, 11, 47, 48, 49, 61]), (11, [7, 8, 9, 10, 11, 47, 48, 49]), (10, [7, 8, 9, 47, 48, 49, 50]), (9, [7, 8, 9, 47, 48, 49]), (8, [1, 7, 8, 9]), (7, [0, 1, 7, 8]), (6, [0, 1]), (5, [4]), (4, [0, 1, 35]), (3, [0, 1, 6]), (2, [4]), (1, [0, 1, 13]), (0, [0, 1])], [(10, [7, 8, 9, 47, 48, 49])], [(13, [(0, []), (1, []), (2, []), (3, []), (4, []), (5, []), (6, []), (7, []), (9, []), (10, []), (11, []), (12, []), (8, [11]), (13, []), (14, []), (15, []), (16, []), (17, []), (19, []), (20, []), (21, []), (22, []), (18, [21]), (23, []), (24, []), (25, [])])]⟩
def rs4 : List ARes := [.t 4]
def ac4 : ACode :=
 .seq (
  .reg [0, 1] [
    ⟨some 4, .op (.mv (.c (.bool false))), none⟩]) (
  .seq (
   .seq (
    .reg [0, 1, 13] [
      ⟨some 12, .call (.c (.fn 10 [] [])) [], none⟩,
      ⟨some 13, .op (.un .not (.t 12)), none⟩]) (
    .cond (.t 13) (
     .seq (
      .reg [4] [
        ⟨some 4, .op (.mv (.c (.bool false))), none⟩]) (
      .ret)) (
     .skip))) (
   .seq (
    .reg [0, 1, 6] [
      ⟨some 15, .op (.mv (.t 0)), none⟩,
      ⟨some 16, .call (.c (.fn 11 [] [])) [(.t 15)], none⟩,
      ⟨some 14, .op (.mv (.t 16)), none⟩,
      ⟨some 17, .op (.extract (.t 14) 0), none⟩,
      ⟨some 18, .op (.extract (.t 14) 1), none⟩,
      ⟨some 5, .op (.mv (.t 17)), none⟩,
      ⟨some 6, .op (.mv (.t 18)), none⟩]) (
    .seq (
     .seq (
      .reg [0, 1, 35] [
        ⟨some 19, .op (.mv (.t 6)), none⟩,
        ⟨some 20, .op (.bin .eql (.t 19) (.c (.int .i64 0))), none⟩,
        ⟨some 21, .op (.mv (.t 0)), none⟩,
        ⟨some 22, .op (.bin .geq (.t 21) (.c (.int .u8 1))), none⟩,
        ⟨some 23, .op (.mv (.t 22)), none⟩,
        ⟨some 24, .op (.mv (.t 0)), some (23, true)⟩,
        ⟨some 25, .op (.bin .leq (.t 24) (.c (.int .u8 4))), some (23, true)⟩,
        ⟨some 26, .pick (.t 23) (.t 25) (.c (.bool false)), none⟩,
        ⟨some 27, .op (.eqb true (.t 20) (.t 26)), none⟩,
        ⟨some 28, .op (.mv (.t 27)), none⟩,
        ⟨some 29, .op (.mv (.t 6)), some (28, false)⟩,
        ⟨some 30, .op (.bin .neq (.t 29) (.c (.int .i64 0))), some (28, false)⟩,
        ⟨some 31, .op (.mv (.t 30)), some (28, false)⟩,
        ⟨some 32, .op (.mv (.t 6)), some (31, true)⟩,
        ⟨some 33, .op (.bin .neq (.t 32) (.c (.int .i64 16))), some (31, true)⟩,
        ⟨some 34, .pick (.t 31) (.t 33) (.c (.bool false)), some (28, false)⟩,
        ⟨some 35, .pick (.t 28) (.c (.bool true)) (.t 34), none⟩]) (
      .cond (.t 35) (
       .seq (
        .reg [4] [
          ⟨some 4, .op (.mv (.c (.bool false))), none⟩]) (
        .ret)) (
       .skip))) (
     .seq (
      .reg [0, 1] [
        ⟨some 36, .op (.mv (.t 0)), none⟩,
        ⟨some 37, .op (.bin .rem (.t 36) (.c (.int .u8 4))), none⟩,
        ⟨some 38, .op (.bin .add (.c (.int .u8 1)) (.t 37)), none⟩,
        ⟨some 0, .op (.mv (.t 38)), none⟩]) (
      .seq (
       .reg [0, 1, 7, 8] [
         ⟨some 40, .op (.mv (.t 0)), none⟩,
         ⟨some 41, .call (.c (.fn 11 [] [])) [(.t 40)], none⟩,
         ⟨some 39, .op (.mv (.t 41)), none⟩,
         ⟨some 42, .op (.extract (.t 39) 0), none⟩,
         ⟨some 43, .op (.extract (.t 39) 1), none⟩,
         ⟨some 7, .op (.mv (.t 42)), none⟩,
         ⟨some 8, .op (.mv (.t 43)), none⟩]) (
       .seq (
        .reg [1, 7, 8, 9] [
          ⟨some 44, .op (.mv (.t 0)), none⟩,
          ⟨some 45, .op (.build [.int .u8 0, .nilsl, .nilsl, .int .u64 0] [(0, 1, (.t 44))]), none⟩,
          ⟨some 46, .op (.box (.t 45)), none⟩,
          ⟨some 9, .op (.mv (.t 46)), none⟩]) (
        .seq (
         .seq (
          .reg [7, 8, 9, 47, 48, 49] [
            ⟨some 47, .op (.mv (.t 1)), none⟩,
            ⟨some 48, .op (.len 1 (.t 47)), none⟩,
            ⟨some 49, .op (.mv (.c (.int .i64 0))), none⟩]) (
          .block 0 (
           .loop [7, 8, 9, 47, 48, 49] (
            .seq (
             .reg [7, 8, 9, 47, 48, 49, 50] [
               ⟨some 50, .op (.bin .lss (.t 49) (.t 48)), none⟩]) (
             .seq (
              .cond (.t 50) (
               .skip) (
               .exit 0)) (
              .seq (
               .block 1 (
                .seq (
                 .reg [7, 8, 9, 10, 11, 47, 48, 49] [
                   ⟨some 51, .op (.mv (.t 49)), none⟩,
                   ⟨some 52, .op (.idxAddr 7 (.t 47) (.t 49)), none⟩,
                   ⟨some 53, .op (.ldn 7 (.t 52)), none⟩,
                   ⟨some 11, .op (.alloc [.int .u8 0, .int .u64 0, .int .i64 0, .int .u64 0, .int .u64 0, .str ⟨#[]⟩, .bool false]), none⟩,
                   ⟨some 10, .op (.mv (.t 51)), none⟩,
                   ⟨none, .op (.st 7 (.t 11) (.t 53)), none⟩]) (
                 .seq (
                  .seq (
                   .reg [7, 8, 9, 11, 47, 48, 49, 61] [
                     ⟨some 54, .op (.mv (.t 10)), none⟩,
                     ⟨some 55, .op (.bin .gtr (.t 54) (.c (.int .i64 200))), none⟩,
                     ⟨some 56, .op (.mv (.t 55)), none⟩,
                     ⟨some 57, .op (.fieldAddr 5 (.t 11)), some (56, false)⟩,
                     ⟨some 58, .op (.ld1 (.t 57)), some (56, false)⟩,
                     ⟨some 59, .op (.len 9 (.t 58)), some (56, false)⟩,
                     ⟨some 60, .op (.bin .gtr (.t 59) (.c (.int .i64 200))), some (56, false)⟩,
                     ⟨some 61, .pick (.t 56) (.c (.bool true)) (.t 60), none⟩]) (
                   .cond (.t 61) (
                    .exit 0) (
                    .skip))) (
                  .seq (
                   .dreg [7, 8, 9, 47, 48, 49, 87] [
                     (⟨some 62, .op (.mv (.t 7)), none⟩, []),
                     (⟨some 63, .op (.mv (.t 9)), none⟩, []),
                     (⟨some 64, .op (.ldn 7 (.t 11)), none⟩, []),
                     (⟨some 65, .call (.c (.fn 16 [] [])) [(.t 64)], none⟩, []),
                     (⟨some 66, .call (.c (.fn 15 [] [])) [(.t 62), (.t 63), (.t 65)], none⟩, []),
                     (⟨some 67, .op (.un .not (.t 66)), none⟩, []),
                     (⟨some 68, .op (.mv (.t 67)), none⟩, []),
                     (⟨some 69, .op (.mv (.t 7)), some (68, false)⟩, []),
                     (⟨some 71, .op (.mv (.t 9)), some (68, false)⟩, []),
                     (⟨some 72, .op (.nilCheck (.t 71)), some (68, false)⟩, []),
                     (⟨some 73, .op (.fieldAddr 2 (.t 72)), some (68, false)⟩, []),
                     (⟨some 74, .op (.ld1 (.t 73)), some (68, false)⟩, []),
                     (⟨some 70, .call (.c (.fn 18 [] [])) [(.t 69)], some (68, false)⟩, [11]),
                     (⟨some 75, .call (.c (.fn 17 [] [])) [(.t 70), (.t 74)], some (68, false)⟩, []),
                     (⟨some 76, .op (.un .not (.t 75)), some (68, false)⟩, []),
                     (⟨some 77, .pick (.t 68) (.c (.bool true)) (.t 76), none⟩, []),
                     (⟨some 78, .op (.mv (.t 77)), none⟩, []),
                     (⟨some 79, .op (.mv (.t 7)), some (78, false)⟩, []),
                     (⟨some 81, .op (.mv (.t 9)), some (78, false)⟩, []),
                     (⟨some 82, .op (.nilCheck (.t 81)), some (78, false)⟩, []),
                     (⟨some 83, .op (.fieldAddr 1 (.t 82)), some (78, false)⟩, []),
                     (⟨some 84, .op (.ld1 (.t 83)), some (78, false)⟩, []),
                     (⟨some 80, .call (.c (.fn 20 [] [])) [(.t 79)], some (78, false)⟩, [21]),
                     (⟨some 85, .call (.c (.fn 19 [] [])) [(.t 80), (.t 84)], some (78, false)⟩, []),
                     (⟨some 86, .op (.un .not (.t 85)), some (78, false)⟩, []),
                     (⟨some 87, .pick (.t 78) (.c (.bool true)) (.t 86), none⟩, [])]) (
                   .cond (.t 87) (
                    .seq (
                     .reg [4] [
                       ⟨some 4, .op (.mv (.c (.bool false))), none⟩]) (
                     .ret)) (
                    .skip)))))) (
               .reg [7, 8, 9, 47, 48, 49] [
                 ⟨some 88, .op (.bin .add (.t 49) (.c (.int .i64 1))), none⟩,
                 ⟨some 49, .op (.mv (.t 88)), none⟩]))))))) (
         .seq (
          .reg [4] [
            ⟨some 89, .op (.mv (.t 8)), none⟩,
            ⟨some 90, .op (.bin .eql (.t 89) (.c (.int .i64 0))), none⟩,
            ⟨some 4, .op (.mv (.t 90)), none⟩]) (
          .ret)))))))))
theorem cf4 : compF Try.prog Try.f4 h4 = some (ac4, rs4) := by kernel_rfl

/-! mailcoach/mailcoachlaw18.Awake params 0 -/
def h10 : Hints := ⟨[(8, [0]), (7, [2, 3, 4, 5, 7, 10]), (6, [1, 2, 3, 4, 5, 7]), (5, [1, 2, 3, 4, 5]), (4, [1, 2, 3, 4]), (3, [1, 2, 3, 4]), (2, [1, 2, 3, 4]), (1, [1, 2]), (0, [])], [], []⟩
def rs10 : List ARes := [.t 0]
def ac10 : ACode :=
 .seq (
  .reg [] [
    ⟨some 0, .op (.mv (.c (.bool false))), none⟩]) (
  .seq (
   .reg [1, 2] [
     ⟨some 12, .call (.c (.fn 11 [] [])) [(.c (.int .u8 3))], none⟩,
     ⟨some 11, .op (.mv (.t 12)), none⟩,
     ⟨some 13, .op (.extract (.t 11) 0), none⟩,
     ⟨some 14, .op (.extract (.t 11) 1), none⟩,
     ⟨some 1, .op (.mv (.t 13)), none⟩,
     ⟨some 2, .op (.mv (.t 14)), none⟩]) (
   .seq (
    .reg [1, 2, 3, 4] [
      ⟨some 15, .op (.mv (.t 1)), none⟩,
      ⟨some 16, .call (.c (.fn 12 [] [])) [(.t 15), (.c (.int .u64 5))], none⟩,
      ⟨some 17, .op (.mv (.t 1)), none⟩,
      ⟨some 18, .call (.c (.fn 12 [] [])) [(.t 17), (.c (.int .u64 3))], none⟩,
      ⟨some 3, .op (.mv (.t 16)), none⟩,
      ⟨some 4, .op (.mv (.t 18)), none⟩]) (
    .seq (
     .reg [1, 2, 3, 4] [
       ⟨some 19, .op (.mv (.t 1)), none⟩,
       ⟨some 20, .call (.c (.fn 13 [] [])) [(.t 19), (.c (.int .u64 5)), (.c (.int .i64 1))], none⟩]) (
     .seq (
      .reg [1, 2, 3, 4] [
        ⟨some 21, .op (.mv (.t 1)), none⟩,
        ⟨some 22, .call (.c (.fn 13 [] [])) [(.t 21), (.c (.int .u64 3)), (.c (.int .i64 1))], none⟩]) (
      .seq (
       .reg [1, 2, 3, 4, 5] [
         ⟨some 24, .op (.mv (.t 1)), none⟩,
         ⟨some 25, .op (.build [.int .u64 0, .int .u64 0] [(0, 1, (.c (.int .u64 1)))]), none⟩,
         ⟨some 26, .call (.c (.fn 14 [] [])) [(.t 24), (.t 25), (.c (.str ⟨#[]⟩))], none⟩,
         ⟨some 23, .op (.mv (.t 26)), none⟩,
         ⟨some 27, .op (.extract (.t 23) 0), none⟩,
         ⟨some 28, .op (.extract (.t 23) 1), none⟩,
         ⟨some 5, .op (.mv (.t 27)), none⟩,
         ⟨some 6, .op (.mv (.t 28)), none⟩]) (
       .seq (
        .reg [1, 2, 3, 4, 5, 7] [
          ⟨some 30, .op (.mv (.t 1)), none⟩,
          ⟨some 31, .op (.build [.int .u64 0, .int .u64 0] [(0, 1, (.c (.int .u64 2)))]), none⟩,
          ⟨some 32, .call (.c (.fn 14 [] [])) [(.t 30), (.t 31), (.c (.str ⟨#[]⟩))], none⟩,
          ⟨some 29, .op (.mv (.t 32)), none⟩,
          ⟨some 33, .op (.extract (.t 29) 0), none⟩,
          ⟨some 34, .op (.extract (.t 29) 1), none⟩,
          ⟨some 7, .op (.mv (.t 33)), none⟩,
          ⟨some 8, .op (.mv (.t 34)), none⟩]) (
        .seq (
         .reg [2, 3, 4, 5, 7, 10] [
           ⟨some 36, .op (.mv (.t 1)), none⟩,
           ⟨some 37, .op (.build [.int .u64 0, .int .u64 0] [(0, 1, (.c (.int .u64 3)))]), none⟩,
           ⟨some 38, .call (.c (.fn 14 [] [])) [(.t 36), (.t 37), (.c (.str ⟨#[]⟩))], none⟩,
           ⟨some 35, .op (.mv (.t 38)), none⟩,
           ⟨some 39, .op (.extract (.t 35) 0), none⟩,
           ⟨some 40, .op (.extract (.t 35) 1), none⟩,
           ⟨some 9, .op (.mv (.t 39)), none⟩,
           ⟨some 10, .op (.mv (.t 40)), none⟩]) (
         .seq (
          .reg [0] [
            ⟨some 41, .op (.mv (.t 2)), none⟩,
            ⟨some 42, .op (.bin .eql (.t 41) (.c (.int .i64 0))), none⟩,
            ⟨some 43, .op (.mv (.t 42)), none⟩,
            ⟨some 44, .op (.mv (.t 3)), some (43, true)⟩,
            ⟨some 45, .op (.bin .eql (.t 44) (.c (.int .i64 0))), some (43, true)⟩,
            ⟨some 46, .pick (.t 43) (.t 45) (.c (.bool false)), none⟩,
            ⟨some 47, .op (.mv (.t 46)), none⟩,
            ⟨some 48, .op (.mv (.t 4)), some (47, true)⟩,
            ⟨some 49, .op (.bin .eql (.t 48) (.c (.int .i64 0))), some (47, true)⟩,
            ⟨some 50, .pick (.t 47) (.t 49) (.c (.bool false)), none⟩,
            ⟨some 51, .op (.mv (.t 50)), none⟩,
            ⟨some 52, .op (.mv (.t 5)), some (51, true)⟩,
            ⟨some 53, .op (.bin .eql (.t 52) (.c (.int .u64 5))), some (51, true)⟩,
            ⟨some 54, .pick (.t 51) (.t 53) (.c (.bool false)), none⟩,
            ⟨some 55, .op (.mv (.t 54)), none⟩,
            ⟨some 56, .op (.mv (.t 7)), some (55, true)⟩,
            ⟨some 57, .op (.bin .eql (.t 56) (.c (.int .u64 3))), some (55, true)⟩,
            ⟨some 58, .pick (.t 55) (.t 57) (.c (.bool false)), none⟩,
            ⟨some 59, .op (.mv (.t 58)), none⟩,
            ⟨some 60, .op (.mv (.t 10)), some (59, true)⟩,
            ⟨some 61, .op (.bin .eql (.t 60) (.c (.int .i64 60))), some (59, true)⟩,
            ⟨some 62, .pick (.t 59) (.t 61) (.c (.bool false)), none⟩,
            ⟨some 0, .op (.mv (.t 62)), none⟩]) (
          .ret)))))))))
theorem cf10 : compF Try.prog Try.f10 h10 = some (ac10, rs10) := by kernel_rfl

/-! mailcoach/dispatch.New params 1 -/
def h11 : Hints := ⟨[(3, [2, 3]), (2, [2, 3]), (1, [0, 9]), (0, [0])], [], []⟩
def rs11 : List ARes := [.t 2, .t 3]
def ac11 : ACode :=
 .seq (
  .reg [0] [
    ⟨some 2, .op (.mv (.c (.nilp))), none⟩,
    ⟨some 3, .op (.mv (.c (.int .i64 0))), none⟩]) (
  .seq (
   .seq (
    .reg [0, 9] [
      ⟨some 4, .op (.mv (.t 0)), none⟩,
      ⟨some 5, .op (.bin .lss (.t 4) (.c (.int .u8 1))), none⟩,
      ⟨some 6, .op (.mv (.t 5)), none⟩,
      ⟨some 7, .op (.mv (.t 0)), some (6, false)⟩,
      ⟨some 8, .op (.bin .gtr (.t 7) (.c (.int .u8 4))), some (6, false)⟩,
      ⟨some 9, .pick (.t 6) (.c (.bool true)) (.t 8), none⟩]) (
    .cond (.t 9) (
     .seq (
      .reg [2, 3] [
        ⟨some 2, .op (.mv (.c (.nilp))), none⟩,
        ⟨some 3, .op (.mv (.c (.int .i64 16))), none⟩]) (
      .ret)) (
     .skip))) (
   .seq (
    .reg [2, 3] [
      ⟨some 10, .op (.mv (.t 0)), none⟩,
      ⟨some 11, .op (.mkmap), none⟩,
      ⟨some 12, .op (.mkmap), none⟩,
      ⟨some 13, .op (.build [.int .u8 0, .nilsl, .nilmap, .nilmap, .int .u64 0] [(0, 1, (.t 10)), (2, 1, (.t 11)), (3, 1, (.t 12))]), none⟩,
      ⟨some 14, .op (.box (.t 13)), none⟩,
      ⟨some 2, .op (.mv (.t 14)), none⟩,
      ⟨some 3, .op (.mv (.c (.int .i64 0))), none⟩]) (
    .ret)))
theorem cf11 : compF Try.prog Try.f11 h11 = some (ac11, rs11) := by kernel_rfl

/-! (*mailcoach/dispatch.Desk).Join params 2 -/
def h12 : Hints := ⟨[(12, [4]), (11, []), (2, [4]), (4, [4]), (6, [4]), (8, [4]), (10, [4]), (9, [0, 1, 32]), (7, [0, 1, 18]), (5, [0, 1, 11]), (3, [0, 1, 8]), (1, [0, 1, 5]), (0, [0, 1])], [], []⟩
def rs12 : List ARes := [.t 4]
def ac12 : ACode :=
 .seq (
  .reg [0, 1] [
    ⟨some 4, .op (.mv (.c (.int .i64 0))), none⟩]) (
  .seq (
   .block 0 (
    .seq (
     .reg [0, 1, 5] [
       ⟨some 6, .op (.mv (.t 0)), none⟩,
       ⟨some 7, .op (.eqn 0 false (.t 6) (.c (.nilp))), none⟩,
       ⟨some 5, .op (.mv (.t 7)), none⟩]) (
     .cond (.t 5) (
      .seq (
       .reg [4] [
         ⟨some 4, .op (.mv (.c (.int .i64 1))), none⟩]) (
       .ret)) (
      .seq (
       .reg [0, 1, 8] [
         ⟨some 9, .op (.mv (.t 1)), none⟩,
         ⟨some 10, .op (.bin .eql (.t 9) (.c (.int .u64 0))), none⟩,
         ⟨some 8, .op (.mv (.t 10)), none⟩]) (
       .cond (.t 8) (
        .seq (
         .reg [4] [
           ⟨some 4, .op (.mv (.c (.int .i64 2))), none⟩]) (
         .ret)) (
        .seq (
         .reg [0, 1, 11] [
           ⟨some 12, .op (.mv (.t 0)), none⟩,
           ⟨some 13, .op (.nilCheck (.t 12)), none⟩,
           ⟨some 14, .op (.fieldAddr 1 (.t 13)), none⟩,
           ⟨some 15, .op (.ld1 (.t 14)), none⟩,
           ⟨some 16, .op (.mv (.t 1)), none⟩,
           ⟨some 17, .call (.c (.fn 29 [] [])) [(.t 15), (.t 16)], none⟩,
           ⟨some 11, .op (.mv (.t 17)), none⟩]) (
         .cond (.t 11) (
          .seq (
           .reg [4] [
             ⟨some 4, .op (.mv (.c (.int .i64 12))), none⟩]) (
           .ret)) (
          .seq (
           .reg [0, 1, 18] [
             ⟨some 19, .op (.mv (.t 0)), none⟩,
             ⟨some 20, .op (.nilCheck (.t 19)), none⟩,
             ⟨some 21, .op (.fieldAddr 0 (.t 20)), none⟩,
             ⟨some 22, .op (.ld1 (.t 21)), none⟩,
             ⟨some 23, .op (.bin .eql (.t 22) (.c (.int .u8 1))), none⟩,
             ⟨some 24, .op (.mv (.t 23)), none⟩,
             ⟨some 25, .op (.mv (.t 0)), some (24, true)⟩,
             ⟨some 26, .op (.nilCheck (.t 25)), some (24, true)⟩,
             ⟨some 27, .op (.fieldAddr 1 (.t 26)), some (24, true)⟩,
             ⟨some 28, .op (.ld1 (.t 27)), some (24, true)⟩,
             ⟨some 29, .op (.len 1 (.t 28)), some (24, true)⟩,
             ⟨some 30, .op (.bin .gtr (.t 29) (.c (.int .i64 0))), some (24, true)⟩,
             ⟨some 31, .pick (.t 24) (.t 30) (.c (.bool false)), none⟩,
             ⟨some 18, .op (.mv (.t 31)), none⟩]) (
           .cond (.t 18) (
            .seq (
             .reg [4] [
               ⟨some 4, .op (.mv (.c (.int .i64 50))), none⟩]) (
             .ret)) (
            .seq (
             .reg [0, 1, 32] [
               ⟨some 33, .op (.mv (.t 0)), none⟩,
               ⟨some 34, .op (.nilCheck (.t 33)), none⟩,
               ⟨some 35, .op (.fieldAddr 1 (.t 34)), none⟩,
               ⟨some 36, .op (.ld1 (.t 35)), none⟩,
               ⟨some 37, .op (.len 1 (.t 36)), none⟩,
               ⟨some 38, .op (.bin .geq (.t 37) (.c (.int .i64 8))), none⟩,
               ⟨some 32, .op (.mv (.t 38)), none⟩]) (
             .cond (.t 32) (
              .seq (
               .reg [4] [
                 ⟨some 4, .op (.mv (.c (.int .i64 14))), none⟩]) (
               .ret)) (
              .skip)))))))))))) (
   .seq (
    .reg [] [
      ⟨some 39, .op (.mv (.t 0)), none⟩,
      ⟨some 40, .op (.mv (.t 0)), none⟩,
      ⟨some 41, .op (.nilCheck (.t 40)), none⟩,
      ⟨some 42, .op (.fieldAddr 1 (.t 41)), none⟩,
      ⟨some 43, .op (.ld1 (.t 42)), none⟩,
      ⟨some 44, .op (.mv (.t 1)), none⟩,
      ⟨some 45, .op (.buildSl 1 [.int .u64 0] 1 [(0, (.t 44))]), none⟩,
      ⟨some 46, .op (.append 1 8 (.t 43) (.t 45)), none⟩,
      ⟨some 47, .op (.nilCheck (.t 39)), none⟩,
      ⟨some 48, .op (.fieldAddr 1 (.t 47)), none⟩,
      ⟨none, .op (.st 1 (.t 48) (.t 46)), none⟩]) (
    .seq (
     .reg [4] [
       ⟨some 4, .op (.mv (.c (.int .i64 0))), none⟩]) (
     .ret))))
theorem cf12 : compF Try.prog Try.f12 h12 = some (ac12, rs12) := by kernel_rfl

/-! (*mailcoach/dispatch.Desk).Flow params 3 -/
def h13 : Hints := ⟨[(8, [6]), (7, []), (2, [6]), (4, [6]), (6, [6]), (5, [0, 1, 2, 18]), (3, [0, 1, 2, 10]), (1, [0, 1, 2, 7]), (0, [0, 1, 2])], [], []⟩
def rs13 : List ARes := [.t 6]
def ac13 : ACode :=
 .seq (
  .reg [0, 1, 2] [
    ⟨some 6, .op (.mv (.c (.int .i64 0))), none⟩]) (
  .seq (
   .block 0 (
    .seq (
     .reg [0, 1, 2, 7] [
       ⟨some 8, .op (.mv (.t 0)), none⟩,
       ⟨some 9, .op (.eqn 0 false (.t 8) (.c (.nilp))), none⟩,
       ⟨some 7, .op (.mv (.t 9)), none⟩]) (
     .cond (.t 7) (
      .seq (
       .reg [6] [
         ⟨some 6, .op (.mv (.c (.int .i64 1))), none⟩]) (
       .ret)) (
      .seq (
       .reg [0, 1, 2, 10] [
         ⟨some 11, .op (.mv (.t 0)), none⟩,
         ⟨some 12, .op (.nilCheck (.t 11)), none⟩,
         ⟨some 13, .op (.fieldAddr 1 (.t 12)), none⟩,
         ⟨some 14, .op (.ld1 (.t 13)), none⟩,
         ⟨some 15, .op (.mv (.t 1)), none⟩,
         ⟨some 16, .call (.c (.fn 29 [] [])) [(.t 14), (.t 15)], none⟩,
         ⟨some 17, .op (.un .not (.t 16)), none⟩,
         ⟨some 10, .op (.mv (.t 17)), none⟩]) (
       .cond (.t 10) (
        .seq (
         .reg [6] [
           ⟨some 6, .op (.mv (.c (.int .i64 61))), none⟩]) (
         .ret)) (
        .seq (
         .reg [0, 1, 2, 18] [
           ⟨some 19, .op (.mv (.t 2)), none⟩,
           ⟨some 20, .op (.bin .lss (.t 19) (.c (.int .i64 1))), none⟩,
           ⟨some 21, .op (.mv (.t 20)), none⟩,
           ⟨some 22, .op (.mv (.t 2)), some (21, false)⟩,
           ⟨some 23, .op (.mv (.t 0)), some (21, false)⟩,
           ⟨some 24, .op (.nilCheck (.t 23)), some (21, false)⟩,
           ⟨some 25, .op (.fieldAddr 2 (.t 24)), some (21, false)⟩,
           ⟨some 26, .op (.ld1 (.t 25)), some (21, false)⟩,
           ⟨some 27, .op (.mv (.t 1)), some (21, false)⟩,
           ⟨some 28, .op (.lookup (.int .i64 0) false [1] (.t 26) (.t 27) false), some (21, false)⟩,
           ⟨some 29, .op (.bin .sub (.c (.int .i64 1000)) (.t 28)), some (21, false)⟩,
           ⟨some 30, .op (.bin .gtr (.t 22) (.t 29)), some (21, false)⟩,
           ⟨some 31, .pick (.t 21) (.c (.bool true)) (.t 30), none⟩,
           ⟨some 18, .op (.mv (.t 31)), none⟩]) (
         .cond (.t 18) (
          .seq (
           .reg [6] [
             ⟨some 6, .op (.mv (.c (.int .i64 60))), none⟩]) (
           .ret)) (
          .skip)))))))) (
   .seq (
    .reg [] [
      ⟨some 32, .op (.mv (.t 0)), none⟩,
      ⟨some 33, .op (.nilCheck (.t 32)), none⟩,
      ⟨some 34, .op (.fieldAddr 2 (.t 33)), none⟩,
      ⟨some 35, .op (.ld1 (.t 34)), none⟩,
      ⟨some 36, .op (.mv (.t 1)), none⟩,
      ⟨some 37, .op (.lookup (.int .i64 0) false [1] (.t 35) (.t 36) false), none⟩,
      ⟨some 38, .op (.mv (.t 2)), none⟩,
      ⟨some 39, .op (.bin .add (.t 37) (.t 38)), none⟩,
      ⟨none, .op (.mapSet false [1] (.t 35) (.t 36) (.t 39)), none⟩]) (
    .seq (
     .reg [6] [
       ⟨some 6, .op (.mv (.c (.int .i64 0))), none⟩]) (
     .ret))))
theorem cf13 : compF Try.prog Try.f13 h13 = some (ac13, rs13) := by kernel_rfl

/-! (*mailcoach/dispatch.Desk).Offer params 3 -/
def h14 : Hints := ⟨[(17, [6, 7]), (16, [0, 2, 4, 32, 33, 34]), (15, [6, 7]), (14, [11]), (13, [0, 11]), (12, [0, 2, 4, 11]), (11, [0, 2, 4, 11, 32, 33, 34, 44]), (10, [0, 2, 4, 11, 32, 33, 34]), (9, [0, 2, 4, 32, 33, 34, 35]), (8, [0, 2, 4, 32, 33, 34]), (7, [6, 7]), (6, [0, 2, 4, 29]), (5, [6, 7]), (4, [0, 2, 4, 23]), (3, [0, 2, 4, 9]), (2, [6, 7]), (1, [0, 2, 4, 13]), (0, [0, 2, 4])], [(9, [0, 2, 4, 32, 33, 34])], [(3, [(0, []), (1, []), (2, []), (3, []), (4, []), (5, []), (6, []), (7, []), (8, []), (9, []), (10, []), (11, [])]), (13, [(0, []), (1, []), (2, []), (3, []), (4, []), (5, []), (6, []), (7, []), (8, []), (9, [])])]⟩
def rs14 : List ARes := [.t 6, .t 7]
def ac14 : ACode :=
 .seq (
  .reg [0, 2, 4] [
    ⟨some 4, .op (.box (.t 1)), none⟩,
    ⟨some 6, .op (.mv (.c (.int .u64 0))), none⟩,
    ⟨some 7, .op (.mv (.c (.int .i64 0))), none⟩]) (
  .seq (
   .seq (
    .reg [0, 2, 4, 13] [
      ⟨some 12, .op (.mv (.t 0)), none⟩,
      ⟨some 13, .op (.eqn 0 false (.t 12) (.c (.nilp))), none⟩]) (
    .cond (.t 13) (
     .seq (
      .reg [6, 7] [
        ⟨some 6, .op (.mv (.c (.int .u64 0))), none⟩,
        ⟨some 7, .op (.mv (.c (.int .i64 1))), none⟩]) (
      .ret)) (
     .skip))) (
   .seq (
    .seq (
     .dreg [0, 2, 4, 9] [
       (⟨some 15, .op (.mv (.t 0)), none⟩, []),
       (⟨some 16, .op (.nilCheck (.t 15)), none⟩, []),
       (⟨some 17, .op (.fieldAddr 3 (.t 16)), none⟩, []),
       (⟨some 18, .op (.ld1 (.t 17)), none⟩, []),
       (⟨some 19, .op (.ldn 2 (.t 4)), none⟩, []),
       (⟨some 20, .op (.lookup (.agg [.int .u64 0, .int .u64 0, .int .u64 0, .str ⟨#[]⟩]) true [1, 1] (.t 18) (.t 19) true), none⟩, []),
       (⟨some 14, .op (.mv (.t 20)), none⟩, []),
       (⟨some 21, .op (.extract (.t 14) 0), none⟩, []),
       (⟨some 22, .op (.extract (.t 14) 1), none⟩, []),
       (⟨some 8, .op (.alloc [.int .u64 0, .int .u64 0, .int .u64 0, .str ⟨#[]⟩]), none⟩, []),
       (⟨none, .op (.st 4 (.t 8) (.t 21)), none⟩, []),
       (⟨some 9, .op (.mv (.t 22)), none⟩, [])]) (
     .seq (
      .reg [0, 2, 4, 23] [
        ⟨some 23, .op (.mv (.t 9)), none⟩]) (
      .cond (.t 23) (
       .seq (
        .reg [6, 7] [
          ⟨some 6, .op (.mv (.c (.int .u64 0))), none⟩,
          ⟨some 7, .op (.mv (.c (.int .i64 62))), none⟩]) (
        .ret)) (
       .skip)))) (
    .seq (
     .seq (
      .reg [0, 2, 4, 29] [
        ⟨some 24, .op (.mv (.t 0)), none⟩,
        ⟨some 25, .op (.nilCheck (.t 24)), none⟩,
        ⟨some 26, .op (.fieldAddr 3 (.t 25)), none⟩,
        ⟨some 27, .op (.ld1 (.t 26)), none⟩,
        ⟨some 28, .op (.len 2 (.t 27)), none⟩,
        ⟨some 29, .op (.bin .geq (.t 28) (.c (.int .i64 256))), none⟩]) (
      .cond (.t 29) (
       .seq (
        .reg [6, 7] [
          ⟨some 6, .op (.mv (.c (.int .u64 0))), none⟩,
          ⟨some 7, .op (.mv (.c (.int .i64 14))), none⟩]) (
        .ret)) (
       .skip))) (
     .seq (
      .seq (
       .reg [0, 2, 4, 32, 33, 34] [
         ⟨some 30, .op (.mv (.t 0)), none⟩,
         ⟨some 31, .op (.mv (.t 2)), none⟩,
         ⟨some 32, .call (.c (.fn 30 [] [])) [(.t 30), (.t 31)], none⟩,
         ⟨some 33, .op (.len 1 (.t 32)), none⟩,
         ⟨some 34, .op (.mv (.c (.int .i64 0))), none⟩]) (
       .block 0 (
        .loop [0, 2, 4, 32, 33, 34] (
         .seq (
          .reg [0, 2, 4, 32, 33, 34, 35] [
            ⟨some 35, .op (.bin .lss (.t 34) (.t 33)), none⟩]) (
          .seq (
           .cond (.t 35) (
            .skip) (
            .exit 0)) (
           .seq (
            .block 1 (
             .seq (
              .reg [0, 2, 4, 11, 32, 33, 34] [
                ⟨some 36, .op (.idxAddr 1 (.t 32) (.t 34)), none⟩,
                ⟨some 37, .op (.ld1 (.t 36)), none⟩,
                ⟨some 11, .op (.mv (.t 37)), none⟩]) (
              .seq (
               .reg [0, 2, 4, 11, 32, 33, 34, 44] [
                 ⟨some 38, .op (.mv (.t 0)), none⟩,
                 ⟨some 39, .op (.nilCheck (.t 38)), none⟩,
                 ⟨some 40, .op (.fieldAddr 2 (.t 39)), none⟩,
                 ⟨some 41, .op (.ld1 (.t 40)), none⟩,
                 ⟨some 42, .op (.mv (.t 11)), none⟩,
                 ⟨some 43, .op (.lookup (.int .i64 0) false [1] (.t 41) (.t 42) false), none⟩,
                 ⟨some 44, .op (.bin .gtr (.t 43) (.c (.int .i64 0))), none⟩]) (
               .cond (.t 44) (
                .seq (
                 .reg [0, 2, 4, 11] [
                   ⟨some 45, .op (.mv (.t 0)), none⟩,
                   ⟨some 46, .op (.nilCheck (.t 45)), none⟩,
                   ⟨some 47, .op (.fieldAddr 2 (.t 46)), none⟩,
                   ⟨some 48, .op (.ld1 (.t 47)), none⟩,
                   ⟨some 49, .op (.mv (.t 11)), none⟩,
                   ⟨some 50, .op (.lookup (.int .i64 0) false [1] (.t 48) (.t 49) false), none⟩,
                   ⟨some 51, .op (.bin .sub (.t 50) (.c (.int .i64 1))), none⟩,
                   ⟨none, .op (.mapSet false [1] (.t 48) (.t 49) (.t 51)), none⟩]) (
                 .seq (
                  .dreg [0, 11] [
                    (⟨some 52, .op (.mv (.t 0)), none⟩, []),
                    (⟨some 53, .op (.nilCheck (.t 52)), none⟩, []),
                    (⟨some 54, .op (.fieldAddr 3 (.t 53)), none⟩, []),
                    (⟨some 55, .op (.ld1 (.t 54)), none⟩, []),
                    (⟨some 56, .op (.ldn 2 (.t 4)), none⟩, []),
                    (⟨some 57, .op (.ldn 2 (.t 4)), none⟩, []),
                    (⟨some 58, .op (.mv (.t 11)), none⟩, []),
                    (⟨some 59, .op (.mv (.t 2)), none⟩, []),
                    (⟨some 60, .op (.build [.int .u64 0, .int .u64 0, .int .u64 0, .str ⟨#[]⟩] [(0, 2, (.t 57)), (2, 1, (.t 58)), (3, 1, (.t 59))]), none⟩, []),
                    (⟨none, .op (.mapSet true [1, 1] (.t 55) (.t 56) (.t 60)), none⟩, [])]) (
                  .seq (
                   .reg [11] [
                     ⟨some 61, .op (.mv (.t 0)), none⟩,
                     ⟨some 62, .op (.mv (.t 11)), none⟩,
                     ⟨some 63, .op (.nilCheck (.t 61)), none⟩,
                     ⟨some 64, .op (.fieldAddr 4 (.t 63)), none⟩,
                     ⟨none, .op (.st 1 (.t 64) (.t 62)), none⟩]) (
                   .seq (
                    .reg [6, 7] [
                      ⟨some 65, .op (.mv (.t 11)), none⟩,
                      ⟨some 6, .op (.mv (.t 65)), none⟩,
                      ⟨some 7, .op (.mv (.c (.int .i64 0))), none⟩]) (
                    .ret))))) (
                .skip))))) (
            .reg [0, 2, 4, 32, 33, 34] [
              ⟨some 66, .op (.bin .add (.t 34) (.c (.int .i64 1))), none⟩,
              ⟨some 34, .op (.mv (.t 66)), none⟩]))))))) (
      .seq (
       .reg [6, 7] [
         ⟨some 6, .op (.mv (.c (.int .u64 0))), none⟩,
         ⟨some 7, .op (.mv (.c (.int .i64 60))), none⟩]) (
       .ret))))))
theorem cf14 : compF Try.prog Try.f14 h14 = some (ac14, rs14) := by kernel_rfl

/-! mailcoach/mailcoachlaw18.did params 3 -/
def h15 : Hints := ⟨[(15, [6]), (14, [11, 12, 13, 14]), (13, [1, 5, 11, 12]), (3, [6]), (7, [6]), (6, [7, 8, 9, 10]), (5, [1, 5, 7, 8]), (10, [6]), (12, [6]), (11, [0, 1, 5, 69]), (9, [0, 1, 5, 17, 53]), (8, [0, 1, 5, 17, 53]), (4, [0, 1, 5, 17, 29]), (2, [0, 1, 5, 17, 18]), (1, [0, 1, 5, 17]), (0, [0, 1, 5])], [], [(3, [(0, []), (1, []), (2, []), (4, []), (5, []), (6, []), (3, [5]), (7, []), (8, []), (9, [])]), (10, [(0, []), (1, []), (2, []), (3, []), (4, []), (6, []), (7, []), (8, []), (9, []), (10, []), (5, [7, 9]), (11, []), (12, []), (13, [])]), (12, [(0, []), (1, []), (2, []), (3, []), (4, []), (6, []), (7, []), (8, []), (9, []), (10, []), (5, [7, 9]), (11, []), (12, []), (13, [])])]⟩
def rs15 : List ARes := [.t 6]
def ac15 : ACode :=
 .seq (
  .reg [0, 1, 5] [
    ⟨some 5, .op (.box (.t 2)), none⟩,
    ⟨some 6, .op (.mv (.c (.bool false))), none⟩]) (
  .seq (
   .seq (
    .reg [0, 1, 5, 17] [
      ⟨some 15, .op (.fieldAddr 0 (.t 5)), none⟩,
      ⟨some 16, .op (.ld1 (.t 15)), none⟩,
      ⟨some 17, .op (.bin .rem (.t 16) (.c (.int .u8 8))), none⟩]) (
    .block 0 (
     .seq (
      .reg [0, 1, 5, 17, 18] [
        ⟨some 19, .op (.bin .eql (.t 17) (.c (.int .u8 0))), none⟩,
        ⟨some 18, .op (.mv (.t 19)), none⟩]) (
      .cond (.t 18) (
       .seq (
        .dreg [6] [
          (⟨some 20, .op (.mv (.t 0)), none⟩, []),
          (⟨some 21, .op (.fieldAddr 1 (.t 5)), none⟩, []),
          (⟨some 22, .op (.ld1 (.t 21)), none⟩, []),
          (⟨some 24, .op (.mv (.t 1)), none⟩, []),
          (⟨some 25, .op (.fieldAddr 1 (.t 5)), none⟩, []),
          (⟨some 26, .op (.ld1 (.t 25)), none⟩, []),
          (⟨some 23, .call (.c (.fn 12 [] [])) [(.t 20), (.t 22)], none⟩, [5]),
          (⟨some 27, .call (.c (.fn 31 [] [])) [(.t 24), (.t 26)], none⟩, []),
          (⟨some 28, .op (.bin .eql (.t 23) (.t 27)), none⟩, []),
          (⟨some 6, .op (.mv (.t 28)), none⟩, [])]) (
        .ret)) (
       .seq (
        .reg [0, 1, 5, 17, 29] [
          ⟨some 30, .op (.bin .eql (.t 17) (.c (.int .u8 1))), none⟩,
          ⟨some 29, .op (.mv (.t 30)), none⟩]) (
        .cond (.t 29) (
         .seq (
          .reg [1, 5, 7, 8] [
            ⟨some 32, .op (.mv (.t 0)), none⟩,
            ⟨some 33, .op (.fieldAddr 1 (.t 5)), none⟩,
            ⟨some 34, .op (.ld1 (.t 33)), none⟩,
            ⟨some 35, .call (.c (.fn 26 [] [])) [(.t 32), (.t 34)], none⟩,
            ⟨some 31, .op (.mv (.t 35)), none⟩,
            ⟨some 36, .op (.extract (.t 31) 0), none⟩,
            ⟨some 37, .op (.extract (.t 31) 1), none⟩,
            ⟨some 7, .op (.mv (.t 36)), none⟩,
            ⟨some 8, .op (.mv (.t 37)), none⟩]) (
          .seq (
           .reg [7, 8, 9, 10] [
             ⟨some 39, .op (.mv (.t 1)), none⟩,
             ⟨some 40, .op (.fieldAddr 1 (.t 5)), none⟩,
             ⟨some 41, .op (.ld1 (.t 40)), none⟩,
             ⟨some 42, .call (.c (.fn 32 [] [])) [(.t 39), (.t 41)], none⟩,
             ⟨some 38, .op (.mv (.t 42)), none⟩,
             ⟨some 43, .op (.extract (.t 38) 0), none⟩,
             ⟨some 44, .op (.extract (.t 38) 1), none⟩,
             ⟨some 9, .op (.mv (.t 43)), none⟩,
             ⟨some 10, .op (.mv (.t 44)), none⟩]) (
           .seq (
            .reg [6] [
              ⟨some 45, .op (.mv (.t 8)), none⟩,
              ⟨some 46, .op (.mv (.t 10)), none⟩,
              ⟨some 47, .op (.bin .eql (.t 45) (.t 46)), none⟩,
              ⟨some 48, .op (.mv (.t 47)), none⟩,
              ⟨some 49, .op (.mv (.t 7)), some (48, true)⟩,
              ⟨some 50, .op (.mv (.t 9)), some (48, true)⟩,
              ⟨some 51, .call (.c (.fn 17 [] [])) [(.t 49), (.t 50)], some (48, true)⟩,
              ⟨some 52, .pick (.t 48) (.t 51) (.c (.bool false)), none⟩,
              ⟨some 6, .op (.mv (.t 52)), none⟩]) (
            .ret)))) (
         .seq (
          .seq (
           .reg [0, 1, 5, 17, 53] [
             ⟨some 54, .op (.bin .eql (.t 17) (.c (.int .u8 2))), none⟩,
             ⟨some 53, .op (.mv (.t 54)), none⟩]) (
           .cond (.t 53) (
            .skip) (
            .reg [0, 1, 5, 17, 53] [
              ⟨some 55, .op (.bin .eql (.t 17) (.c (.int .u8 3))), none⟩,
              ⟨some 53, .op (.mv (.t 55)), none⟩]))) (
          .cond (.t 53) (
           .seq (
            .dreg [6] [
              (⟨some 56, .op (.mv (.t 0)), none⟩, []),
              (⟨some 57, .op (.fieldAddr 1 (.t 5)), none⟩, []),
              (⟨some 58, .op (.ld1 (.t 57)), none⟩, []),
              (⟨some 59, .op (.fieldAddr 2 (.t 5)), none⟩, []),
              (⟨some 60, .op (.ld1 (.t 59)), none⟩, []),
              (⟨some 62, .op (.mv (.t 1)), none⟩, []),
              (⟨some 63, .op (.fieldAddr 1 (.t 5)), none⟩, []),
              (⟨some 64, .op (.ld1 (.t 63)), none⟩, []),
              (⟨some 65, .op (.fieldAddr 2 (.t 5)), none⟩, []),
              (⟨some 66, .op (.ld1 (.t 65)), none⟩, []),
              (⟨some 61, .call (.c (.fn 13 [] [])) [(.t 56), (.t 58), (.t 60)], none⟩, [7, 9]),
              (⟨some 67, .call (.c (.fn 33 [] [])) [(.t 62), (.t 64), (.t 66)], none⟩, []),
              (⟨some 68, .op (.bin .eql (.t 61) (.t 67)), none⟩, []),
              (⟨some 6, .op (.mv (.t 68)), none⟩, [])]) (
            .ret)) (
           .seq (
            .reg [0, 1, 5, 69] [
              ⟨some 70, .op (.bin .eql (.t 17) (.c (.int .u8 7))), none⟩,
              ⟨some 69, .op (.mv (.t 70)), none⟩]) (
            .cond (.t 69) (
             .seq (
              .dreg [6] [
                (⟨some 71, .op (.mv (.t 0)), none⟩, []),
                (⟨some 72, .op (.fieldAddr 1 (.t 5)), none⟩, []),
                (⟨some 73, .op (.ld1 (.t 72)), none⟩, []),
                (⟨some 74, .op (.fieldAddr 3 (.t 5)), none⟩, []),
                (⟨some 75, .op (.ldn 2 (.t 74)), none⟩, []),
                (⟨some 77, .op (.mv (.t 1)), none⟩, []),
                (⟨some 78, .op (.fieldAddr 1 (.t 5)), none⟩, []),
                (⟨some 79, .op (.ld1 (.t 78)), none⟩, []),
                (⟨some 80, .op (.fieldAddr 3 (.t 5)), none⟩, []),
                (⟨some 81, .op (.ldn 2 (.t 80)), none⟩, []),
                (⟨some 76, .call (.c (.fn 27 [] [])) [(.t 71), (.t 73), (.t 75)], none⟩, [7, 9]),
                (⟨some 82, .call (.c (.fn 34 [] [])) [(.t 77), (.t 79), (.t 81)], none⟩, []),
                (⟨some 83, .op (.bin .eql (.t 76) (.t 82)), none⟩, []),
                (⟨some 6, .op (.mv (.t 83)), none⟩, [])]) (
              .ret)) (
             .skip))))))))))) (
   .seq (
    .reg [1, 5, 11, 12] [
      ⟨some 85, .op (.mv (.t 0)), none⟩,
      ⟨some 86, .op (.fieldAddr 3 (.t 5)), none⟩,
      ⟨some 87, .op (.ldn 2 (.t 86)), none⟩,
      ⟨some 88, .op (.fieldAddr 5 (.t 5)), none⟩,
      ⟨some 89, .op (.ld1 (.t 88)), none⟩,
      ⟨some 90, .call (.c (.fn 14 [] [])) [(.t 85), (.t 87), (.t 89)], none⟩,
      ⟨some 84, .op (.mv (.t 90)), none⟩,
      ⟨some 91, .op (.extract (.t 84) 0), none⟩,
      ⟨some 92, .op (.extract (.t 84) 1), none⟩,
      ⟨some 11, .op (.mv (.t 91)), none⟩,
      ⟨some 12, .op (.mv (.t 92)), none⟩]) (
    .seq (
     .reg [11, 12, 13, 14] [
       ⟨some 94, .op (.mv (.t 1)), none⟩,
       ⟨some 95, .op (.fieldAddr 3 (.t 5)), none⟩,
       ⟨some 96, .op (.ldn 2 (.t 95)), none⟩,
       ⟨some 97, .op (.fieldAddr 5 (.t 5)), none⟩,
       ⟨some 98, .op (.ld1 (.t 97)), none⟩,
       ⟨some 99, .call (.c (.fn 35 [] [])) [(.t 94), (.t 96), (.t 98)], none⟩,
       ⟨some 93, .op (.mv (.t 99)), none⟩,
       ⟨some 100, .op (.extract (.t 93) 0), none⟩,
       ⟨some 101, .op (.extract (.t 93) 1), none⟩,
       ⟨some 13, .op (.mv (.t 100)), none⟩,
       ⟨some 14, .op (.mv (.t 101)), none⟩]) (
     .seq (
      .reg [6] [
        ⟨some 102, .op (.mv (.t 11)), none⟩,
        ⟨some 103, .op (.mv (.t 13)), none⟩,
        ⟨some 104, .op (.bin .eql (.t 102) (.t 103)), none⟩,
        ⟨some 105, .op (.mv (.t 104)), none⟩,
        ⟨some 106, .op (.mv (.t 12)), some (105, true)⟩,
        ⟨some 107, .op (.mv (.t 14)), some (105, true)⟩,
        ⟨some 108, .op (.bin .eql (.t 106) (.t 107)), some (105, true)⟩,
        ⟨some 109, .pick (.t 105) (.t 108) (.c (.bool false)), none⟩,
        ⟨some 6, .op (.mv (.t 109)), none⟩]) (
      .ret)))))
theorem cf15 : compF Try.prog Try.f15 h15 = some (ac15, rs15) := by kernel_rfl

/-! mailcoach/mailcoachlaw18.few params 1 -/
def h16 : Hints := ⟨[(5, [2]), (4, [1, 2]), (3, [1, 2]), (2, [1, 2]), (1, [1, 2, 5]), (0, [1, 2])], [], []⟩
def rs16 : List ARes := [.cn 2 7]
def ac16 : ACode :=
 .seq (
  .reg [1, 2] [
    ⟨some 1, .op (.box (.t 0)), none⟩,
    ⟨some 2, .op (.alloc [.int .u8 0, .int .u64 0, .int .i64 0, .int .u64 0, .int .u64 0, .str ⟨#[]⟩, .bool false]), none⟩]) (
  .seq (
   .seq (
    .reg [1, 2, 5] [
      ⟨some 3, .op (.fieldAddr 6 (.t 1)), none⟩,
      ⟨some 4, .op (.ld1 (.t 3)), none⟩,
      ⟨some 5, .op (.un .not (.t 4)), none⟩]) (
    .cond (.t 5) (
     .seq (
      .reg [1, 2] [
        ⟨some 6, .op (.fieldAddr 1 (.t 1)), none⟩,
        ⟨some 7, .op (.ld1 (.t 6)), none⟩,
        ⟨some 8, .op (.bin .rem (.t 7) (.c (.int .u64 12))), none⟩,
        ⟨some 9, .op (.fieldAddr 2 (.t 1)), none⟩,
        ⟨some 10, .op (.ld1 (.t 9)), none⟩,
        ⟨some 11, .op (.toInt .u64 (.t 10)), none⟩,
        ⟨some 12, .op (.bin .rem (.t 11) (.c (.int .u64 5))), none⟩,
        ⟨some 13, .op (.toInt .i64 (.t 12)), none⟩,
        ⟨some 14, .op (.fieldAddr 1 (.t 1)), none⟩,
        ⟨none, .op (.st 1 (.t 14) (.t 8)), none⟩,
        ⟨some 15, .op (.fieldAddr 2 (.t 1)), none⟩,
        ⟨none, .op (.st 1 (.t 15) (.t 13)), none⟩]) (
      .seq (
       .reg [1, 2] [
         ⟨some 16, .op (.fieldAddr 3 (.t 1)), none⟩,
         ⟨some 17, .op (.fieldAddr 0 (.t 16)), none⟩,
         ⟨some 18, .op (.ld1 (.t 17)), none⟩,
         ⟨some 19, .op (.bin .rem (.t 18) (.c (.int .u64 3))), none⟩,
         ⟨some 20, .op (.fieldAddr 3 (.t 1)), none⟩,
         ⟨some 21, .op (.fieldAddr 1 (.t 20)), none⟩,
         ⟨some 22, .op (.ld1 (.t 21)), none⟩,
         ⟨some 23, .op (.bin .rem (.t 22) (.c (.int .u64 6))), none⟩,
         ⟨some 24, .op (.build [.int .u64 0, .int .u64 0] [(0, 1, (.t 19)), (1, 1, (.t 23))]), none⟩,
         ⟨some 25, .op (.fieldAddr 3 (.t 1)), none⟩,
         ⟨none, .op (.st 2 (.t 25) (.t 24)), none⟩]) (
       .reg [1, 2] [
         ⟨some 26, .op (.buildSl 1 [.str ⟨#[]⟩] 4 [(0, (.c (.str ⟨#[97]⟩))), (1, (.c (.str ⟨#[98]⟩))), (2, (.c (.str ⟨#[99]⟩))), (3, (.c (.str ⟨#[]⟩)))]), none⟩,
         ⟨some 27, .op (.fieldAddr 5 (.t 1)), none⟩,
         ⟨some 28, .op (.ld1 (.t 27)), none⟩,
         ⟨some 29, .op (.len 9 (.t 28)), none⟩,
         ⟨some 30, .op (.bin .rem (.t 29) (.c (.int .i64 4))), none⟩,
         ⟨some 31, .op (.idxAddr 1 (.t 26) (.t 30)), none⟩,
         ⟨some 32, .op (.ld1 (.t 31)), none⟩,
         ⟨some 33, .op (.fieldAddr 5 (.t 1)), none⟩,
         ⟨none, .op (.st 1 (.t 33) (.t 32)), none⟩]))) (
     .skip))) (
   .seq (
    .reg [2] [
      ⟨some 34, .op (.ldn 7 (.t 1)), none⟩,
      ⟨none, .op (.st 7 (.t 2) (.t 34)), none⟩]) (
    .ret)))
theorem cf16 : compF Try.prog Try.f16 h16 = some (ac16, rs16) := by kernel_rfl

/-! mailcoach/mailcoachref15.SameOuts params 2 -/
def h17 : Hints := ⟨[(8, [4]), (5, [0, 1, 5]), (7, [4]), (6, [0, 1, 5, 25]), (4, [0, 1, 5, 14]), (3, [0, 1, 5]), (2, [4]), (1, [0, 1, 10]), (0, [0, 1])], [(4, [0, 1, 5])], [(6, [(0, []), (1, []), (2, []), (3, []), (4, []), (5, []), (6, []), (7, []), (8, [])])]⟩
def rs17 : List ARes := [.t 4]
def ac17 : ACode :=
 .seq (
  .reg [0, 1] [
    ⟨some 4, .op (.mv (.c (.bool false))), none⟩]) (
  .seq (
   .seq (
    .reg [0, 1, 10] [
      ⟨some 6, .op (.mv (.t 0)), none⟩,
      ⟨some 7, .op (.len 1 (.t 6)), none⟩,
      ⟨some 8, .op (.mv (.t 1)), none⟩,
      ⟨some 9, .op (.len 1 (.t 8)), none⟩,
      ⟨some 10, .op (.bin .neq (.t 7) (.t 9)), none⟩]) (
    .cond (.t 10) (
     .seq (
      .reg [4] [
        ⟨some 4, .op (.mv (.c (.bool false))), none⟩]) (
      .ret)) (
     .skip))) (
   .seq (
    .seq (
     .reg [0, 1, 5] [
       ⟨some 5, .op (.mv (.c (.int .i64 0))), none⟩]) (
     .block 0 (
      .loop [0, 1, 5] (
       .seq (
        .seq (
         .reg [0, 1, 5, 14] [
           ⟨some 11, .op (.mv (.t 5)), none⟩,
           ⟨some 12, .op (.mv (.t 0)), none⟩,
           ⟨some 13, .op (.len 1 (.t 12)), none⟩,
           ⟨some 14, .op (.bin .lss (.t 11) (.t 13)), none⟩]) (
         .cond (.t 14) (
          .skip) (
          .exit 0))) (
        .seq (
         .block 1 (
          .seq (
           .dreg [0, 1, 5, 25] [
             (⟨some 17, .op (.mv (.t 0)), none⟩, []),
             (⟨some 18, .op (.mv (.t 5)), none⟩, []),
             (⟨some 19, .op (.idxAddr 4 (.t 17) (.t 18)), none⟩, []),
             (⟨some 20, .op (.ldn 4 (.t 19)), none⟩, []),
             (⟨some 21, .op (.mv (.t 1)), none⟩, []),
             (⟨some 22, .op (.mv (.t 5)), none⟩, []),
             (⟨some 23, .op (.idxAddr 4 (.t 21) (.t 22)), none⟩, []),
             (⟨some 24, .op (.ldn 4 (.t 23)), none⟩, []),
             (⟨some 25, .op (.eqs true [1, 1, 1, 2] (.t 20) (.t 24)), none⟩, [])]) (
           .cond (.t 25) (
            .seq (
             .reg [4] [
               ⟨some 4, .op (.mv (.c (.bool false))), none⟩]) (
             .ret)) (
            .skip)))) (
         .reg [0, 1, 5] [
           ⟨some 15, .op (.mv (.t 5)), none⟩,
           ⟨some 16, .op (.bin .add (.t 15) (.c (.int .i64 1))), none⟩,
           ⟨some 5, .op (.mv (.t 16)), none⟩])))))) (
    .seq (
     .reg [4] [
       ⟨some 4, .op (.mv (.c (.bool true))), none⟩]) (
     .ret))))
theorem cf17 : compF Try.prog Try.f17 h17 = some (ac17, rs17) := by kernel_rfl

/-! (*mailcoach/dispatch.Desk).All params 1 -/
def h18 : Hints := ⟨[(3, [2]), (2, [2]), (1, [0, 4]), (0, [0])], [], []⟩
def rs18 : List ARes := [.t 2]
def ac18 : ACode :=
 .seq (
  .reg [0] [
    ⟨some 2, .op (.mv (.c (.nilsl))), none⟩]) (
  .seq (
   .seq (
    .reg [0, 4] [
      ⟨some 3, .op (.mv (.t 0)), none⟩,
      ⟨some 4, .op (.eqn 0 false (.t 3) (.c (.nilp))), none⟩]) (
    .cond (.t 4) (
     .seq (
      .reg [2] [
        ⟨some 2, .op (.mv (.c (.nilsl))), none⟩]) (
      .ret)) (
     .skip))) (
   .seq (
    .reg [2] [
      ⟨some 5, .op (.mv (.t 0)), none⟩,
      ⟨some 6, .op (.nilCheck (.t 5)), none⟩,
      ⟨some 7, .op (.fieldAddr 3 (.t 6)), none⟩,
      ⟨some 8, .op (.ld1 (.t 7)), none⟩,
      ⟨some 9, .call (.c (.fn 37 [] [])) [(.t 8)], none⟩,
      ⟨some 10, .call (.c (.fn 36 [] [])) [(.t 9), (.c (.fn 38 [] []))], none⟩,
      ⟨some 2, .op (.mv (.t 10)), none⟩]) (
    .ret)))
theorem cf18 : compF Try.prog Try.f18 h18 = some (ac18, rs18) := by kernel_rfl

/-! mailcoach/mailcoachref15.SameConsumers params 2 -/
def h19 : Hints := ⟨[(8, [4]), (5, [0, 1, 5]), (7, [4]), (6, [0, 1, 5, 25]), (4, [0, 1, 5, 14]), (3, [0, 1, 5]), (2, [4]), (1, [0, 1, 10]), (0, [0, 1])], [(4, [0, 1, 5])], [(6, [(0, []), (1, []), (2, []), (3, []), (4, []), (5, []), (6, []), (7, []), (8, [])])]⟩
def rs19 : List ARes := [.t 4]
def ac19 : ACode :=
 .seq (
  .reg [0, 1] [
    ⟨some 4, .op (.mv (.c (.bool false))), none⟩]) (
  .seq (
   .seq (
    .reg [0, 1, 10] [
      ⟨some 6, .op (.mv (.t 0)), none⟩,
      ⟨some 7, .op (.len 1 (.t 6)), none⟩,
      ⟨some 8, .op (.mv (.t 1)), none⟩,
      ⟨some 9, .op (.len 1 (.t 8)), none⟩,
      ⟨some 10, .op (.bin .neq (.t 7) (.t 9)), none⟩]) (
    .cond (.t 10) (
     .seq (
      .reg [4] [
        ⟨some 4, .op (.mv (.c (.bool false))), none⟩]) (
      .ret)) (
     .skip))) (
   .seq (
    .seq (
     .reg [0, 1, 5] [
       ⟨some 5, .op (.mv (.c (.int .i64 0))), none⟩]) (
     .block 0 (
      .loop [0, 1, 5] (
       .seq (
        .seq (
         .reg [0, 1, 5, 14] [
           ⟨some 11, .op (.mv (.t 5)), none⟩,
           ⟨some 12, .op (.mv (.t 0)), none⟩,
           ⟨some 13, .op (.len 1 (.t 12)), none⟩,
           ⟨some 14, .op (.bin .lss (.t 11) (.t 13)), none⟩]) (
         .cond (.t 14) (
          .skip) (
          .exit 0))) (
        .seq (
         .block 1 (
          .seq (
           .dreg [0, 1, 5, 25] [
             (⟨some 17, .op (.mv (.t 0)), none⟩, []),
             (⟨some 18, .op (.mv (.t 5)), none⟩, []),
             (⟨some 19, .op (.idxAddr 2 (.t 17) (.t 18)), none⟩, []),
             (⟨some 20, .op (.ldn 2 (.t 19)), none⟩, []),
             (⟨some 21, .op (.mv (.t 1)), none⟩, []),
             (⟨some 22, .op (.mv (.t 5)), none⟩, []),
             (⟨some 23, .op (.idxAddr 2 (.t 21) (.t 22)), none⟩, []),
             (⟨some 24, .op (.ldn 2 (.t 23)), none⟩, []),
             (⟨some 25, .op (.eqs true [1, 1] (.t 20) (.t 24)), none⟩, [])]) (
           .cond (.t 25) (
            .seq (
             .reg [4] [
               ⟨some 4, .op (.mv (.c (.bool false))), none⟩]) (
             .ret)) (
            .skip)))) (
         .reg [0, 1, 5] [
           ⟨some 15, .op (.mv (.t 5)), none⟩,
           ⟨some 16, .op (.bin .add (.t 15) (.c (.int .i64 1))), none⟩,
           ⟨some 5, .op (.mv (.t 16)), none⟩])))))) (
    .seq (
     .reg [4] [
       ⟨some 4, .op (.mv (.c (.bool true))), none⟩]) (
     .ret))))
theorem cf19 : compF Try.prog Try.f19 h19 = some (ac19, rs19) := by kernel_rfl

/-! (*mailcoach/dispatch.Desk).Consumers params 1 -/
def h20 : Hints := ⟨[(9, [2]), (8, [0, 3, 11, 12, 13]), (7, [0, 3, 11, 12, 13]), (6, [0, 3, 5, 11, 12, 13]), (5, [0, 3, 11, 12, 13, 14]), (4, [0, 3, 11, 12, 13]), (3, [2]), (2, [0, 3, 7]), (1, [0, 3]), (0, [0])], [(5, [0, 3, 11, 12, 13])], []⟩
def rs20 : List ARes := [.t 2]
def ac20 : ACode :=
 .seq (
  .reg [0] [
    ⟨some 2, .op (.mv (.c (.nilsl))), none⟩]) (
  .seq (
   .reg [0, 3] [
     ⟨some 3, .op (.mv (.c (.nilsl))), none⟩]) (
   .seq (
    .seq (
     .reg [0, 3, 7] [
       ⟨some 6, .op (.mv (.t 0)), none⟩,
       ⟨some 7, .op (.eqn 0 false (.t 6) (.c (.nilp))), none⟩]) (
     .cond (.t 7) (
      .seq (
       .reg [2] [
         ⟨some 2, .op (.mv (.c (.nilsl))), none⟩]) (
       .ret)) (
      .skip))) (
    .seq (
     .seq (
      .reg [0, 3, 11, 12, 13] [
        ⟨some 8, .op (.mv (.t 0)), none⟩,
        ⟨some 9, .op (.nilCheck (.t 8)), none⟩,
        ⟨some 10, .op (.fieldAddr 1 (.t 9)), none⟩,
        ⟨some 11, .op (.ld1 (.t 10)), none⟩,
        ⟨some 12, .op (.len 1 (.t 11)), none⟩,
        ⟨some 13, .op (.mv (.c (.int .i64 0))), none⟩]) (
      .block 0 (
       .loop [0, 3, 11, 12, 13] (
        .seq (
         .reg [0, 3, 11, 12, 13, 14] [
           ⟨some 14, .op (.bin .lss (.t 13) (.t 12)), none⟩]) (
         .seq (
          .cond (.t 14) (
           .skip) (
           .exit 0)) (
          .seq (
           .block 1 (
            .seq (
             .reg [0, 3, 5, 11, 12, 13] [
               ⟨some 15, .op (.idxAddr 1 (.t 11) (.t 13)), none⟩,
               ⟨some 16, .op (.ld1 (.t 15)), none⟩,
               ⟨some 5, .op (.mv (.t 16)), none⟩]) (
             .reg [0, 3, 11, 12, 13] [
               ⟨some 17, .op (.mv (.t 3)), none⟩,
               ⟨some 18, .op (.mv (.t 5)), none⟩,
               ⟨some 19, .op (.mv (.t 0)), none⟩,
               ⟨some 20, .op (.nilCheck (.t 19)), none⟩,
               ⟨some 21, .op (.fieldAddr 2 (.t 20)), none⟩,
               ⟨some 22, .op (.ld1 (.t 21)), none⟩,
               ⟨some 23, .op (.mv (.t 5)), none⟩,
               ⟨some 24, .op (.lookup (.int .i64 0) false [1] (.t 22) (.t 23) false), none⟩,
               ⟨some 25, .op (.build [.int .u64 0, .int .i64 0] [(0, 1, (.t 18)), (1, 1, (.t 24))]), none⟩,
               ⟨some 26, .op (.buildSl 2 [.int .u64 0, .int .i64 0] 1 [(0, (.t 25))]), none⟩,
               ⟨some 27, .op (.append 2 16 (.t 17) (.t 26)), none⟩,
               ⟨some 3, .op (.mv (.t 27)), none⟩]))) (
           .reg [0, 3, 11, 12, 13] [
             ⟨some 28, .op (.bin .add (.t 13) (.c (.int .i64 1))), none⟩,
             ⟨some 13, .op (.mv (.t 28)), none⟩]))))))) (
     .seq (
      .reg [2] [
        ⟨some 29, .op (.mv (.t 3)), none⟩,
        ⟨some 2, .op (.mv (.t 29)), none⟩]) (
      .ret)))))
theorem cf20 : compF Try.prog Try.f20 h20 = some (ac20, rs20) := by kernel_rfl

/-! mailcoach/mailcoachlaw18.play params 3 -/
def h21 : Hints := ⟨[(25, [6]), (24, [2, 7, 20, 21, 22]), (23, [6]), (22, [2, 7, 20, 21, 22, 84]), (14, [2, 7, 10, 11, 12, 20, 21, 22]), (16, [2, 7, 10, 11, 12, 20, 21, 22]), (19, [2, 7, 10, 11, 12, 20, 21, 22]), (21, [2, 7, 10, 11, 12, 20, 21, 22]), (12, [2, 7, 10, 11, 12, 20, 21, 22]), (20, [2, 7, 10, 11, 12, 20, 21, 22, 70]), (18, [2, 7, 10, 11, 12, 20, 21, 22, 39, 61]), (17, [2, 7, 10, 11, 12, 20, 21, 22, 39, 61]), (15, [2, 7, 10, 11, 12, 20, 21, 22, 39, 55]), (13, [2, 7, 10, 11, 12, 20, 21, 22, 39, 49]), (11, [2, 7, 10, 11, 12, 20, 21, 22, 39]), (10, [2, 7, 10, 11, 12, 20, 21, 22]), (9, [2, 7, 10, 11, 20, 21, 22]), (8, [2, 7, 10, 20, 21, 22]), (7, [2, 7, 10, 20, 21, 22, 34]), (6, [2, 7, 9, 10, 20, 21, 22]), (5, [2, 7, 20, 21, 22, 23]), (4, [2, 7, 20, 21, 22]), (3, [6]), (2, [1, 2, 7, 19]), (1, [1, 2, 7, 8]), (0, [0, 1, 2])], [(5, [2, 7, 20, 21, 22])], []⟩
def rs21 : List ARes := [.t 6]
def ac21 : ACode :=
 .seq (
  .reg [0, 1, 2] [
    ⟨some 6, .op (.mv (.c (.bool false))), none⟩]) (
  .seq (
   .reg [1, 2, 7, 8] [
     ⟨some 14, .op (.mv (.t 0)), none⟩,
     ⟨some 15, .call (.c (.fn 11 [] [])) [(.t 14)], none⟩,
     ⟨some 13, .op (.mv (.t 15)), none⟩,
     ⟨some 16, .op (.extract (.t 13) 0), none⟩,
     ⟨some 17, .op (.extract (.t 13) 1), none⟩,
     ⟨some 7, .op (.mv (.t 16)), none⟩,
     ⟨some 8, .op (.mv (.t 17)), none⟩]) (
   .seq (
    .seq (
     .reg [1, 2, 7, 19] [
       ⟨some 18, .op (.mv (.t 8)), none⟩,
       ⟨some 19, .op (.bin .neq (.t 18) (.c (.int .i64 0))), none⟩]) (
     .cond (.t 19) (
      .seq (
       .reg [6] [
         ⟨some 6, .op (.mv (.c (.bool false))), none⟩]) (
       .ret)) (
      .skip))) (
    .seq (
     .seq (
      .reg [2, 7, 20, 21, 22] [
        ⟨some 20, .op (.mv (.t 1)), none⟩,
        ⟨some 21, .op (.len 1 (.t 20)), none⟩,
        ⟨some 22, .op (.mv (.c (.int .i64 0))), none⟩]) (
      .block 0 (
       .loop [2, 7, 20, 21, 22] (
        .seq (
         .reg [2, 7, 20, 21, 22, 23] [
           ⟨some 23, .op (.bin .lss (.t 22) (.t 21)), none⟩]) (
         .seq (
          .cond (.t 23) (
           .skip) (
           .exit 0)) (
          .seq (
           .block 1 (
            .seq (
             .reg [2, 7, 9, 10, 20, 21, 22] [
               ⟨some 24, .op (.mv (.t 22)), none⟩,
               ⟨some 25, .op (.idxAddr 7 (.t 20) (.t 22)), none⟩,
               ⟨some 26, .op (.ldn 7 (.t 25)), none⟩,
               ⟨some 10, .op (.alloc [.int .u8 0, .int .u64 0, .int .i64 0, .int .u64 0, .int .u64 0, .str ⟨#[]⟩, .bool false]), none⟩,
               ⟨some 9, .op (.mv (.t 24)), none⟩,
               ⟨none, .op (.st 7 (.t 10) (.t 26)), none⟩]) (
             .seq (
              .seq (
               .reg [2, 7, 10, 20, 21, 22, 34] [
                 ⟨some 27, .op (.mv (.t 9)), none⟩,
                 ⟨some 28, .op (.bin .gtr (.t 27) (.c (.int .i64 200))), none⟩,
                 ⟨some 29, .op (.mv (.t 28)), none⟩,
                 ⟨some 30, .op (.fieldAddr 5 (.t 10)), some (29, false)⟩,
                 ⟨some 31, .op (.ld1 (.t 30)), some (29, false)⟩,
                 ⟨some 32, .op (.len 9 (.t 31)), some (29, false)⟩,
                 ⟨some 33, .op (.bin .gtr (.t 32) (.c (.int .i64 200))), some (29, false)⟩,
                 ⟨some 34, .pick (.t 29) (.c (.bool true)) (.t 33), none⟩]) (
               .cond (.t 34) (
                .exit 0) (
                .skip))) (
              .seq (
               .reg [2, 7, 10, 20, 21, 22] [
                 ⟨some 35, .op (.ldn 7 (.t 10)), none⟩,
                 ⟨some 36, .call (.c (.fn 16 [] [])) [(.t 35)], none⟩,
                 ⟨none, .op (.st 7 (.t 10) (.t 36)), none⟩]) (
               .seq (
                .reg [2, 7, 10, 11, 20, 21, 22] [
                  ⟨some 11, .op (.mv (.c (.int .u64 0))), none⟩]) (
                .seq (
                 .reg [2, 7, 10, 11, 12, 20, 21, 22] [
                   ⟨some 12, .op (.mv (.c (.int .i64 16))), none⟩]) (
                 .seq (
                  .seq (
                   .reg [2, 7, 10, 11, 12, 20, 21, 22, 39] [
                     ⟨some 37, .op (.fieldAddr 0 (.t 10)), none⟩,
                     ⟨some 38, .op (.ld1 (.t 37)), none⟩,
                     ⟨some 39, .op (.bin .rem (.t 38) (.c (.int .u8 8))), none⟩]) (
                   .block 2 (
                    .seq (
                     .reg [2, 7, 10, 11, 12, 20, 21, 22, 39, 49] [
                       ⟨some 50, .op (.bin .eql (.t 39) (.c (.int .u8 0))), none⟩,
                       ⟨some 49, .op (.mv (.t 50)), none⟩]) (
                     .cond (.t 49) (
                      .reg [2, 7, 10, 11, 12, 20, 21, 22] [
                        ⟨some 51, .op (.mv (.t 7)), none⟩,
                        ⟨some 52, .op (.fieldAddr 1 (.t 10)), none⟩,
                        ⟨some 53, .op (.ld1 (.t 52)), none⟩,
                        ⟨some 54, .call (.c (.fn 12 [] [])) [(.t 51), (.t 53)], none⟩]) (
                      .seq (
                       .reg [2, 7, 10, 11, 12, 20, 21, 22, 39, 55] [
                         ⟨some 56, .op (.bin .eql (.t 39) (.c (.int .u8 1))), none⟩,
                         ⟨some 55, .op (.mv (.t 56)), none⟩]) (
                       .cond (.t 55) (
                        .reg [2, 7, 10, 11, 12, 20, 21, 22] [
                          ⟨some 57, .op (.mv (.t 7)), none⟩,
                          ⟨some 58, .op (.fieldAddr 1 (.t 10)), none⟩,
                          ⟨some 59, .op (.ld1 (.t 58)), none⟩,
                          ⟨some 60, .call (.c (.fn 26 [] [])) [(.t 57), (.t 59)], none⟩]) (
                        .seq (
                         .seq (
                          .reg [2, 7, 10, 11, 12, 20, 21, 22, 39, 61] [
                            ⟨some 62, .op (.bin .eql (.t 39) (.c (.int .u8 2))), none⟩,
                            ⟨some 61, .op (.mv (.t 62)), none⟩]) (
                          .cond (.t 61) (
                           .skip) (
                           .reg [2, 7, 10, 11, 12, 20, 21, 22, 39, 61] [
                             ⟨some 63, .op (.bin .eql (.t 39) (.c (.int .u8 3))), none⟩,
                             ⟨some 61, .op (.mv (.t 63)), none⟩]))) (
                         .cond (.t 61) (
                          .reg [2, 7, 10, 11, 12, 20, 21, 22] [
                            ⟨some 64, .op (.mv (.t 7)), none⟩,
                            ⟨some 65, .op (.fieldAddr 1 (.t 10)), none⟩,
                            ⟨some 66, .op (.ld1 (.t 65)), none⟩,
                            ⟨some 67, .op (.fieldAddr 2 (.t 10)), none⟩,
                            ⟨some 68, .op (.ld1 (.t 67)), none⟩,
                            ⟨some 69, .call (.c (.fn 13 [] [])) [(.t 64), (.t 66), (.t 68)], none⟩]) (
                          .seq (
                           .reg [2, 7, 10, 11, 12, 20, 21, 22, 70] [
                             ⟨some 71, .op (.bin .eql (.t 39) (.c (.int .u8 7))), none⟩,
                             ⟨some 70, .op (.mv (.t 71)), none⟩]) (
                           .cond (.t 70) (
                            .reg [2, 7, 10, 11, 12, 20, 21, 22] [
                              ⟨some 72, .op (.mv (.t 7)), none⟩,
                              ⟨some 73, .op (.fieldAddr 1 (.t 10)), none⟩,
                              ⟨some 74, .op (.ld1 (.t 73)), none⟩,
                              ⟨some 75, .op (.fieldAddr 3 (.t 10)), none⟩,
                              ⟨some 76, .op (.ldn 2 (.t 75)), none⟩,
                              ⟨some 77, .call (.c (.fn 27 [] [])) [(.t 72), (.t 74), (.t 76)], none⟩]) (
                            .reg [2, 7, 10, 11, 12, 20, 21, 22] [
                              ⟨some 41, .op (.mv (.t 7)), none⟩,
                              ⟨some 42, .op (.fieldAddr 3 (.t 10)), none⟩,
                              ⟨some 43, .op (.ldn 2 (.t 42)), none⟩,
                              ⟨some 44, .op (.fieldAddr 5 (.t 10)), none⟩,
                              ⟨some 45, .op (.ld1 (.t 44)), none⟩,
                              ⟨some 46, .call (.c (.fn 14 [] [])) [(.t 41), (.t 43), (.t 45)], none⟩,
                              ⟨some 40, .op (.mv (.t 46)), none⟩,
                              ⟨some 47, .op (.extract (.t 40) 0), none⟩,
                              ⟨some 48, .op (.extract (.t 40) 1), none⟩,
                              ⟨some 11, .op (.mv (.t 47)), none⟩,
                              ⟨some 12, .op (.mv (.t 48)), none⟩]))))))))))) (
                  .seq (
                   .reg [2, 7, 20, 21, 22, 84] [
                     ⟨some 78, .op (.mv (.t 2)), none⟩,
                     ⟨some 79, .op (.mv (.t 7)), none⟩,
                     ⟨some 80, .op (.ldn 7 (.t 10)), none⟩,
                     ⟨some 81, .op (.mv (.t 11)), none⟩,
                     ⟨some 82, .op (.mv (.t 12)), none⟩,
                     ⟨some 83, .call (.t 78) [(.t 79), (.t 80), (.t 81), (.t 82)], none⟩,
                     ⟨some 84, .op (.un .not (.t 83)), none⟩]) (
                   .cond (.t 84) (
                    .seq (
                     .reg [6] [
                       ⟨some 6, .op (.mv (.c (.bool false))), none⟩]) (
                     .ret)) (
                    .skip)))))))))) (
           .reg [2, 7, 20, 21, 22] [
             ⟨some 85, .op (.bin .add (.t 22) (.c (.int .i64 1))), none⟩,
             ⟨some 22, .op (.mv (.t 85)), none⟩]))))))) (
     .seq (
      .reg [6] [
        ⟨some 6, .op (.mv (.c (.bool true))), none⟩]) (
      .ret)))))
theorem cf21 : compF Try.prog Try.f21 h21 = some (ac21, rs21) := by kernel_rfl

/-! mailcoach/ledgers.Order params 2 -/
def h25 : Hints := ⟨[(1, [4]), (0, [2, 3])], [], [(1, [(0, []), (1, []), (2, []), (3, []), (5, []), (6, []), (7, []), (8, []), (4, [5, 7]), (9, []), (10, []), (11, []), (12, [])])]⟩
def rs25 : List ARes := [.t 4]
def ac25 : ACode :=
 .seq (
  .reg [2, 3] [
    ⟨some 2, .op (.box (.t 0)), none⟩,
    ⟨some 3, .op (.box (.t 1)), none⟩,
    ⟨some 4, .op (.mv (.c (.int .i64 0))), none⟩]) (
  .seq (
   .dreg [4] [
     (⟨some 5, .op (.fieldAddr 0 (.t 2)), none⟩, []),
     (⟨some 6, .op (.ld1 (.t 5)), none⟩, []),
     (⟨some 7, .op (.fieldAddr 0 (.t 3)), none⟩, []),
     (⟨some 8, .op (.ld1 (.t 7)), none⟩, []),
     (⟨some 10, .op (.fieldAddr 1 (.t 2)), none⟩, []),
     (⟨some 11, .op (.ld1 (.t 10)), none⟩, []),
     (⟨some 12, .op (.fieldAddr 1 (.t 3)), none⟩, []),
     (⟨some 13, .op (.ld1 (.t 12)), none⟩, []),
     (⟨some 9, .call (.c (.fn 40 [] [])) [(.t 6), (.t 8)], none⟩, [5, 7]),
     (⟨some 14, .call (.c (.fn 40 [] [])) [(.t 11), (.t 13)], none⟩, []),
     (⟨some 15, .op (.buildSl 1 [.int .i64 0] 2 [(0, (.t 9)), (1, (.t 14))]), none⟩, []),
     (⟨some 16, .call (.c (.fn 39 [] [])) [(.t 15)], none⟩, []),
     (⟨some 4, .op (.mv (.t 16)), none⟩, [])]) (
   .ret))
theorem cf25 : compF Try.prog Try.f25 h25 = some (ac25, rs25) := by kernel_rfl

/-! (*mailcoach/dispatch.Desk).Leave params 2 -/
def h26 : Hints := ⟨[(13, [4, 5]), (12, [6]), (11, [2, 6, 7]), (10, [2, 6, 7, 40]), (9, [2, 3, 6, 7]), (8, [2, 3, 6, 35]), (7, [2, 3, 6]), (6, [2, 3]), (5, [2, 3]), (2, [4, 5]), (4, [4, 5]), (3, [2, 3, 11]), (1, [2, 3, 8]), (0, [2, 3])], [], [(3, [(0, []), (1, []), (2, []), (3, []), (4, []), (5, []), (6, []), (7, [])]), (5, [(0, []), (1, []), (2, []), (3, []), (4, []), (5, []), (6, [0]), (7, []), (8, []), (9, [])]), (6, [(0, []), (1, []), (2, []), (3, []), (4, []), (5, [])]), (12, [(0, []), (1, []), (2, []), (3, []), (4, []), (5, []), (6, [])])]⟩
def rs26 : List ARes := [.t 4, .t 5]
def ac26 : ACode :=
 .seq (
  .reg [2, 3] [
    ⟨some 2, .op (.box (.t 0)), none⟩,
    ⟨some 3, .op (.box (.t 1)), none⟩,
    ⟨some 4, .op (.mv (.c (.nilsl))), none⟩,
    ⟨some 5, .op (.mv (.c (.int .i64 0))), none⟩]) (
  .seq (
   .block 0 (
    .seq (
     .reg [2, 3, 8] [
       ⟨some 9, .op (.ld1 (.t 2)), none⟩,
       ⟨some 10, .op (.eqn 0 false (.t 9) (.c (.nilp))), none⟩,
       ⟨some 8, .op (.mv (.t 10)), none⟩]) (
     .cond (.t 8) (
      .seq (
       .reg [4, 5] [
         ⟨some 4, .op (.mv (.c (.nilsl))), none⟩,
         ⟨some 5, .op (.mv (.c (.int .i64 1))), none⟩]) (
       .ret)) (
      .seq (
       .dreg [2, 3, 11] [
         (⟨some 12, .op (.ld1 (.t 2)), none⟩, []),
         (⟨some 13, .op (.nilCheck (.t 12)), none⟩, []),
         (⟨some 14, .op (.fieldAddr 1 (.t 13)), none⟩, []),
         (⟨some 15, .op (.ld1 (.t 14)), none⟩, []),
         (⟨some 16, .op (.ld1 (.t 3)), none⟩, []),
         (⟨some 17, .call (.c (.fn 29 [] [])) [(.t 15), (.t 16)], none⟩, []),
         (⟨some 18, .op (.un .not (.t 17)), none⟩, []),
         (⟨some 11, .op (.mv (.t 18)), none⟩, [])]) (
       .cond (.t 11) (
        .seq (
         .reg [4, 5] [
           ⟨some 4, .op (.mv (.c (.nilsl))), none⟩,
           ⟨some 5, .op (.mv (.c (.int .i64 61))), none⟩]) (
         .ret)) (
        .skip)))))) (
   .seq (
    .dreg [2, 3] [
      (⟨some 19, .op (.ld1 (.t 2)), none⟩, []),
      (⟨some 20, .op (.ld1 (.t 2)), none⟩, []),
      (⟨some 21, .op (.nilCheck (.t 20)), none⟩, []),
      (⟨some 22, .op (.fieldAddr 1 (.t 21)), none⟩, []),
      (⟨some 23, .op (.ld1 (.t 22)), none⟩, []),
      (⟨some 24, .op (.mkfn 42 [] [(.t 3)]), none⟩, []),
      (⟨some 25, .call (.c (.fn 41 [] [])) [(.t 23), (.t 24)], none⟩, [0]),
      (⟨some 26, .op (.nilCheck (.t 19)), none⟩, []),
      (⟨some 27, .op (.fieldAddr 1 (.t 26)), none⟩, []),
      (⟨none, .op (.st 1 (.t 27) (.t 25)), none⟩, [])]) (
    .seq (
     .dreg [2, 3] [
       (⟨some 28, .op (.ld1 (.t 2)), none⟩, []),
       (⟨some 29, .op (.nilCheck (.t 28)), none⟩, []),
       (⟨some 30, .op (.fieldAddr 2 (.t 29)), none⟩, []),
       (⟨some 31, .op (.ld1 (.t 30)), none⟩, []),
       (⟨some 32, .op (.ld1 (.t 3)), none⟩, []),
       (⟨none, .op (.delete false [1] (.t 31) (.t 32)), none⟩, [])]) (
     .seq (
      .reg [2, 3, 6] [
        ⟨some 6, .op (.alloc [.nilsl]), none⟩]) (
      .seq (
       .seq (
        .reg [2, 3, 6, 35] [
          ⟨some 33, .op (.ld1 (.t 2)), none⟩,
          ⟨some 34, .call (.c (.fn 18 [] [])) [(.t 33)], none⟩,
          ⟨some 35, .call (.c (.fn 43 [] [])) [(.t 34)], none⟩]) (
        .block 1 (
         .rangef (.t 35) [36] (
          .reg [2, 3, 6, 7] [
            ⟨some 7, .op (.alloc [.int .u64 0, .int .u64 0, .int .u64 0, .str ⟨#[]⟩]), none⟩,
            ⟨none, .op (.st 4 (.t 7) (.t 36)), none⟩]) (
          .block 2 (
           .seq (
            .reg [2, 6, 7, 40] [
              ⟨some 37, .op (.fieldAddr 2 (.t 7)), none⟩,
              ⟨some 38, .op (.ld1 (.t 37)), none⟩,
              ⟨some 39, .op (.ld1 (.t 3)), none⟩,
              ⟨some 40, .op (.bin .eql (.t 38) (.t 39)), none⟩]) (
            .cond (.t 40) (
             .seq (
              .reg [2, 6, 7] [
                ⟨some 41, .op (.ld1 (.t 6)), none⟩,
                ⟨some 42, .op (.ldn 4 (.t 7)), none⟩,
                ⟨some 43, .op (.buildSl 4 [.int .u64 0, .int .u64 0, .int .u64 0, .str ⟨#[]⟩] 1 [(0, (.t 42))]), none⟩,
                ⟨some 44, .op (.append 4 40 (.t 41) (.t 43)), none⟩,
                ⟨none, .op (.st 1 (.t 6) (.t 44)), none⟩]) (
              .dreg [6] [
                (⟨some 45, .op (.ld1 (.t 2)), none⟩, []),
                (⟨some 46, .op (.nilCheck (.t 45)), none⟩, []),
                (⟨some 47, .op (.fieldAddr 3 (.t 46)), none⟩, []),
                (⟨some 48, .op (.ld1 (.t 47)), none⟩, []),
                (⟨some 49, .op (.fieldAddr 0 (.t 7)), none⟩, []),
                (⟨some 50, .op (.ldn 2 (.t 49)), none⟩, []),
                (⟨none, .op (.delete true [1, 1] (.t 48) (.t 50)), none⟩, [])])) (
             .skip))))))) (
       .seq (
        .reg [4, 5] [
          ⟨some 51, .op (.ld1 (.t 6)), none⟩,
          ⟨some 4, .op (.mv (.t 51)), none⟩,
          ⟨some 5, .op (.mv (.c (.int .i64 0))), none⟩]) (
        .ret)))))))
theorem cf26 : compF Try.prog Try.f26 h26 = some (ac26, rs26) := by kernel_rfl

/-! (*mailcoach/dispatch.Desk).Done params 3 -/
def h27 : Hints := ⟨[(9, [6]), (8, []), (5, [6]), (7, [6]), (6, [0, 5, 23]), (4, [0, 1, 5, 7, 20]), (3, [0, 1, 5, 7, 8]), (2, [6]), (1, [0, 1, 5, 10]), (0, [0, 1, 5])], [], [(3, [(0, []), (1, []), (2, []), (3, []), (4, []), (5, []), (6, []), (7, []), (8, []), (9, []), (10, []), (11, [])]), (8, [(0, []), (1, []), (2, []), (3, []), (4, []), (5, [])])]⟩
def rs27 : List ARes := [.t 6]
def ac27 : ACode :=
 .seq (
  .reg [0, 1, 5] [
    ⟨some 5, .op (.box (.t 2)), none⟩,
    ⟨some 6, .op (.mv (.c (.int .i64 0))), none⟩]) (
  .seq (
   .seq (
    .reg [0, 1, 5, 10] [
      ⟨some 9, .op (.mv (.t 0)), none⟩,
      ⟨some 10, .op (.eqn 0 false (.t 9) (.c (.nilp))), none⟩]) (
    .cond (.t 10) (
     .seq (
      .reg [6] [
        ⟨some 6, .op (.mv (.c (.int .i64 1))), none⟩]) (
      .ret)) (
     .skip))) (
   .seq (
    .dreg [0, 1, 5, 7, 8] [
      (⟨some 12, .op (.mv (.t 0)), none⟩, []),
      (⟨some 13, .op (.nilCheck (.t 12)), none⟩, []),
      (⟨some 14, .op (.fieldAddr 3 (.t 13)), none⟩, []),
      (⟨some 15, .op (.ld1 (.t 14)), none⟩, []),
      (⟨some 16, .op (.ldn 2 (.t 5)), none⟩, []),
      (⟨some 17, .op (.lookup (.agg [.int .u64 0, .int .u64 0, .int .u64 0, .str ⟨#[]⟩]) true [1, 1] (.t 15) (.t 16) true), none⟩, []),
      (⟨some 11, .op (.mv (.t 17)), none⟩, []),
      (⟨some 18, .op (.extract (.t 11) 0), none⟩, []),
      (⟨some 19, .op (.extract (.t 11) 1), none⟩, []),
      (⟨some 7, .op (.alloc [.int .u64 0, .int .u64 0, .int .u64 0, .str ⟨#[]⟩]), none⟩, []),
      (⟨none, .op (.st 4 (.t 7) (.t 18)), none⟩, []),
      (⟨some 8, .op (.mv (.t 19)), none⟩, [])]) (
    .seq (
     .block 0 (
      .seq (
       .reg [0, 1, 5, 7, 20] [
         ⟨some 21, .op (.mv (.t 8)), none⟩,
         ⟨some 22, .op (.un .not (.t 21)), none⟩,
         ⟨some 20, .op (.mv (.t 22)), none⟩]) (
       .cond (.t 20) (
        .seq (
         .reg [6] [
           ⟨some 6, .op (.mv (.c (.int .i64 11))), none⟩]) (
         .ret)) (
        .seq (
         .reg [0, 5, 23] [
           ⟨some 24, .op (.fieldAddr 2 (.t 7)), none⟩,
           ⟨some 25, .op (.ld1 (.t 24)), none⟩,
           ⟨some 26, .op (.mv (.t 1)), none⟩,
           ⟨some 27, .op (.bin .neq (.t 25) (.t 26)), none⟩,
           ⟨some 23, .op (.mv (.t 27)), none⟩]) (
         .cond (.t 23) (
          .seq (
           .reg [6] [
             ⟨some 6, .op (.mv (.c (.int .i64 61))), none⟩]) (
           .ret)) (
          .skip)))))) (
     .seq (
      .dreg [] [
        (⟨some 28, .op (.mv (.t 0)), none⟩, []),
        (⟨some 29, .op (.nilCheck (.t 28)), none⟩, []),
        (⟨some 30, .op (.fieldAddr 3 (.t 29)), none⟩, []),
        (⟨some 31, .op (.ld1 (.t 30)), none⟩, []),
        (⟨some 32, .op (.ldn 2 (.t 5)), none⟩, []),
        (⟨none, .op (.delete true [1, 1] (.t 31) (.t 32)), none⟩, [])]) (
      .seq (
       .reg [6] [
         ⟨some 6, .op (.mv (.c (.int .i64 0))), none⟩]) (
       .ret))))))
theorem cf27 : compF Try.prog Try.f27 h27 = some (ac27, rs27) := by kernel_rfl

/-! slices.Contains[[]uint64,uint64] params 2 -/
def h29 : Hints := ⟨[(1, [4]), (0, [0, 1])], [], []⟩
def rs29 : List ARes := [.t 4]
def ac29 : ACode :=
 .seq (
  .reg [0, 1] [
    ⟨some 4, .op (.mv (.c (.bool false))), none⟩]) (
  .seq (
   .reg [4] [
     ⟨some 5, .op (.mv (.t 0)), none⟩,
     ⟨some 6, .op (.mv (.t 1)), none⟩,
     ⟨some 7, .call (.c (.fn 44 [] [])) [(.t 5), (.t 6)], none⟩,
     ⟨some 8, .op (.bin .geq (.t 7) (.c (.int .i64 0))), none⟩,
     ⟨some 4, .op (.mv (.t 8)), none⟩]) (
   .ret))
theorem cf29 : compF Try.prog Try.f29 h29 = some (ac29, rs29) := by kernel_rfl

/-! (*mailcoach/dispatch.Desk).may params 2 -/
def h30 : Hints := ⟨[(6, [4]), (3, [4]), (5, [4]), (4, [0, 1, 13]), (2, [0, 1, 8, 9]), (1, [0, 1, 8]), (0, [0, 1])], [], [(6, [(0, []), (1, []), (2, []), (3, []), (4, []), (5, []), (6, []), (7, []), (8, []), (9, []), (10, []), (11, [])])]⟩
def rs30 : List ARes := [.t 4]
def ac30 : ACode :=
 .seq (
  .reg [0, 1] [
    ⟨some 4, .op (.mv (.c (.nilsl))), none⟩]) (
  .seq (
   .seq (
    .reg [0, 1, 8] [
      ⟨some 5, .op (.mv (.t 0)), none⟩,
      ⟨some 6, .op (.nilCheck (.t 5)), none⟩,
      ⟨some 7, .op (.fieldAddr 0 (.t 6)), none⟩,
      ⟨some 8, .op (.ld1 (.t 7)), none⟩]) (
    .block 0 (
     .seq (
      .reg [0, 1, 8, 9] [
        ⟨some 10, .op (.bin .eql (.t 8) (.c (.int .u8 3))), none⟩,
        ⟨some 9, .op (.mv (.t 10)), none⟩]) (
      .cond (.t 9) (
       .seq (
        .reg [4] [
          ⟨some 11, .op (.mv (.t 0)), none⟩,
          ⟨some 12, .call (.c (.fn 45 [] [])) [(.t 11)], none⟩,
          ⟨some 4, .op (.mv (.t 12)), none⟩]) (
        .ret)) (
       .seq (
        .reg [0, 1, 13] [
          ⟨some 14, .op (.bin .eql (.t 8) (.c (.int .u8 4))), none⟩,
          ⟨some 13, .op (.mv (.t 14)), none⟩]) (
        .cond (.t 13) (
         .seq (
          .reg [4] [
            ⟨some 15, .op (.mv (.t 0)), none⟩,
            ⟨some 16, .op (.mv (.t 1)), none⟩,
            ⟨some 17, .call (.c (.fn 46 [] [])) [(.t 15), (.t 16)], none⟩,
            ⟨some 18, .op (.buildSl 1 [.int .u64 0] 1 [(0, (.t 17))]), none⟩,
            ⟨some 4, .op (.mv (.t 18)), none⟩]) (
          .ret)) (
         .skip))))))) (
   .seq (
    .dreg [4] [
      (⟨some 19, .op (.mv (.t 0)), none⟩, []),
      (⟨some 20, .op (.nilCheck (.t 19)), none⟩, []),
      (⟨some 21, .op (.fieldAddr 1 (.t 20)), none⟩, []),
      (⟨some 22, .op (.ld1 (.t 21)), none⟩, []),
      (⟨some 23, .op (.mv (.t 0)), none⟩, []),
      (⟨some 24, .op (.nilCheck (.t 23)), none⟩, []),
      (⟨some 25, .op (.fieldAddr 1 (.t 24)), none⟩, []),
      (⟨some 26, .op (.ld1 (.t 25)), none⟩, []),
      (⟨some 27, .op (.len 1 (.t 26)), none⟩, []),
      (⟨some 28, .op (.minmax false (.c (.int .i64 1)) (.t 27)), none⟩, []),
      (⟨some 29, .op (.slice 1 (.t 22) none (some (.t 28)) none), none⟩, []),
      (⟨some 4, .op (.mv (.t 29)), none⟩, [])]) (
    .ret)))
theorem cf30 : compF Try.prog Try.f30 h30 = some (ac30, rs30) := by kernel_rfl

/-! (*mailcoach/mailcoachref15.Desk).Join params 2 -/
def h31 : Hints := ⟨[(10, [4]), (9, []), (2, [4]), (4, [4]), (6, [4]), (8, [4]), (7, [0, 1, 27]), (5, [0, 1, 13]), (3, [0, 1, 8]), (1, [0, 1, 5]), (0, [0, 1])], [], []⟩
def rs31 : List ARes := [.t 4]
def ac31 : ACode :=
 .seq (
  .reg [0, 1] [
    ⟨some 4, .op (.mv (.c (.int .i64 0))), none⟩]) (
  .seq (
   .block 0 (
    .seq (
     .reg [0, 1, 5] [
       ⟨some 6, .op (.mv (.t 1)), none⟩,
       ⟨some 7, .op (.bin .eql (.t 6) (.c (.int .u64 0))), none⟩,
       ⟨some 5, .op (.mv (.t 7)), none⟩]) (
     .cond (.t 5) (
      .seq (
       .reg [4] [
         ⟨some 4, .op (.mv (.c (.int .i64 2))), none⟩]) (
       .ret)) (
      .seq (
       .reg [0, 1, 8] [
         ⟨some 9, .op (.mv (.t 0)), none⟩,
         ⟨some 10, .op (.mv (.t 1)), none⟩,
         ⟨some 11, .call (.c (.fn 47 [] [])) [(.t 9), (.t 10)], none⟩,
         ⟨some 12, .op (.bin .geq (.t 11) (.c (.int .i64 0))), none⟩,
         ⟨some 8, .op (.mv (.t 12)), none⟩]) (
       .cond (.t 8) (
        .seq (
         .reg [4] [
           ⟨some 4, .op (.mv (.c (.int .i64 12))), none⟩]) (
         .ret)) (
        .seq (
         .reg [0, 1, 13] [
           ⟨some 14, .op (.mv (.t 0)), none⟩,
           ⟨some 15, .op (.nilCheck (.t 14)), none⟩,
           ⟨some 16, .op (.fieldAddr 0 (.t 15)), none⟩,
           ⟨some 17, .op (.ld1 (.t 16)), none⟩,
           ⟨some 18, .op (.bin .eql (.t 17) (.c (.int .u8 1))), none⟩,
           ⟨some 19, .op (.mv (.t 18)), none⟩,
           ⟨some 20, .op (.mv (.t 0)), some (19, true)⟩,
           ⟨some 21, .op (.nilCheck (.t 20)), some (19, true)⟩,
           ⟨some 22, .op (.fieldAddr 1 (.t 21)), some (19, true)⟩,
           ⟨some 23, .op (.ld1 (.t 22)), some (19, true)⟩,
           ⟨some 24, .op (.len 1 (.t 23)), some (19, true)⟩,
           ⟨some 25, .op (.bin .gtr (.t 24) (.c (.int .i64 0))), some (19, true)⟩,
           ⟨some 26, .pick (.t 19) (.t 25) (.c (.bool false)), none⟩,
           ⟨some 13, .op (.mv (.t 26)), none⟩]) (
         .cond (.t 13) (
          .seq (
           .reg [4] [
             ⟨some 4, .op (.mv (.c (.int .i64 50))), none⟩]) (
           .ret)) (
          .seq (
           .reg [0, 1, 27] [
             ⟨some 28, .op (.mv (.t 0)), none⟩,
             ⟨some 29, .op (.nilCheck (.t 28)), none⟩,
             ⟨some 30, .op (.fieldAddr 1 (.t 29)), none⟩,
             ⟨some 31, .op (.ld1 (.t 30)), none⟩,
             ⟨some 32, .op (.len 1 (.t 31)), none⟩,
             ⟨some 33, .op (.bin .eql (.t 32) (.c (.int .i64 8))), none⟩,
             ⟨some 27, .op (.mv (.t 33)), none⟩]) (
           .cond (.t 27) (
            .seq (
             .reg [4] [
               ⟨some 4, .op (.mv (.c (.int .i64 14))), none⟩]) (
             .ret)) (
            .skip)))))))))) (
   .seq (
    .reg [] [
      ⟨some 34, .op (.mv (.t 0)), none⟩,
      ⟨some 35, .op (.mv (.t 0)), none⟩,
      ⟨some 36, .op (.nilCheck (.t 35)), none⟩,
      ⟨some 37, .op (.fieldAddr 1 (.t 36)), none⟩,
      ⟨some 38, .op (.ld1 (.t 37)), none⟩,
      ⟨some 39, .op (.mv (.t 1)), none⟩,
      ⟨some 40, .op (.build [.int .u64 0, .int .i64 0] [(0, 1, (.t 39))]), none⟩,
      ⟨some 41, .op (.buildSl 2 [.int .u64 0, .int .i64 0] 1 [(0, (.t 40))]), none⟩,
      ⟨some 42, .op (.append 2 16 (.t 38) (.t 41)), none⟩,
      ⟨some 43, .op (.nilCheck (.t 34)), none⟩,
      ⟨some 44, .op (.fieldAddr 1 (.t 43)), none⟩,
      ⟨none, .op (.st 1 (.t 44) (.t 42)), none⟩]) (
    .seq (
     .reg [4] [
       ⟨some 4, .op (.mv (.c (.int .i64 0))), none⟩]) (
     .ret))))
theorem cf31 : compF Try.prog Try.f31 h31 = some (ac31, rs31) := by kernel_rfl

/-! (*mailcoach/mailcoachref15.Desk).Leave params 2 -/
def h32 : Hints := ⟨[(13, [4, 5]), (12, [7]), (8, [0, 1, 7, 8, 9]), (10, [0, 1, 7, 8, 9]), (11, [0, 1, 7, 8, 9]), (9, [0, 1, 7, 8, 9, 52]), (7, [0, 1, 7, 8, 9, 40]), (6, [0, 1, 7, 8, 9]), (5, [0, 1, 7, 8]), (4, [0, 1]), (3, [4, 5]), (2, [0, 1, 6, 14]), (1, [0, 1, 6]), (0, [0, 1])], [(7, [0, 1, 7, 8, 9])], [(4, [(0, []), (1, []), (2, []), (3, []), (4, []), (5, []), (6, []), (7, []), (9, []), (10, []), (11, []), (12, []), (13, []), (14, []), (15, []), (8, [11, 14]), (16, []), (17, []), (18, []), (19, [])])]⟩
def rs32 : List ARes := [.t 4, .t 5]
def ac32 : ACode :=
 .seq (
  .reg [0, 1] [
    ⟨some 4, .op (.mv (.c (.nilsl))), none⟩,
    ⟨some 5, .op (.mv (.c (.int .i64 0))), none⟩]) (
  .seq (
   .reg [0, 1, 6] [
     ⟨some 10, .op (.mv (.t 0)), none⟩,
     ⟨some 11, .op (.mv (.t 1)), none⟩,
     ⟨some 12, .call (.c (.fn 47 [] [])) [(.t 10), (.t 11)], none⟩,
     ⟨some 6, .op (.mv (.t 12)), none⟩]) (
   .seq (
    .seq (
     .reg [0, 1, 6, 14] [
       ⟨some 13, .op (.mv (.t 6)), none⟩,
       ⟨some 14, .op (.bin .lss (.t 13) (.c (.int .i64 0))), none⟩]) (
     .cond (.t 14) (
      .seq (
       .reg [4, 5] [
         ⟨some 4, .op (.mv (.c (.nilsl))), none⟩,
         ⟨some 5, .op (.mv (.c (.int .i64 61))), none⟩]) (
       .ret)) (
      .skip))) (
    .seq (
     .dreg [0, 1] [
       (⟨some 15, .op (.mv (.t 0)), none⟩, []),
       (⟨some 16, .op (.buildSl 2 [.int .u64 0, .int .i64 0] 0 []), none⟩, []),
       (⟨some 17, .op (.mv (.t 0)), none⟩, []),
       (⟨some 18, .op (.nilCheck (.t 17)), none⟩, []),
       (⟨some 19, .op (.fieldAddr 1 (.t 18)), none⟩, []),
       (⟨some 20, .op (.ld1 (.t 19)), none⟩, []),
       (⟨some 21, .op (.mv (.t 6)), none⟩, []),
       (⟨some 22, .op (.slice 2 (.t 20) none (some (.t 21)) none), none⟩, []),
       (⟨some 24, .op (.mv (.t 0)), none⟩, []),
       (⟨some 25, .op (.nilCheck (.t 24)), none⟩, []),
       (⟨some 26, .op (.fieldAddr 1 (.t 25)), none⟩, []),
       (⟨some 27, .op (.ld1 (.t 26)), none⟩, []),
       (⟨some 28, .op (.mv (.t 6)), none⟩, []),
       (⟨some 29, .op (.bin .add (.t 28) (.c (.int .i64 1))), none⟩, []),
       (⟨some 30, .op (.slice 2 (.t 27) (some (.t 29)) none none), none⟩, []),
       (⟨some 23, .op (.append 2 16 (.t 16) (.t 22)), none⟩, [11, 14]),
       (⟨some 31, .op (.append 2 16 (.t 23) (.t 30)), none⟩, []),
       (⟨some 32, .op (.nilCheck (.t 15)), none⟩, []),
       (⟨some 33, .op (.fieldAddr 1 (.t 32)), none⟩, []),
       (⟨none, .op (.st 1 (.t 33) (.t 31)), none⟩, [])]) (
     .seq (
      .reg [0, 1, 7, 8] [
        ⟨some 7, .op (.mv (.c (.nilsl))), none⟩,
        ⟨some 8, .op (.mv (.c (.nilsl))), none⟩]) (
      .seq (
       .seq (
        .reg [0, 1, 7, 8, 9] [
          ⟨some 9, .op (.mv (.c (.int .i64 0))), none⟩]) (
        .block 0 (
         .loop [0, 1, 7, 8, 9] (
          .seq (
           .seq (
            .reg [0, 1, 7, 8, 9, 40] [
              ⟨some 34, .op (.mv (.t 9)), none⟩,
              ⟨some 35, .op (.mv (.t 0)), none⟩,
              ⟨some 36, .op (.nilCheck (.t 35)), none⟩,
              ⟨some 37, .op (.fieldAddr 2 (.t 36)), none⟩,
              ⟨some 38, .op (.ld1 (.t 37)), none⟩,
              ⟨some 39, .op (.len 1 (.t 38)), none⟩,
              ⟨some 40, .op (.bin .lss (.t 34) (.t 39)), none⟩]) (
            .cond (.t 40) (
             .skip) (
             .exit 0))) (
           .seq (
            .block 1 (
             .seq (
              .reg [0, 1, 7, 8, 9, 52] [
                ⟨some 43, .op (.mv (.t 0)), none⟩,
                ⟨some 44, .op (.nilCheck (.t 43)), none⟩,
                ⟨some 45, .op (.fieldAddr 2 (.t 44)), none⟩,
                ⟨some 46, .op (.ld1 (.t 45)), none⟩,
                ⟨some 47, .op (.mv (.t 9)), none⟩,
                ⟨some 48, .op (.idxAddr 4 (.t 46) (.t 47)), none⟩,
                ⟨some 49, .op (.fieldAddr 2 (.t 48)), none⟩,
                ⟨some 50, .op (.ld1 (.t 49)), none⟩,
                ⟨some 51, .op (.mv (.t 1)), none⟩,
                ⟨some 52, .op (.bin .eql (.t 50) (.t 51)), none⟩]) (
              .cond (.t 52) (
               .reg [0, 1, 7, 8, 9] [
                 ⟨some 53, .op (.mv (.t 7)), none⟩,
                 ⟨some 54, .op (.mv (.t 0)), none⟩,
                 ⟨some 55, .op (.nilCheck (.t 54)), none⟩,
                 ⟨some 56, .op (.fieldAddr 2 (.t 55)), none⟩,
                 ⟨some 57, .op (.ld1 (.t 56)), none⟩,
                 ⟨some 58, .op (.mv (.t 9)), none⟩,
                 ⟨some 59, .op (.idxAddr 4 (.t 57) (.t 58)), none⟩,
                 ⟨some 60, .op (.ldn 4 (.t 59)), none⟩,
                 ⟨some 61, .op (.buildSl 4 [.int .u64 0, .int .u64 0, .int .u64 0, .str ⟨#[]⟩] 1 [(0, (.t 60))]), none⟩,
                 ⟨some 62, .op (.append 4 40 (.t 53) (.t 61)), none⟩,
                 ⟨some 7, .op (.mv (.t 62)), none⟩]) (
               .reg [0, 1, 7, 8, 9] [
                 ⟨some 63, .op (.mv (.t 8)), none⟩,
                 ⟨some 64, .op (.mv (.t 0)), none⟩,
                 ⟨some 65, .op (.nilCheck (.t 64)), none⟩,
                 ⟨some 66, .op (.fieldAddr 2 (.t 65)), none⟩,
                 ⟨some 67, .op (.ld1 (.t 66)), none⟩,
                 ⟨some 68, .op (.mv (.t 9)), none⟩,
                 ⟨some 69, .op (.idxAddr 4 (.t 67) (.t 68)), none⟩,
                 ⟨some 70, .op (.ldn 4 (.t 69)), none⟩,
                 ⟨some 71, .op (.buildSl 4 [.int .u64 0, .int .u64 0, .int .u64 0, .str ⟨#[]⟩] 1 [(0, (.t 70))]), none⟩,
                 ⟨some 72, .op (.append 4 40 (.t 63) (.t 71)), none⟩,
                 ⟨some 8, .op (.mv (.t 72)), none⟩])))) (
            .reg [0, 1, 7, 8, 9] [
              ⟨some 41, .op (.mv (.t 9)), none⟩,
              ⟨some 42, .op (.bin .add (.t 41) (.c (.int .i64 1))), none⟩,
              ⟨some 9, .op (.mv (.t 42)), none⟩])))))) (
       .seq (
        .reg [7] [
          ⟨some 73, .op (.mv (.t 0)), none⟩,
          ⟨some 74, .op (.mv (.t 8)), none⟩,
          ⟨some 75, .op (.nilCheck (.t 73)), none⟩,
          ⟨some 76, .op (.fieldAddr 2 (.t 75)), none⟩,
          ⟨none, .op (.st 1 (.t 76) (.t 74)), none⟩]) (
        .seq (
         .reg [4, 5] [
           ⟨some 77, .op (.mv (.t 7)), none⟩,
           ⟨some 4, .op (.mv (.t 77)), none⟩,
           ⟨some 5, .op (.mv (.c (.int .i64 0))), none⟩]) (
         .ret))))))))
theorem cf32 : compF Try.prog Try.f32 h32 = some (ac32, rs32) := by kernel_rfl

/-! (*mailcoach/mailcoachref15.Desk).Flow params 3 -/
def h33 : Hints := ⟨[(7, [6]), (6, []), (5, [6]), (4, [0, 2, 7, 27]), (3, [6]), (2, [0, 2, 7, 12]), (1, [0, 2, 7]), (0, [0, 1, 2])], [], [(6, [(0, []), (1, []), (2, []), (3, []), (4, []), (5, []), (6, []), (7, []), (8, []), (9, []), (10, []), (11, []), (12, []), (13, []), (14, []), (15, []), (16, []), (17, [])])]⟩
def rs33 : List ARes := [.t 6]
def ac33 : ACode :=
 .seq (
  .reg [0, 1, 2] [
    ⟨some 6, .op (.mv (.c (.int .i64 0))), none⟩]) (
  .seq (
   .reg [0, 2, 7] [
     ⟨some 8, .op (.mv (.t 0)), none⟩,
     ⟨some 9, .op (.mv (.t 1)), none⟩,
     ⟨some 10, .call (.c (.fn 47 [] [])) [(.t 8), (.t 9)], none⟩,
     ⟨some 7, .op (.mv (.t 10)), none⟩]) (
   .seq (
    .seq (
     .reg [0, 2, 7, 12] [
       ⟨some 11, .op (.mv (.t 7)), none⟩,
       ⟨some 12, .op (.bin .lss (.t 11) (.c (.int .i64 0))), none⟩]) (
     .cond (.t 12) (
      .seq (
       .reg [6] [
         ⟨some 6, .op (.mv (.c (.int .i64 61))), none⟩]) (
       .ret)) (
      .skip))) (
    .seq (
     .seq (
      .reg [0, 2, 7, 27] [
        ⟨some 13, .op (.mv (.t 2)), none⟩,
        ⟨some 14, .op (.bin .lss (.t 13) (.c (.int .i64 1))), none⟩,
        ⟨some 15, .op (.mv (.t 14)), none⟩,
        ⟨some 16, .op (.mv (.t 2)), some (15, false)⟩,
        ⟨some 17, .op (.mv (.t 0)), some (15, false)⟩,
        ⟨some 18, .op (.nilCheck (.t 17)), some (15, false)⟩,
        ⟨some 19, .op (.fieldAddr 1 (.t 18)), some (15, false)⟩,
        ⟨some 20, .op (.ld1 (.t 19)), some (15, false)⟩,
        ⟨some 21, .op (.mv (.t 7)), some (15, false)⟩,
        ⟨some 22, .op (.idxAddr 2 (.t 20) (.t 21)), some (15, false)⟩,
        ⟨some 23, .op (.fieldAddr 1 (.t 22)), some (15, false)⟩,
        ⟨some 24, .op (.ld1 (.t 23)), some (15, false)⟩,
        ⟨some 25, .op (.bin .sub (.c (.int .i64 1000)) (.t 24)), some (15, false)⟩,
        ⟨some 26, .op (.bin .gtr (.t 16) (.t 25)), some (15, false)⟩,
        ⟨some 27, .pick (.t 15) (.c (.bool true)) (.t 26), none⟩]) (
      .cond (.t 27) (
       .seq (
        .reg [6] [
          ⟨some 6, .op (.mv (.c (.int .i64 60))), none⟩]) (
        .ret)) (
       .skip))) (
     .seq (
      .dreg [] [
        (⟨some 28, .op (.mv (.t 0)), none⟩, []),
        (⟨some 29, .op (.nilCheck (.t 28)), none⟩, []),
        (⟨some 30, .op (.fieldAddr 1 (.t 29)), none⟩, []),
        (⟨some 31, .op (.ld1 (.t 30)), none⟩, []),
        (⟨some 32, .op (.mv (.t 7)), none⟩, []),
        (⟨some 33, .op (.mv (.t 0)), none⟩, []),
        (⟨some 34, .op (.nilCheck (.t 33)), none⟩, []),
        (⟨some 35, .op (.fieldAddr 1 (.t 34)), none⟩, []),
        (⟨some 36, .op (.ld1 (.t 35)), none⟩, []),
        (⟨some 37, .op (.mv (.t 7)), none⟩, []),
        (⟨some 38, .op (.idxAddr 2 (.t 36) (.t 37)), none⟩, []),
        (⟨some 39, .op (.fieldAddr 1 (.t 38)), none⟩, []),
        (⟨some 40, .op (.ld1 (.t 39)), none⟩, []),
        (⟨some 41, .op (.mv (.t 2)), none⟩, []),
        (⟨some 42, .op (.bin .add (.t 40) (.t 41)), none⟩, []),
        (⟨some 43, .op (.idxAddr 2 (.t 31) (.t 32)), none⟩, []),
        (⟨some 44, .op (.fieldAddr 1 (.t 43)), none⟩, []),
        (⟨none, .op (.st 1 (.t 44) (.t 42)), none⟩, [])]) (
      .seq (
       .reg [6] [
         ⟨some 6, .op (.mv (.c (.int .i64 0))), none⟩]) (
       .ret))))))
theorem cf33 : compF Try.prog Try.f33 h33 = some (ac33, rs33) := by kernel_rfl

/-! (*mailcoach/mailcoachref15.Desk).Done params 3 -/
def h34 : Hints := ⟨[(9, [6]), (3, [0, 1, 5, 7]), (8, [6]), (7, []), (6, [6]), (5, [0, 7, 36]), (4, [0, 1, 5, 7, 26]), (2, [0, 1, 5, 7, 14]), (1, [0, 1, 5, 7]), (0, [0, 1, 5])], [(2, [0, 1, 5, 7])], [(4, [(0, []), (1, []), (2, []), (3, []), (4, []), (5, []), (6, []), (7, []), (8, []), (9, [])]), (7, [(0, []), (1, []), (2, []), (3, []), (4, []), (5, []), (6, []), (7, []), (9, []), (10, []), (11, []), (12, []), (13, []), (14, []), (15, []), (8, [11, 14]), (16, []), (17, []), (18, []), (19, [])])]⟩
def rs34 : List ARes := [.t 6]
def ac34 : ACode :=
 .seq (
  .reg [0, 1, 5] [
    ⟨some 5, .op (.box (.t 2)), none⟩,
    ⟨some 6, .op (.mv (.c (.int .i64 0))), none⟩]) (
  .seq (
   .seq (
    .reg [0, 1, 5, 7] [
      ⟨some 7, .op (.mv (.c (.int .i64 0))), none⟩]) (
    .block 0 (
     .loop [0, 1, 5, 7] (
      .seq (
       .seq (
        .reg [0, 1, 5, 7, 14] [
          ⟨some 8, .op (.mv (.t 7)), none⟩,
          ⟨some 9, .op (.mv (.t 0)), none⟩,
          ⟨some 10, .op (.nilCheck (.t 9)), none⟩,
          ⟨some 11, .op (.fieldAddr 2 (.t 10)), none⟩,
          ⟨some 12, .op (.ld1 (.t 11)), none⟩,
          ⟨some 13, .op (.len 1 (.t 12)), none⟩,
          ⟨some 14, .op (.bin .lss (.t 8) (.t 13)), none⟩]) (
        .cond (.t 14) (
         .skip) (
         .exit 0))) (
       .seq (
        .block 1 (
         .seq (
          .seq (
           .dreg [0, 1, 5, 7, 26] [
             (⟨some 17, .op (.mv (.t 0)), none⟩, []),
             (⟨some 18, .op (.nilCheck (.t 17)), none⟩, []),
             (⟨some 19, .op (.fieldAddr 2 (.t 18)), none⟩, []),
             (⟨some 20, .op (.ld1 (.t 19)), none⟩, []),
             (⟨some 21, .op (.mv (.t 7)), none⟩, []),
             (⟨some 22, .op (.idxAddr 4 (.t 20) (.t 21)), none⟩, []),
             (⟨some 23, .op (.fieldAddr 0 (.t 22)), none⟩, []),
             (⟨some 24, .op (.ldn 2 (.t 23)), none⟩, []),
             (⟨some 25, .op (.ldn 2 (.t 5)), none⟩, []),
             (⟨some 26, .op (.eqs true [1, 1] (.t 24) (.t 25)), none⟩, [])]) (
           .cond (.t 26) (
            .exit 1) (
            .skip))) (
          .seq (
           .seq (
            .reg [0, 7, 36] [
              ⟨some 27, .op (.mv (.t 0)), none⟩,
              ⟨some 28, .op (.nilCheck (.t 27)), none⟩,
              ⟨some 29, .op (.fieldAddr 2 (.t 28)), none⟩,
              ⟨some 30, .op (.ld1 (.t 29)), none⟩,
              ⟨some 31, .op (.mv (.t 7)), none⟩,
              ⟨some 32, .op (.idxAddr 4 (.t 30) (.t 31)), none⟩,
              ⟨some 33, .op (.fieldAddr 2 (.t 32)), none⟩,
              ⟨some 34, .op (.ld1 (.t 33)), none⟩,
              ⟨some 35, .op (.mv (.t 1)), none⟩,
              ⟨some 36, .op (.bin .neq (.t 34) (.t 35)), none⟩]) (
            .cond (.t 36) (
             .seq (
              .reg [6] [
                ⟨some 6, .op (.mv (.c (.int .i64 61))), none⟩]) (
              .ret)) (
             .skip))) (
           .seq (
            .dreg [] [
              (⟨some 37, .op (.mv (.t 0)), none⟩, []),
              (⟨some 38, .op (.buildSl 4 [.int .u64 0, .int .u64 0, .int .u64 0, .str ⟨#[]⟩] 0 []), none⟩, []),
              (⟨some 39, .op (.mv (.t 0)), none⟩, []),
              (⟨some 40, .op (.nilCheck (.t 39)), none⟩, []),
              (⟨some 41, .op (.fieldAddr 2 (.t 40)), none⟩, []),
              (⟨some 42, .op (.ld1 (.t 41)), none⟩, []),
              (⟨some 43, .op (.mv (.t 7)), none⟩, []),
              (⟨some 44, .op (.slice 4 (.t 42) none (some (.t 43)) none), none⟩, []),
              (⟨some 46, .op (.mv (.t 0)), none⟩, []),
              (⟨some 47, .op (.nilCheck (.t 46)), none⟩, []),
              (⟨some 48, .op (.fieldAddr 2 (.t 47)), none⟩, []),
              (⟨some 49, .op (.ld1 (.t 48)), none⟩, []),
              (⟨some 50, .op (.mv (.t 7)), none⟩, []),
              (⟨some 51, .op (.bin .add (.t 50) (.c (.int .i64 1))), none⟩, []),
              (⟨some 52, .op (.slice 4 (.t 49) (some (.t 51)) none none), none⟩, []),
              (⟨some 45, .op (.append 4 40 (.t 38) (.t 44)), none⟩, [11, 14]),
              (⟨some 53, .op (.append 4 40 (.t 45) (.t 52)), none⟩, []),
              (⟨some 54, .op (.nilCheck (.t 37)), none⟩, []),
              (⟨some 55, .op (.fieldAddr 2 (.t 54)), none⟩, []),
              (⟨none, .op (.st 1 (.t 55) (.t 53)), none⟩, [])]) (
            .seq (
             .reg [6] [
               ⟨some 6, .op (.mv (.c (.int .i64 0))), none⟩]) (
             .ret)))))) (
        .reg [0, 1, 5, 7] [
          ⟨some 15, .op (.mv (.t 7)), none⟩,
          ⟨some 16, .op (.bin .add (.t 15) (.c (.int .i64 1))), none⟩,
          ⟨some 7, .op (.mv (.t 16)), none⟩])))))) (
   .seq (
    .reg [6] [
      ⟨some 6, .op (.mv (.c (.int .i64 11))), none⟩]) (
    .ret)))
theorem cf34 : compF Try.prog Try.f34 h34 = some (ac34, rs34) := by kernel_rfl

/-! (*mailcoach/mailcoachref15.Desk).Offer params 3 -/
def h35 : Hints := ⟨[(21, [6, 7]), (14, [0, 2, 4, 8, 10, 11]), (20, [6, 7]), (19, [12]), (18, [0, 2, 4, 8, 12]), (17, [0, 2, 4, 8, 12]), (16, [0, 2, 4, 8, 10, 11, 12]), (15, [0, 2, 4, 8, 10, 11, 71]), (13, [0, 2, 4, 8, 10, 11, 57]), (12, [0, 2, 4, 8, 10, 11]), (11, [0, 2, 4, 8, 10]), (10, [6, 7]), (9, [0, 2, 4, 8, 50]), (4, [0, 2, 4, 8, 9]), (8, [0, 2, 4, 8, 9]), (7, [0, 2, 4, 8, 9, 42]), (6, [6, 7]), (5, [0, 2, 4, 8, 9, 31]), (3, [0, 2, 4, 8, 9, 19]), (2, [0, 2, 4, 8, 9]), (1, [0, 2, 4, 8]), (0, [0, 2, 4])], [(13, [0, 2, 4, 8, 10, 11]), (3, [0, 2, 4, 8, 9])], [(5, [(0, []), (1, []), (2, []), (3, []), (4, []), (5, []), (6, []), (7, []), (8, []), (9, [])]), (7, [(0, []), (1, []), (2, []), (3, []), (4, []), (5, []), (6, []), (7, []), (8, []), (9, []), (10, [])]), (15, [(0, []), (1, []), (2, []), (3, []), (4, []), (5, []), (6, []), (7, []), (8, []), (9, []), (10, []), (11, [])]), (16, [(0, []), (1, []), (2, []), (3, []), (4, []), (5, []), (6, []), (7, []), (8, []), (9, []), (10, []), (11, [])]), (17, [(0, []), (1, []), (2, []), (3, []), (4, []), (5, []), (6, []), (7, []), (8, []), (9, []), (10, []), (11, []), (12, []), (13, []), (14, []), (15, []), (16, []), (17, []), (18, []), (19, []), (20, []), (21, []), (22, [])]), (19, [(0, []), (1, []), (2, []), (3, []), (4, []), (5, []), (6, []), (7, []), (8, []), (9, []), (10, []), (11, []), (12, []), (13, []), (14, []), (15, []), (16, []), (17, []), (18, []), (19, [4, 7]), (20, []), (21, []), (22, []), (23, [])])]⟩
def rs35 : List ARes := [.t 6, .t 7]
def ac35 : ACode :=
 .seq (
  .reg [0, 2, 4] [
    ⟨some 4, .op (.box (.t 1)), none⟩,
    ⟨some 6, .op (.mv (.c (.int .u64 0))), none⟩,
    ⟨some 7, .op (.mv (.c (.int .i64 0))), none⟩]) (
  .seq (
   .reg [0, 2, 4, 8] [
     ⟨some 8, .op (.mv (.c (.int .i64 0))), none⟩]) (
   .seq (
    .seq (
     .reg [0, 2, 4, 8, 9] [
       ⟨some 9, .op (.mv (.c (.int .i64 0))), none⟩]) (
     .block 0 (
      .loop [0, 2, 4, 8, 9] (
       .seq (
        .seq (
         .reg [0, 2, 4, 8, 9, 19] [
           ⟨some 13, .op (.mv (.t 9)), none⟩,
           ⟨some 14, .op (.mv (.t 0)), none⟩,
           ⟨some 15, .op (.nilCheck (.t 14)), none⟩,
           ⟨some 16, .op (.fieldAddr 2 (.t 15)), none⟩,
           ⟨some 17, .op (.ld1 (.t 16)), none⟩,
           ⟨some 18, .op (.len 1 (.t 17)), none⟩,
           ⟨some 19, .op (.bin .lss (.t 13) (.t 18)), none⟩]) (
         .cond (.t 19) (
          .skip) (
          .exit 0))) (
        .seq (
         .block 1 (
          .seq (
           .seq (
            .dreg [0, 2, 4, 8, 9, 31] [
              (⟨some 22, .op (.mv (.t 0)), none⟩, []),
              (⟨some 23, .op (.nilCheck (.t 22)), none⟩, []),
              (⟨some 24, .op (.fieldAddr 2 (.t 23)), none⟩, []),
              (⟨some 25, .op (.ld1 (.t 24)), none⟩, []),
              (⟨some 26, .op (.mv (.t 9)), none⟩, []),
              (⟨some 27, .op (.idxAddr 4 (.t 25) (.t 26)), none⟩, []),
              (⟨some 28, .op (.fieldAddr 0 (.t 27)), none⟩, []),
              (⟨some 29, .op (.ldn 2 (.t 28)), none⟩, []),
              (⟨some 30, .op (.ldn 2 (.t 4)), none⟩, []),
              (⟨some 31, .op (.eqs false [1, 1] (.t 29) (.t 30)), none⟩, [])]) (
            .cond (.t 31) (
             .seq (
              .reg [6, 7] [
                ⟨some 6, .op (.mv (.c (.int .u64 0))), none⟩,
                ⟨some 7, .op (.mv (.c (.int .i64 62))), none⟩]) (
              .ret)) (
             .skip))) (
           .seq (
            .dreg [0, 2, 4, 8, 9, 42] [
              (⟨some 32, .op (.mv (.t 0)), none⟩, []),
              (⟨some 33, .op (.nilCheck (.t 32)), none⟩, []),
              (⟨some 34, .op (.fieldAddr 2 (.t 33)), none⟩, []),
              (⟨some 35, .op (.ld1 (.t 34)), none⟩, []),
              (⟨some 36, .op (.mv (.t 9)), none⟩, []),
              (⟨some 37, .op (.idxAddr 4 (.t 35) (.t 36)), none⟩, []),
              (⟨some 38, .op (.fieldAddr 0 (.t 37)), none⟩, []),
              (⟨some 39, .op (.ldn 2 (.t 38)), none⟩, []),
              (⟨some 40, .op (.ldn 2 (.t 4)), none⟩, []),
              (⟨some 41, .call (.c (.fn 48 [] [])) [(.t 39), (.t 40)], none⟩, []),
              (⟨some 42, .op (.bin .lss (.t 41) (.c (.int .i64 0))), none⟩, [])]) (
            .cond (.t 42) (
             .reg [0, 2, 4, 8, 9] [
               ⟨some 43, .op (.mv (.t 9)), none⟩,
               ⟨some 44, .op (.bin .add (.t 43) (.c (.int .i64 1))), none⟩,
               ⟨some 8, .op (.mv (.t 44)), none⟩]) (
             .skip))))) (
         .reg [0, 2, 4, 8, 9] [
           ⟨some 20, .op (.mv (.t 9)), none⟩,
           ⟨some 21, .op (.bin .add (.t 20) (.c (.int .i64 1))), none⟩,
           ⟨some 9, .op (.mv (.t 21)), none⟩])))))) (
    .seq (
     .seq (
      .reg [0, 2, 4, 8, 50] [
        ⟨some 45, .op (.mv (.t 0)), none⟩,
        ⟨some 46, .op (.nilCheck (.t 45)), none⟩,
        ⟨some 47, .op (.fieldAddr 2 (.t 46)), none⟩,
        ⟨some 48, .op (.ld1 (.t 47)), none⟩,
        ⟨some 49, .op (.len 1 (.t 48)), none⟩,
        ⟨some 50, .op (.bin .eql (.t 49) (.c (.int .i64 256))), none⟩]) (
      .cond (.t 50) (
       .seq (
        .reg [6, 7] [
          ⟨some 6, .op (.mv (.c (.int .u64 0))), none⟩,
          ⟨some 7, .op (.mv (.c (.int .i64 14))), none⟩]) (
        .ret)) (
       .skip))) (
     .seq (
      .reg [0, 2, 4, 8, 10] [
        ⟨some 51, .op (.mv (.t 0)), none⟩,
        ⟨some 52, .op (.mv (.t 2)), none⟩,
        ⟨some 53, .call (.c (.fn 49 [] [])) [(.t 51), (.t 52)], none⟩,
        ⟨some 10, .op (.mv (.t 53)), none⟩]) (
      .seq (
       .seq (
        .reg [0, 2, 4, 8, 10, 11] [
          ⟨some 11, .op (.mv (.c (.int .i64 0))), none⟩]) (
        .block 2 (
         .loop [0, 2, 4, 8, 10, 11] (
          .seq (
           .seq (
            .reg [0, 2, 4, 8, 10, 11, 57] [
              ⟨some 54, .op (.mv (.t 11)), none⟩,
              ⟨some 55, .op (.mv (.t 10)), none⟩,
              ⟨some 56, .op (.len 1 (.t 55)), none⟩,
              ⟨some 57, .op (.bin .lss (.t 54) (.t 56)), none⟩]) (
            .cond (.t 57) (
             .skip) (
             .exit 2))) (
           .seq (
            .block 3 (
             .seq (
              .dreg [0, 2, 4, 8, 10, 11, 71] [
                (⟨some 60, .op (.mv (.t 0)), none⟩, []),
                (⟨some 61, .op (.nilCheck (.t 60)), none⟩, []),
                (⟨some 62, .op (.fieldAddr 1 (.t 61)), none⟩, []),
                (⟨some 63, .op (.ld1 (.t 62)), none⟩, []),
                (⟨some 64, .op (.mv (.t 10)), none⟩, []),
                (⟨some 65, .op (.mv (.t 11)), none⟩, []),
                (⟨some 66, .op (.idxAddr 1 (.t 64) (.t 65)), none⟩, []),
                (⟨some 67, .op (.ld1 (.t 66)), none⟩, []),
                (⟨some 68, .op (.idxAddr 2 (.t 63) (.t 67)), none⟩, []),
                (⟨some 69, .op (.fieldAddr 1 (.t 68)), none⟩, []),
                (⟨some 70, .op (.ld1 (.t 69)), none⟩, []),
                (⟨some 71, .op (.bin .gtr (.t 70) (.c (.int .i64 0))), none⟩, [])]) (
              .cond (.t 71) (
               .seq (
                .dreg [0, 2, 4, 8, 10, 11, 12] [
                  (⟨some 72, .op (.mv (.t 0)), none⟩, []),
                  (⟨some 73, .op (.nilCheck (.t 72)), none⟩, []),
                  (⟨some 74, .op (.fieldAddr 1 (.t 73)), none⟩, []),
                  (⟨some 75, .op (.ld1 (.t 74)), none⟩, []),
                  (⟨some 76, .op (.mv (.t 10)), none⟩, []),
                  (⟨some 77, .op (.mv (.t 11)), none⟩, []),
                  (⟨some 78, .op (.idxAddr 1 (.t 76) (.t 77)), none⟩, []),
                  (⟨some 79, .op (.ld1 (.t 78)), none⟩, []),
                  (⟨some 80, .op (.idxAddr 2 (.t 75) (.t 79)), none⟩, []),
                  (⟨some 81, .op (.fieldAddr 0 (.t 80)), none⟩, []),
                  (⟨some 82, .op (.ld1 (.t 81)), none⟩, []),
                  (⟨some 12, .op (.mv (.t 82)), none⟩, [])]) (
                .seq (
                 .dreg [0, 2, 4, 8, 12] [
                   (⟨some 83, .op (.mv (.t 0)), none⟩, []),
                   (⟨some 84, .op (.nilCheck (.t 83)), none⟩, []),
                   (⟨some 85, .op (.fieldAddr 1 (.t 84)), none⟩, []),
                   (⟨some 86, .op (.ld1 (.t 85)), none⟩, []),
                   (⟨some 87, .op (.mv (.t 10)), none⟩, []),
                   (⟨some 88, .op (.mv (.t 11)), none⟩, []),
                   (⟨some 89, .op (.idxAddr 1 (.t 87) (.t 88)), none⟩, []),
                   (⟨some 90, .op (.ld1 (.t 89)), none⟩, []),
                   (⟨some 91, .op (.mv (.t 0)), none⟩, []),
                   (⟨some 92, .op (.nilCheck (.t 91)), none⟩, []),
                   (⟨some 93, .op (.fieldAddr 1 (.t 92)), none⟩, []),
                   (⟨some 94, .op (.ld1 (.t 93)), none⟩, []),
                   (⟨some 95, .op (.mv (.t 10)), none⟩, []),
                   (⟨some 96, .op (.mv (.t 11)), none⟩, []),
                   (⟨some 97, .op (.idxAddr 1 (.t 95) (.t 96)), none⟩, []),
                   (⟨some 98, .op (.ld1 (.t 97)), none⟩, []),
                   (⟨some 99, .op (.idxAddr 2 (.t 94) (.t 98)), none⟩, []),
                   (⟨some 100, .op (.fieldAddr 1 (.t 99)), none⟩, []),
                   (⟨some 101, .op (.ld1 (.t 100)), none⟩, []),
                   (⟨some 102, .op (.bin .sub (.t 101) (.c (.int .i64 1))), none⟩, []),
                   (⟨some 103, .op (.idxAddr 2 (.t 86) (.t 90)), none⟩, []),
                   (⟨some 104, .op (.fieldAddr 1 (.t 103)), none⟩, []),
                   (⟨none, .op (.st 1 (.t 104) (.t 102)), none⟩, [])]) (
                 .seq (
                  .reg [0, 2, 4, 8, 12] [
                    ⟨some 105, .op (.mv (.t 0)), none⟩,
                    ⟨some 106, .op (.mv (.t 12)), none⟩,
                    ⟨some 107, .op (.nilCheck (.t 105)), none⟩,
                    ⟨some 108, .op (.fieldAddr 3 (.t 107)), none⟩,
                    ⟨none, .op (.st 1 (.t 108) (.t 106)), none⟩]) (
                  .seq (
                   .dreg [12] [
                     (⟨some 109, .op (.mv (.t 0)), none⟩, []),
                     (⟨some 110, .op (.mv (.t 0)), none⟩, []),
                     (⟨some 111, .op (.nilCheck (.t 110)), none⟩, []),
                     (⟨some 112, .op (.fieldAddr 2 (.t 111)), none⟩, []),
                     (⟨some 113, .op (.ld1 (.t 112)), none⟩, []),
                     (⟨some 114, .op (.mv (.t 8)), none⟩, []),
                     (⟨some 115, .op (.mv (.t 8)), none⟩, []),
                     (⟨some 116, .op (.slice 4 (.t 113) none (some (.t 114)) (some (.t 115))), none⟩, []),
                     (⟨some 117, .op (.ldn 2 (.t 4)), none⟩, []),
                     (⟨some 118, .op (.mv (.t 12)), none⟩, []),
                     (⟨some 119, .op (.mv (.t 2)), none⟩, []),
                     (⟨some 120, .op (.build [.int .u64 0, .int .u64 0, .int .u64 0, .str ⟨#[]⟩] [(0, 2, (.t 117)), (2, 1, (.t 118)), (3, 1, (.t 119))]), none⟩, []),
                     (⟨some 121, .op (.buildSl 4 [.int .u64 0, .int .u64 0, .int .u64 0, .str ⟨#[]⟩] 1 [(0, (.t 120))]), none⟩, []),
                     (⟨some 122, .op (.mv (.t 0)), none⟩, []),
                     (⟨some 123, .op (.nilCheck (.t 122)), none⟩, []),
                     (⟨some 124, .op (.fieldAddr 2 (.t 123)), none⟩, []),
                     (⟨some 125, .op (.ld1 (.t 124)), none⟩, []),
                     (⟨some 126, .op (.mv (.t 8)), none⟩, []),
                     (⟨some 127, .op (.slice 4 (.t 125) (some (.t 126)) none none), none⟩, []),
                     (⟨some 128, .op (.append 4 40 (.t 121) (.t 127)), none⟩, [4, 7]),
                     (⟨some 129, .op (.append 4 40 (.t 116) (.t 128)), none⟩, []),
                     (⟨some 130, .op (.nilCheck (.t 109)), none⟩, []),
                     (⟨some 131, .op (.fieldAddr 2 (.t 130)), none⟩, []),
                     (⟨none, .op (.st 1 (.t 131) (.t 129)), none⟩, [])]) (
                   .seq (
                    .reg [6, 7] [
                      ⟨some 132, .op (.mv (.t 12)), none⟩,
                      ⟨some 6, .op (.mv (.t 132)), none⟩,
                      ⟨some 7, .op (.mv (.c (.int .i64 0))), none⟩]) (
                    .ret)))))) (
               .skip)))) (
            .reg [0, 2, 4, 8, 10, 11] [
              ⟨some 58, .op (.mv (.t 11)), none⟩,
              ⟨some 59, .op (.bin .add (.t 58) (.c (.int .i64 1))), none⟩,
              ⟨some 11, .op (.mv (.t 59)), none⟩])))))) (
       .seq (
        .reg [6, 7] [
          ⟨some 6, .op (.mv (.c (.int .u64 0))), none⟩,
          ⟨some 7, .op (.mv (.c (.int .i64 60))), none⟩]) (
        .ret)))))))
theorem cf35 : compF Try.prog Try.f35 h35 = some (ac35, rs35) := by kernel_rfl

/-! slices.SortedFunc[mailcoach/api.Out] params 2 -/
def h36 : Hints := ⟨[(3, [4]), (2, [5]), (1, [1, 5]), (0, [0, 1])], [], []⟩
def rs36 : List ARes := [.t 4]
def ac36 : ACode :=
 .seq (
  .reg [0, 1] [
    ⟨some 4, .op (.mv (.c (.nilsl))), none⟩]) (
  .seq (
   .reg [1, 5] [
     ⟨some 6, .op (.mv (.t 0)), none⟩,
     ⟨some 7, .call (.c (.fn 50 [] [])) [(.t 6)], none⟩,
     ⟨some 5, .op (.mv (.t 7)), none⟩]) (
   .seq (
    .reg [5] [
      ⟨some 8, .op (.mv (.t 5)), none⟩,
      ⟨some 9, .op (.mv (.t 1)), none⟩,
      ⟨some 10, .call (.c (.fn 51 [] [])) [(.t 8), (.t 9)], none⟩]) (
    .seq (
     .reg [4] [
       ⟨some 11, .op (.mv (.t 5)), none⟩,
       ⟨some 4, .op (.mv (.t 11)), none⟩]) (
     .ret))))
theorem cf36 : compF Try.prog Try.f36 h36 = some (ac36, rs36) := by kernel_rfl

/-! maps.Values[map[mailcoach/api.Pos]mailcoach/api.Out,mailcoach/api.Pos,mailcoach/api.Out] params 1 -/
def h37 : Hints := ⟨[(1, [2]), (0, [1])], [], []⟩
def rs37 : List ARes := [.t 2]
def ac37 : ACode :=
 .seq (
  .reg [1] [
    ⟨some 1, .op (.box (.t 0)), none⟩,
    ⟨some 2, .op (.mv (.c (.nilfn))), none⟩]) (
  .seq (
   .reg [2] [
     ⟨some 3, .op (.mkfn 52 [] [(.t 1)]), none⟩,
     ⟨some 2, .op (.mv (.t 3)), none⟩]) (
   .ret))
theorem cf37 : compF Try.prog Try.f37 h37 = some (ac37, rs37) := by kernel_rfl

/-! (*mailcoach/dispatch.Desk).All$1 params 2 -/
def h38 : Hints := ⟨[(1, [4]), (0, [2, 3])], [], []⟩
def rs38 : List ARes := [.t 4]
def ac38 : ACode :=
 .seq (
  .reg [2, 3] [
    ⟨some 2, .op (.box (.t 0)), none⟩,
    ⟨some 3, .op (.box (.t 1)), none⟩,
    ⟨some 4, .op (.mv (.c (.int .i64 0))), none⟩]) (
  .seq (
   .reg [4] [
     ⟨some 5, .op (.fieldAddr 0 (.t 2)), none⟩,
     ⟨some 6, .op (.ldn 2 (.t 5)), none⟩,
     ⟨some 7, .op (.fieldAddr 0 (.t 3)), none⟩,
     ⟨some 8, .op (.ldn 2 (.t 7)), none⟩,
     ⟨some 9, .call (.c (.fn 25 [] [])) [(.t 6), (.t 8)], none⟩,
     ⟨some 4, .op (.mv (.t 9)), none⟩]) (
   .ret))
theorem cf38 : compF Try.prog Try.f38 h38 = some (ac38, rs38) := by kernel_rfl

/-! cmp.Or[int] params 1 -/
def h39 : Hints := ⟨[(8, [2]), (7, [3, 6, 7, 8]), (6, [2]), (5, [3, 5, 6, 7, 8, 14]), (4, [3, 5, 6, 7, 8]), (3, [3, 6, 7, 8, 9]), (2, [3, 6, 7, 8]), (1, [0, 3]), (0, [0])], [(3, [3, 6, 7, 8])], []⟩
def rs39 : List ARes := [.t 2]
def ac39 : ACode :=
 .seq (
  .reg [0] [
    ⟨some 2, .op (.mv (.c (.int .i64 0))), none⟩]) (
  .seq (
   .reg [0, 3] [
     ⟨some 3, .op (.mv (.c (.int .i64 0))), none⟩]) (
   .seq (
    .seq (
     .reg [3, 6, 7, 8] [
       ⟨some 6, .op (.mv (.t 0)), none⟩,
       ⟨some 7, .op (.len 1 (.t 6)), none⟩,
       ⟨some 8, .op (.mv (.c (.int .i64 0))), none⟩]) (
     .block 0 (
      .loop [3, 6, 7, 8] (
       .seq (
        .reg [3, 6, 7, 8, 9] [
          ⟨some 9, .op (.bin .lss (.t 8) (.t 7)), none⟩]) (
        .seq (
         .cond (.t 9) (
          .skip) (
          .exit 0)) (
         .seq (
          .block 1 (
           .seq (
            .reg [3, 5, 6, 7, 8] [
              ⟨some 10, .op (.idxAddr 1 (.t 6) (.t 8)), none⟩,
              ⟨some 11, .op (.ld1 (.t 10)), none⟩,
              ⟨some 5, .op (.mv (.t 11)), none⟩]) (
            .seq (
             .reg [3, 5, 6, 7, 8, 14] [
               ⟨some 12, .op (.mv (.t 5)), none⟩,
               ⟨some 13, .op (.mv (.t 3)), none⟩,
               ⟨some 14, .op (.bin .neq (.t 12) (.t 13)), none⟩]) (
             .cond (.t 14) (
              .seq (
               .reg [2] [
                 ⟨some 15, .op (.mv (.t 5)), none⟩,
                 ⟨some 2, .op (.mv (.t 15)), none⟩]) (
               .ret)) (
              .skip))))) (
          .reg [3, 6, 7, 8] [
            ⟨some 16, .op (.bin .add (.t 8) (.c (.int .i64 1))), none⟩,
            ⟨some 8, .op (.mv (.t 16)), none⟩]))))))) (
    .seq (
     .reg [2] [
       ⟨some 17, .op (.mv (.t 3)), none⟩,
       ⟨some 2, .op (.mv (.t 17)), none⟩]) (
     .ret))))
theorem cf39 : compF Try.prog Try.f39 h39 = some (ac39, rs39) := by kernel_rfl

/-! cmp.Compare[uint64] params 2 -/
def h40 : Hints := ⟨[(13, [4]), (12, [4]), (11, [19]), (10, [4]), (9, [0, 1, 16]), (8, [4]), (7, [0, 1, 13]), (6, [4]), (5, [4]), (4, [12]), (3, [0, 1, 6, 11]), (2, [0, 1, 5, 6]), (1, [0, 1, 5]), (0, [0, 1])], [], []⟩
def rs40 : List ARes := [.t 4]
def ac40 : ACode :=
 .seq (
  .reg [0, 1] [
    ⟨some 4, .op (.mv (.c (.int .i64 0))), none⟩]) (
  .seq (
   .reg [0, 1, 5] [
     ⟨some 7, .op (.mv (.t 0)), none⟩,
     ⟨some 8, .call (.c (.fn 53 [] [])) [(.t 7)], none⟩,
     ⟨some 5, .op (.mv (.t 8)), none⟩]) (
   .seq (
    .reg [0, 1, 5, 6] [
      ⟨some 9, .op (.mv (.t 1)), none⟩,
      ⟨some 10, .call (.c (.fn 53 [] [])) [(.t 9)], none⟩,
      ⟨some 6, .op (.mv (.t 10)), none⟩]) (
    .seq (
     .seq (
      .reg [0, 1, 6, 11] [
        ⟨some 11, .op (.mv (.t 5)), none⟩]) (
      .cond (.t 11) (
       .seq (
        .seq (
         .reg [12] [
           ⟨some 12, .op (.mv (.t 6)), none⟩]) (
         .cond (.t 12) (
          .seq (
           .reg [4] [
             ⟨some 4, .op (.mv (.c (.int .i64 0))), none⟩]) (
           .ret)) (
          .skip))) (
        .seq (
         .reg [4] [
           ⟨some 4, .op (.mv (.c (.int .i64 (-1)))), none⟩]) (
         .ret))) (
       .skip))) (
     .seq (
      .seq (
       .reg [0, 1, 13] [
         ⟨some 13, .op (.mv (.t 6)), none⟩]) (
       .cond (.t 13) (
        .seq (
         .reg [4] [
           ⟨some 4, .op (.mv (.c (.int .i64 1))), none⟩]) (
         .ret)) (
        .skip))) (
      .seq (
       .seq (
        .reg [0, 1, 16] [
          ⟨some 14, .op (.mv (.t 0)), none⟩,
          ⟨some 15, .op (.mv (.t 1)), none⟩,
          ⟨some 16, .op (.bin .lss (.t 14) (.t 15)), none⟩]) (
        .cond (.t 16) (
         .seq (
          .reg [4] [
            ⟨some 4, .op (.mv (.c (.int .i64 (-1)))), none⟩]) (
          .ret)) (
         .skip))) (
       .seq (
        .seq (
         .reg [19] [
           ⟨some 17, .op (.mv (.t 0)), none⟩,
           ⟨some 18, .op (.mv (.t 1)), none⟩,
           ⟨some 19, .op (.bin .gtr (.t 17) (.t 18)), none⟩]) (
         .cond (.t 19) (
          .seq (
           .reg [4] [
             ⟨some 4, .op (.mv (.c (.int .i64 1))), none⟩]) (
           .ret)) (
          .skip))) (
        .seq (
         .reg [4] [
           ⟨some 4, .op (.mv (.c (.int .i64 0))), none⟩]) (
         .ret))))))))
theorem cf40 : compF Try.prog Try.f40 h40 = some (ac40, rs40) := by kernel_rfl

/-! slices.DeleteFunc[[]uint64,uint64] params 2 -/
def h41 : Hints := ⟨[(12, [4]), (11, [0, 5]), (6, [0, 1, 5, 6]), (10, [0, 1, 5, 6]), (9, [0, 1, 5, 6]), (8, [0, 1, 5, 6, 7, 29]), (7, [0, 1, 5, 6, 7]), (5, [0, 1, 5, 6, 19]), (4, [0, 1, 5, 6]), (3, [4]), (2, [0, 1, 5, 12]), (1, [0, 1, 5]), (0, [0, 1])], [(5, [0, 1, 5, 6])], []⟩
def rs41 : List ARes := [.t 4]
def ac41 : ACode :=
 .seq (
  .reg [0, 1] [
    ⟨some 4, .op (.mv (.c (.nilsl))), none⟩]) (
  .seq (
   .reg [0, 1, 5] [
     ⟨some 8, .op (.mv (.t 0)), none⟩,
     ⟨some 9, .op (.mv (.t 1)), none⟩,
     ⟨some 10, .call (.c (.fn 54 [] [])) [(.t 8), (.t 9)], none⟩,
     ⟨some 5, .op (.mv (.t 10)), none⟩]) (
   .seq (
    .seq (
     .reg [0, 1, 5, 12] [
       ⟨some 11, .op (.mv (.t 5)), none⟩,
       ⟨some 12, .op (.bin .eql (.t 11) (.c (.int .i64 (-1)))), none⟩]) (
     .cond (.t 12) (
      .seq (
       .reg [4] [
         ⟨some 13, .op (.mv (.t 0)), none⟩,
         ⟨some 4, .op (.mv (.t 13)), none⟩]) (
       .ret)) (
      .skip))) (
    .seq (
     .seq (
      .reg [0, 1, 5, 6] [
        ⟨some 14, .op (.mv (.t 5)), none⟩,
        ⟨some 15, .op (.bin .add (.t 14) (.c (.int .i64 1))), none⟩,
        ⟨some 6, .op (.mv (.t 15)), none⟩]) (
      .block 0 (
       .loop [0, 1, 5, 6] (
        .seq (
         .seq (
          .reg [0, 1, 5, 6, 19] [
            ⟨some 16, .op (.mv (.t 6)), none⟩,
            ⟨some 17, .op (.mv (.t 0)), none⟩,
            ⟨some 18, .op (.len 1 (.t 17)), none⟩,
            ⟨some 19, .op (.bin .lss (.t 16) (.t 18)), none⟩]) (
          .cond (.t 19) (
           .skip) (
           .exit 0))) (
         .seq (
          .block 1 (
           .seq (
            .reg [0, 1, 5, 6, 7] [
              ⟨some 22, .op (.mv (.t 0)), none⟩,
              ⟨some 23, .op (.mv (.t 6)), none⟩,
              ⟨some 24, .op (.idxAddr 1 (.t 22) (.t 23)), none⟩,
              ⟨some 25, .op (.ld1 (.t 24)), none⟩,
              ⟨some 7, .op (.mv (.t 25)), none⟩]) (
            .seq (
             .reg [0, 1, 5, 6, 7, 29] [
               ⟨some 26, .op (.mv (.t 1)), none⟩,
               ⟨some 27, .op (.mv (.t 7)), none⟩,
               ⟨some 28, .call (.t 26) [(.t 27)], none⟩,
               ⟨some 29, .op (.un .not (.t 28)), none⟩]) (
             .cond (.t 29) (
              .seq (
               .reg [0, 1, 5, 6] [
                 ⟨some 30, .op (.mv (.t 0)), none⟩,
                 ⟨some 31, .op (.mv (.t 5)), none⟩,
                 ⟨some 32, .op (.mv (.t 7)), none⟩,
                 ⟨some 33, .op (.idxAddr 1 (.t 30) (.t 31)), none⟩,
                 ⟨none, .op (.st 1 (.t 33) (.t 32)), none⟩]) (
               .reg [0, 1, 5, 6] [
                 ⟨some 34, .op (.mv (.t 5)), none⟩,
                 ⟨some 35, .op (.bin .add (.t 34) (.c (.int .i64 1))), none⟩,
                 ⟨some 5, .op (.mv (.t 35)), none⟩])) (
              .skip))))) (
          .reg [0, 1, 5, 6] [
            ⟨some 20, .op (.mv (.t 6)), none⟩,
            ⟨some 21, .op (.bin .add (.t 20) (.c (.int .i64 1))), none⟩,
            ⟨some 6, .op (.mv (.t 21)), none⟩])))))) (
     .seq (
      .reg [0, 5] [
        ⟨some 36, .op (.mv (.t 0)), none⟩,
        ⟨some 37, .op (.mv (.t 5)), none⟩,
        ⟨some 38, .op (.slice 1 (.t 36) (some (.t 37)) none none), none⟩,
        ⟨none, .op (.clear 1 [.int .u64 0] (.t 38)), none⟩]) (
      .seq (
       .reg [4] [
         ⟨some 39, .op (.mv (.t 0)), none⟩,
         ⟨some 40, .op (.mv (.t 5)), none⟩,
         ⟨some 41, .op (.slice 1 (.t 39) none (some (.t 40)) none), none⟩,
         ⟨some 4, .op (.mv (.t 41)), none⟩]) (
       .ret))))))
theorem cf41 : compF Try.prog Try.f41 h41 = some (ac41, rs41) := by kernel_rfl

/-! (*mailcoach/dispatch.Desk).Leave$1 params 2 -/
def h42 : Hints := ⟨[(1, [3]), (0, [0, 1])], [], []⟩
def rs42 : List ARes := [.t 3]
def ac42 : ACode :=
 .seq (
  .reg [0, 1] [
    ⟨some 3, .op (.mv (.c (.bool false))), none⟩]) (
  .seq (
   .reg [3] [
     ⟨some 4, .op (.mv (.t 0)), none⟩,
     ⟨some 5, .op (.ld1 (.t 1)), none⟩,
     ⟨some 6, .op (.bin .eql (.t 4) (.t 5)), none⟩,
     ⟨some 3, .op (.mv (.t 6)), none⟩]) (
   .ret))
theorem cf42 : compF Try.prog Try.f42 h42 = some (ac42, rs42) := by kernel_rfl

/-! slices.Values[[]mailcoach/api.Out,mailcoach/api.Out] params 1 -/
def h43 : Hints := ⟨[(1, [2]), (0, [1])], [], []⟩
def rs43 : List ARes := [.t 2]
def ac43 : ACode :=
 .seq (
  .reg [1] [
    ⟨some 1, .op (.box (.t 0)), none⟩,
    ⟨some 2, .op (.mv (.c (.nilfn))), none⟩]) (
  .seq (
   .reg [2] [
     ⟨some 3, .op (.mkfn 55 [] [(.t 1)]), none⟩,
     ⟨some 2, .op (.mv (.t 3)), none⟩]) (
   .ret))
theorem cf43 : compF Try.prog Try.f43 h43 = some (ac43, rs43) := by kernel_rfl

/-! slices.Index[[]uint64,uint64] params 2 -/
def h44 : Hints := ⟨[(7, [4]), (6, [0, 1, 7, 8]), (5, [4]), (4, [0, 1, 5, 7, 8, 16]), (3, [0, 1, 5, 7, 8]), (2, [0, 1, 7, 8, 9]), (1, [0, 1, 7, 8]), (0, [0, 1])], [(2, [0, 1, 7, 8])], []⟩
def rs44 : List ARes := [.t 4]
def ac44 : ACode :=
 .seq (
  .reg [0, 1] [
    ⟨some 4, .op (.mv (.c (.int .i64 0))), none⟩]) (
  .seq (
   .seq (
    .reg [0, 1, 7, 8] [
      ⟨some 6, .op (.mv (.t 0)), none⟩,
      ⟨some 7, .op (.len 1 (.t 6)), none⟩,
      ⟨some 8, .op (.mv (.c (.int .i64 0))), none⟩]) (
    .block 0 (
     .loop [0, 1, 7, 8] (
      .seq (
       .reg [0, 1, 7, 8, 9] [
         ⟨some 9, .op (.bin .lss (.t 8) (.t 7)), none⟩]) (
       .seq (
        .cond (.t 9) (
         .skip) (
         .exit 0)) (
        .seq (
         .block 1 (
          .seq (
           .reg [0, 1, 5, 7, 8] [
             ⟨some 10, .op (.mv (.t 8)), none⟩,
             ⟨some 5, .op (.mv (.t 10)), none⟩]) (
           .seq (
            .reg [0, 1, 5, 7, 8, 16] [
              ⟨some 11, .op (.mv (.t 1)), none⟩,
              ⟨some 12, .op (.mv (.t 0)), none⟩,
              ⟨some 13, .op (.mv (.t 5)), none⟩,
              ⟨some 14, .op (.idxAddr 1 (.t 12) (.t 13)), none⟩,
              ⟨some 15, .op (.ld1 (.t 14)), none⟩,
              ⟨some 16, .op (.bin .eql (.t 11) (.t 15)), none⟩]) (
            .cond (.t 16) (
             .seq (
              .reg [4] [
                ⟨some 17, .op (.mv (.t 5)), none⟩,
                ⟨some 4, .op (.mv (.t 17)), none⟩]) (
              .ret)) (
             .skip))))) (
         .reg [0, 1, 7, 8] [
           ⟨some 18, .op (.bin .add (.t 8) (.c (.int .i64 1))), none⟩,
           ⟨some 8, .op (.mv (.t 18)), none⟩]))))))) (
   .seq (
    .reg [4] [
      ⟨some 4, .op (.mv (.c (.int .i64 (-1)))), none⟩]) (
    .ret)))
theorem cf44 : compF Try.prog Try.f44 h44 = some (ac44, rs44) := by kernel_rfl

/-! (*mailcoach/dispatch.Desk).turn params 1 -/
def h45 : Hints := ⟨[(2, [2]), (1, [0, 3]), (0, [0])], [], [(1, [(0, []), (1, []), (2, []), (3, []), (4, []), (5, []), (6, []), (7, []), (8, []), (9, []), (10, [])]), (2, [(0, []), (1, []), (2, []), (3, []), (4, []), (5, []), (6, []), (7, []), (8, []), (9, []), (10, []), (11, []), (12, []), (13, []), (14, [])])]⟩
def rs45 : List ARes := [.t 2]
def ac45 : ACode :=
 .seq (
  .reg [0] [
    ⟨some 2, .op (.mv (.c (.nilsl))), none⟩]) (
  .seq (
   .dreg [0, 3] [
     (⟨some 4, .op (.mv (.t 0)), none⟩, []),
     (⟨some 5, .op (.nilCheck (.t 4)), none⟩, []),
     (⟨some 6, .op (.fieldAddr 1 (.t 5)), none⟩, []),
     (⟨some 7, .op (.ld1 (.t 6)), none⟩, []),
     (⟨some 8, .op (.mv (.t 0)), none⟩, []),
     (⟨some 9, .op (.nilCheck (.t 8)), none⟩, []),
     (⟨some 10, .op (.fieldAddr 4 (.t 9)), none⟩, []),
     (⟨some 11, .op (.ld1 (.t 10)), none⟩, []),
     (⟨some 12, .call (.c (.fn 44 [] [])) [(.t 7), (.t 11)], none⟩, []),
     (⟨some 13, .op (.bin .add (.t 12) (.c (.int .i64 1))), none⟩, []),
     (⟨some 3, .op (.mv (.t 13)), none⟩, [])]) (
   .seq (
    .dreg [2] [
      (⟨some 14, .op (.mv (.t 0)), none⟩, []),
      (⟨some 15, .op (.nilCheck (.t 14)), none⟩, []),
      (⟨some 16, .op (.fieldAddr 1 (.t 15)), none⟩, []),
      (⟨some 17, .op (.ld1 (.t 16)), none⟩, []),
      (⟨some 18, .op (.mv (.t 3)), none⟩, []),
      (⟨some 19, .op (.slice 1 (.t 17) (some (.t 18)) none none), none⟩, []),
      (⟨some 20, .op (.mv (.t 0)), none⟩, []),
      (⟨some 21, .op (.nilCheck (.t 20)), none⟩, []),
      (⟨some 22, .op (.fieldAddr 1 (.t 21)), none⟩, []),
      (⟨some 23, .op (.ld1 (.t 22)), none⟩, []),
      (⟨some 24, .op (.mv (.t 3)), none⟩, []),
      (⟨some 25, .op (.slice 1 (.t 23) none (some (.t 24)) none), none⟩, []),
      (⟨some 26, .op (.buildSl 1 [.nilsl] 2 [(0, (.t 19)), (1, (.t 25))]), none⟩, []),
      (⟨some 27, .call (.c (.fn 56 [] [])) [(.t 26)], none⟩, []),
      (⟨some 2, .op (.mv (.t 27)), none⟩, [])]) (
    .ret)))
theorem cf45 : compF Try.prog Try.f45 h45 = some (ac45, rs45) := by kernel_rfl

/-! (*mailcoach/dispatch.Desk).keeper params 2 -/
def h46 : Hints := ⟨[(9, [4]), (8, [1, 7]), (7, [4]), (6, [0, 1, 28]), (5, [4]), (4, [0, 1, 6, 12, 20]), (3, [0, 1, 6, 12]), (2, [0, 1, 12, 14]), (1, [0, 1, 12]), (0, [0, 1])], [(2, [0, 1, 12])], []⟩
def rs46 : List ARes := [.t 4]
def ac46 : ACode :=
 .seq (
  .reg [0, 1] [
    ⟨some 4, .op (.mv (.c (.int .u64 0))), none⟩]) (
  .seq (
   .seq (
    .reg [0, 1, 12] [
      ⟨some 8, .op (.mv (.t 0)), none⟩,
      ⟨some 9, .op (.nilCheck (.t 8)), none⟩,
      ⟨some 10, .op (.fieldAddr 3 (.t 9)), none⟩,
      ⟨some 11, .op (.ld1 (.t 10)), none⟩,
      ⟨some 12, .op (.rangeM (.t 11)), none⟩]) (
    .block 0 (
     .loop [0, 1, 12] (
      .seq (
       .reg [0, 1, 12, 14] [
         ⟨some 13, .next (.t 12), none⟩,
         ⟨some 14, .op (.extract (.t 13) 0), none⟩]) (
       .seq (
        .cond (.t 14) (
         .skip) (
         .exit 0)) (
        .block 1 (
         .seq (
          .reg [0, 1, 6, 12] [
            ⟨some 15, .op (.entryM (.t 12)), none⟩,
            ⟨some 16, .op (.extract (.t 15) 1), none⟩,
            ⟨some 6, .op (.alloc [.int .u64 0, .int .u64 0, .int .u64 0, .str ⟨#[]⟩]), none⟩,
            ⟨none, .op (.st 4 (.t 6) (.t 16)), none⟩]) (
          .seq (
           .reg [0, 1, 6, 12, 20] [
             ⟨some 17, .op (.fieldAddr 3 (.t 6)), none⟩,
             ⟨some 18, .op (.ld1 (.t 17)), none⟩,
             ⟨some 19, .op (.mv (.t 1)), none⟩,
             ⟨some 20, .op (.bin .eql (.t 18) (.t 19)), none⟩]) (
           .cond (.t 20) (
            .seq (
             .reg [4] [
               ⟨some 21, .op (.fieldAddr 2 (.t 6)), none⟩,
               ⟨some 22, .op (.ld1 (.t 21)), none⟩,
               ⟨some 4, .op (.mv (.t 22)), none⟩]) (
             .ret)) (
            .skip)))))))))) (
   .seq (
    .seq (
     .reg [0, 1, 28] [
       ⟨some 23, .op (.mv (.t 0)), none⟩,
       ⟨some 24, .op (.nilCheck (.t 23)), none⟩,
       ⟨some 25, .op (.fieldAddr 1 (.t 24)), none⟩,
       ⟨some 26, .op (.ld1 (.t 25)), none⟩,
       ⟨some 27, .op (.len 1 (.t 26)), none⟩,
       ⟨some 28, .op (.bin .eql (.t 27) (.c (.int .i64 0))), none⟩]) (
     .cond (.t 28) (
      .seq (
       .reg [4] [
         ⟨some 4, .op (.mv (.c (.int .u64 0))), none⟩]) (
       .ret)) (
      .skip))) (
    .seq (
     .reg [1, 7] [
       ⟨some 29, .op (.mv (.t 0)), none⟩,
       ⟨some 30, .op (.nilCheck (.t 29)), none⟩,
       ⟨some 31, .op (.fieldAddr 1 (.t 30)), none⟩,
       ⟨some 32, .op (.ld1 (.t 31)), none⟩,
       ⟨some 33, .call (.c (.fn 58 [] [])) [(.t 32)], none⟩,
       ⟨some 34, .call (.c (.fn 57 [] [])) [(.t 33)], none⟩,
       ⟨some 7, .op (.mv (.t 34)), none⟩]) (
     .seq (
      .reg [4] [
        ⟨some 35, .op (.mv (.t 7)), none⟩,
        ⟨some 36, .op (.mv (.t 1)), none⟩,
        ⟨some 37, .op (.strBytes (.t 36)), none⟩,
        ⟨some 38, .call (.c (.fn 59 [] [])) [(.t 37)], none⟩,
        ⟨some 39, .op (.mv (.t 7)), none⟩,
        ⟨some 40, .op (.len 1 (.t 39)), none⟩,
        ⟨some 41, .op (.toInt .u32 (.t 40)), none⟩,
        ⟨some 42, .op (.bin .rem (.t 38) (.t 41)), none⟩,
        ⟨some 43, .op (.idxAddr 1 (.t 35) (.t 42)), none⟩,
        ⟨some 44, .op (.ld1 (.t 43)), none⟩,
        ⟨some 4, .op (.mv (.t 44)), none⟩]) (
      .ret)))))
theorem cf46 : compF Try.prog Try.f46 h46 = some (ac46, rs46) := by kernel_rfl

/-! (*mailcoach/mailcoachref15.Desk).at params 2 -/
def h47 : Hints := ⟨[(6, [4]), (3, [0, 1, 5]), (5, [4]), (4, [0, 1, 5, 24]), (2, [0, 1, 5, 12]), (1, [0, 1, 5]), (0, [0, 1])], [(2, [0, 1, 5])], []⟩
def rs47 : List ARes := [.t 4]
def ac47 : ACode :=
 .seq (
  .reg [0, 1] [
    ⟨some 4, .op (.mv (.c (.int .i64 0))), none⟩]) (
  .seq (
   .seq (
    .reg [0, 1, 5] [
      ⟨some 5, .op (.mv (.c (.int .i64 0))), none⟩]) (
    .block 0 (
     .loop [0, 1, 5] (
      .seq (
       .seq (
        .reg [0, 1, 5, 12] [
          ⟨some 6, .op (.mv (.t 5)), none⟩,
          ⟨some 7, .op (.mv (.t 0)), none⟩,
          ⟨some 8, .op (.nilCheck (.t 7)), none⟩,
          ⟨some 9, .op (.fieldAddr 1 (.t 8)), none⟩,
          ⟨some 10, .op (.ld1 (.t 9)), none⟩,
          ⟨some 11, .op (.len 1 (.t 10)), none⟩,
          ⟨some 12, .op (.bin .lss (.t 6) (.t 11)), none⟩]) (
        .cond (.t 12) (
         .skip) (
         .exit 0))) (
       .seq (
        .block 1 (
         .seq (
          .reg [0, 1, 5, 24] [
            ⟨some 15, .op (.mv (.t 0)), none⟩,
            ⟨some 16, .op (.nilCheck (.t 15)), none⟩,
            ⟨some 17, .op (.fieldAddr 1 (.t 16)), none⟩,
            ⟨some 18, .op (.ld1 (.t 17)), none⟩,
            ⟨some 19, .op (.mv (.t 5)), none⟩,
            ⟨some 20, .op (.idxAddr 2 (.t 18) (.t 19)), none⟩,
            ⟨some 21, .op (.fieldAddr 0 (.t 20)), none⟩,
            ⟨some 22, .op (.ld1 (.t 21)), none⟩,
            ⟨some 23, .op (.mv (.t 1)), none⟩,
            ⟨some 24, .op (.bin .eql (.t 22) (.t 23)), none⟩]) (
          .cond (.t 24) (
           .seq (
            .reg [4] [
              ⟨some 25, .op (.mv (.t 5)), none⟩,
              ⟨some 4, .op (.mv (.t 25)), none⟩]) (
            .ret)) (
           .skip)))) (
        .reg [0, 1, 5] [
          ⟨some 13, .op (.mv (.t 5)), none⟩,
          ⟨some 14, .op (.bin .add (.t 13) (.c (.int .i64 1))), none⟩,
          ⟨some 5, .op (.mv (.t 14)), none⟩])))))) (
   .seq (
    .reg [4] [
      ⟨some 4, .op (.mv (.c (.int .i64 (-1)))), none⟩]) (
    .ret)))
theorem cf47 : compF Try.prog Try.f47 h47 = some (ac47, rs47) := by kernel_rfl

/-! mailcoach/mailcoachref13.Order params 2 -/
def h48 : Hints := ⟨[(5, [4]), (2, [4]), (4, [4]), (3, [25]), (1, [2, 3, 5]), (0, [2, 3])], [], []⟩
def rs48 : List ARes := [.t 4]
def ac48 : ACode :=
 .seq (
  .reg [2, 3] [
    ⟨some 2, .op (.box (.t 0)), none⟩,
    ⟨some 3, .op (.box (.t 1)), none⟩,
    ⟨some 4, .op (.mv (.c (.int .i64 0))), none⟩]) (
  .seq (
   .block 0 (
    .seq (
     .reg [2, 3, 5] [
       ⟨some 6, .op (.fieldAddr 0 (.t 2)), none⟩,
       ⟨some 7, .op (.ld1 (.t 6)), none⟩,
       ⟨some 8, .op (.fieldAddr 0 (.t 3)), none⟩,
       ⟨some 9, .op (.ld1 (.t 8)), none⟩,
       ⟨some 10, .op (.bin .lss (.t 7) (.t 9)), none⟩,
       ⟨some 11, .op (.mv (.t 10)), none⟩,
       ⟨some 12, .op (.fieldAddr 0 (.t 2)), some (11, false)⟩,
       ⟨some 13, .op (.ld1 (.t 12)), some (11, false)⟩,
       ⟨some 14, .op (.fieldAddr 0 (.t 3)), some (11, false)⟩,
       ⟨some 15, .op (.ld1 (.t 14)), some (11, false)⟩,
       ⟨some 16, .op (.bin .eql (.t 13) (.t 15)), some (11, false)⟩,
       ⟨some 17, .op (.mv (.t 16)), some (11, false)⟩,
       ⟨some 18, .op (.fieldAddr 1 (.t 2)), some (17, true)⟩,
       ⟨some 19, .op (.ld1 (.t 18)), some (17, true)⟩,
       ⟨some 20, .op (.fieldAddr 1 (.t 3)), some (17, true)⟩,
       ⟨some 21, .op (.ld1 (.t 20)), some (17, true)⟩,
       ⟨some 22, .op (.bin .lss (.t 19) (.t 21)), some (17, true)⟩,
       ⟨some 23, .pick (.t 17) (.t 22) (.c (.bool false)), some (11, false)⟩,
       ⟨some 24, .pick (.t 11) (.c (.bool true)) (.t 23), none⟩,
       ⟨some 5, .op (.mv (.t 24)), none⟩]) (
     .cond (.t 5) (
      .seq (
       .reg [4] [
         ⟨some 4, .op (.mv (.c (.int .i64 (-1)))), none⟩]) (
       .ret)) (
      .seq (
       .reg [25] [
         ⟨some 26, .op (.ldn 2 (.t 2)), none⟩,
         ⟨some 27, .op (.ldn 2 (.t 3)), none⟩,
         ⟨some 28, .op (.eqs false [1, 1] (.t 26) (.t 27)), none⟩,
         ⟨some 25, .op (.mv (.t 28)), none⟩]) (
       .cond (.t 25) (
        .seq (
         .reg [4] [
           ⟨some 4, .op (.mv (.c (.int .i64 0))), none⟩]) (
         .ret)) (
        .skip)))))) (
   .seq (
    .reg [4] [
      ⟨some 4, .op (.mv (.c (.int .i64 1))), none⟩]) (
    .ret)))
theorem cf48 : compF Try.prog Try.f48 h48 = some (ac48, rs48) := by kernel_rfl

/-! (*mailcoach/mailcoachref15.Desk).may params 2 -/
def h49 : Hints := ⟨[(30, [4]), (5, [4]), (10, [5, 6, 7, 8]), (11, [5, 6, 7, 8]), (9, [5, 6, 7, 8, 38]), (8, [5, 6, 7, 8]), (7, [5, 6, 7]), (21, [0, 5, 6, 10, 11]), (29, [0, 5, 6, 10, 11]), (28, [0, 5, 6, 10, 11, 124]), (25, [0, 5, 6, 10, 11, 12, 13]), (27, [0, 5, 6, 10, 11, 12, 13]), (26, [0, 5, 6, 10, 11, 12, 13, 119]), (24, [0, 5, 6, 10, 11, 12, 13, 100]), (23, [0, 5, 6, 10, 11, 12, 13]), (22, [0, 5, 6, 10, 11, 12]), (20, [0, 5, 6, 10, 11, 95]), (19, [0, 5, 6, 10, 11]), (18, [0, 5, 6, 10]), (15, [0, 1, 5, 6, 9]), (17, [4]), (16, [0, 1, 5, 6, 9, 73]), (14, [0, 1, 5, 6, 9, 61]), (13, [0, 1, 5, 6, 9]), (3, [5]), (12, [0, 1, 5, 6, 49]), (6, [0, 1, 5, 6, 23]), (4, [0, 1, 5, 6, 20]), (2, [0, 1, 5, 6]), (1, [0, 1, 5]), (0, [0, 1])], [(9, [5, 6, 7, 8]), (24, [0, 5, 6, 10, 11, 12, 13]), (20, [0, 5, 6, 10, 11]), (14, [0, 1, 5, 6, 9])], [(26, [(0, []), (1, []), (2, []), (3, []), (4, []), (5, []), (6, []), (7, []), (8, []), (9, []), (10, []), (11, []), (12, []), (13, []), (14, []), (15, []), (16, [])])]⟩
def rs49 : List ARes := [.t 4]
def ac49 : ACode :=
 .seq (
  .reg [0, 1] [
    ⟨some 4, .op (.mv (.c (.nilsl))), none⟩]) (
  .seq (
   .reg [0, 1, 5] [
     ⟨some 5, .op (.mv (.c (.nilsl))), none⟩]) (
   .seq (
    .reg [0, 1, 5, 6] [
      ⟨some 14, .op (.mv (.t 0)), none⟩,
      ⟨some 15, .op (.nilCheck (.t 14)), none⟩,
      ⟨some 16, .op (.fieldAddr 1 (.t 15)), none⟩,
      ⟨some 17, .op (.ld1 (.t 16)), none⟩,
      ⟨some 18, .op (.len 1 (.t 17)), none⟩,
      ⟨some 6, .op (.mv (.t 18)), none⟩]) (
    .seq (
     .block 0 (
      .seq (
       .reg [0, 1, 5, 6, 20] [
         ⟨some 21, .op (.mv (.t 6)), none⟩,
         ⟨some 22, .op (.bin .eql (.t 21) (.c (.int .i64 0))), none⟩,
         ⟨some 20, .op (.mv (.t 22)), none⟩]) (
       .cond (.t 20) (
        .seq (
         .reg [4] [
           ⟨some 4, .op (.mv (.c (.nilsl))), none⟩]) (
         .ret)) (
        .seq (
         .reg [0, 1, 5, 6, 23] [
           ⟨some 24, .op (.mv (.t 0)), none⟩,
           ⟨some 25, .op (.nilCheck (.t 24)), none⟩,
           ⟨some 26, .op (.fieldAddr 0 (.t 25)), none⟩,
           ⟨some 27, .op (.ld1 (.t 26)), none⟩,
           ⟨some 28, .op (.bin .eql (.t 27) (.c (.int .u8 3))), none⟩,
           ⟨some 23, .op (.mv (.t 28)), none⟩]) (
         .cond (.t 23) (
          .seq (
           .reg [5, 6, 7] [
             ⟨some 29, .op (.mv (.t 0)), none⟩,
             ⟨some 30, .op (.mv (.t 0)), none⟩,
             ⟨some 31, .op (.nilCheck (.t 30)), none⟩,
             ⟨some 32, .op (.fieldAddr 3 (.t 31)), none⟩,
             ⟨some 33, .op (.ld1 (.t 32)), none⟩,
             ⟨some 34, .call (.c (.fn 47 [] [])) [(.t 29), (.t 33)], none⟩,
             ⟨some 35, .op (.bin .add (.t 34) (.c (.int .i64 1))), none⟩,
             ⟨some 7, .op (.mv (.t 35)), none⟩]) (
           .seq (
            .reg [5, 6, 7, 8] [
              ⟨some 8, .op (.mv (.c (.int .i64 0))), none⟩]) (
            .block 1 (
             .loop [5, 6, 7, 8] (
              .seq (
               .seq (
                .reg [5, 6, 7, 8, 38] [
                  ⟨some 36, .op (.mv (.t 8)), none⟩,
                  ⟨some 37, .op (.mv (.t 6)), none⟩,
                  ⟨some 38, .op (.bin .lss (.t 36) (.t 37)), none⟩]) (
                .cond (.t 38) (
                 .skip) (
                 .exit 1))) (
               .seq (
                .block 2 (
                 .reg [5, 6, 7, 8] [
                   ⟨some 41, .op (.mv (.t 5)), none⟩,
                   ⟨some 42, .op (.mv (.t 7)), none⟩,
                   ⟨some 43, .op (.mv (.t 8)), none⟩,
                   ⟨some 44, .op (.bin .add (.t 42) (.t 43)), none⟩,
                   ⟨some 45, .op (.mv (.t 6)), none⟩,
                   ⟨some 46, .op (.bin .rem (.t 44) (.t 45)), none⟩,
                   ⟨some 47, .op (.buildSl 1 [.int .i64 0] 1 [(0, (.t 46))]), none⟩,
                   ⟨some 48, .op (.append 1 8 (.t 41) (.t 47)), none⟩,
                   ⟨some 5, .op (.mv (.t 48)), none⟩])) (
                .reg [5, 6, 7, 8] [
                  ⟨some 39, .op (.mv (.t 8)), none⟩,
                  ⟨some 40, .op (.bin .add (.t 39) (.c (.int .i64 1))), none⟩,
                  ⟨some 8, .op (.mv (.t 40)), none⟩]))))))) (
          .seq (
           .reg [0, 1, 5, 6, 49] [
             ⟨some 50, .op (.mv (.t 0)), none⟩,
             ⟨some 51, .op (.nilCheck (.t 50)), none⟩,
             ⟨some 52, .op (.fieldAddr 0 (.t 51)), none⟩,
             ⟨some 53, .op (.ld1 (.t 52)), none⟩,
             ⟨some 54, .op (.bin .eql (.t 53) (.c (.int .u8 4))), none⟩,
             ⟨some 49, .op (.mv (.t 54)), none⟩]) (
           .cond (.t 49) (
            .seq (
             .seq (
              .reg [0, 1, 5, 6, 9] [
                ⟨some 9, .op (.mv (.c (.int .i64 0))), none⟩]) (
              .block 3 (
               .loop [0, 1, 5, 6, 9] (
                .seq (
                 .seq (
                  .reg [0, 1, 5, 6, 9, 61] [
                    ⟨some 55, .op (.mv (.t 9)), none⟩,
                    ⟨some 56, .op (.mv (.t 0)), none⟩,
                    ⟨some 57, .op (.nilCheck (.t 56)), none⟩,
                    ⟨some 58, .op (.fieldAddr 2 (.t 57)), none⟩,
                    ⟨some 59, .op (.ld1 (.t 58)), none⟩,
                    ⟨some 60, .op (.len 1 (.t 59)), none⟩,
                    ⟨some 61, .op (.bin .lss (.t 55) (.t 60)), none⟩]) (
                  .cond (.t 61) (
                   .skip) (
                   .exit 3))) (
                 .seq (
                  .block 4 (
                   .seq (
                    .reg [0, 1, 5, 6, 9, 73] [
                      ⟨some 64, .op (.mv (.t 0)), none⟩,
                      ⟨some 65, .op (.nilCheck (.t 64)), none⟩,
                      ⟨some 66, .op (.fieldAddr 2 (.t 65)), none⟩,
                      ⟨some 67, .op (.ld1 (.t 66)), none⟩,
                      ⟨some 68, .op (.mv (.t 9)), none⟩,
                      ⟨some 69, .op (.idxAddr 4 (.t 67) (.t 68)), none⟩,
                      ⟨some 70, .op (.fieldAddr 3 (.t 69)), none⟩,
                      ⟨some 71, .op (.ld1 (.t 70)), none⟩,
                      ⟨some 72, .op (.mv (.t 1)), none⟩,
                      ⟨some 73, .op (.bin .eql (.t 71) (.t 72)), none⟩]) (
                    .cond (.t 73) (
                     .seq (
                      .reg [4] [
                        ⟨some 74, .op (.mv (.t 0)), none⟩,
                        ⟨some 75, .op (.mv (.t 0)), none⟩,
                        ⟨some 76, .op (.nilCheck (.t 75)), none⟩,
                        ⟨some 77, .op (.fieldAddr 2 (.t 76)), none⟩,
                        ⟨some 78, .op (.ld1 (.t 77)), none⟩,
                        ⟨some 79, .op (.mv (.t 9)), none⟩,
                        ⟨some 80, .op (.idxAddr 4 (.t 78) (.t 79)), none⟩,
                        ⟨some 81, .op (.fieldAddr 2 (.t 80)), none⟩,
                        ⟨some 82, .op (.ld1 (.t 81)), none⟩,
                        ⟨some 83, .call (.c (.fn 47 [] [])) [(.t 74), (.t 82)], none⟩,
                        ⟨some 84, .op (.buildSl 1 [.int .i64 0] 1 [(0, (.t 83))]), none⟩,
                        ⟨some 4, .op (.mv (.t 84)), none⟩]) (
                      .ret)) (
                     .skip)))) (
                  .reg [0, 1, 5, 6, 9] [
                    ⟨some 62, .op (.mv (.t 9)), none⟩,
                    ⟨some 63, .op (.bin .add (.t 62) (.c (.int .i64 1))), none⟩,
                    ⟨some 9, .op (.mv (.t 63)), none⟩])))))) (
             .seq (
              .reg [0, 5, 6, 10] [
                ⟨some 85, .op (.mv (.t 1)), none⟩,
                ⟨some 86, .op (.strBytes (.t 85)), none⟩,
                ⟨some 87, .call (.c (.fn 60 [] [])) [(.t 86)], none⟩,
                ⟨some 88, .op (.toInt .u64 (.t 87)), none⟩,
                ⟨some 89, .op (.mv (.t 6)), none⟩,
                ⟨some 90, .op (.toInt .u64 (.t 89)), none⟩,
                ⟨some 91, .op (.bin .rem (.t 88) (.t 90)), none⟩,
                ⟨some 92, .op (.toInt .i64 (.t 91)), none⟩,
                ⟨some 10, .op (.mv (.t 92)), none⟩]) (
              .seq (
               .reg [0, 5, 6, 10, 11] [
                 ⟨some 11, .op (.mv (.c (.int .i64 0))), none⟩]) (
               .block 5 (
                .loop [0, 5, 6, 10, 11] (
                 .seq (
                  .seq (
                   .reg [0, 5, 6, 10, 11, 95] [
                     ⟨some 93, .op (.mv (.t 11)), none⟩,
                     ⟨some 94, .op (.mv (.t 6)), none⟩,
                     ⟨some 95, .op (.bin .lss (.t 93) (.t 94)), none⟩]) (
                   .cond (.t 95) (
                    .skip) (
                    .exit 5))) (
                  .seq (
                   .block 6 (
                    .seq (
                     .reg [0, 5, 6, 10, 11, 12] [
                       ⟨some 12, .op (.mv (.c (.int .i64 0))), none⟩]) (
                     .seq (
                      .seq (
                       .reg [0, 5, 6, 10, 11, 12, 13] [
                         ⟨some 13, .op (.mv (.c (.int .i64 0))), none⟩]) (
                       .block 7 (
                        .loop [0, 5, 6, 10, 11, 12, 13] (
                         .seq (
                          .seq (
                           .reg [0, 5, 6, 10, 11, 12, 13, 100] [
                             ⟨some 98, .op (.mv (.t 13)), none⟩,
                             ⟨some 99, .op (.mv (.t 6)), none⟩,
                             ⟨some 100, .op (.bin .lss (.t 98) (.t 99)), none⟩]) (
                           .cond (.t 100) (
                            .skip) (
                            .exit 7))) (
                          .seq (
                           .block 8 (
                            .seq (
                             .dreg [0, 5, 6, 10, 11, 12, 13, 119] [
                               (⟨some 103, .op (.mv (.t 0)), none⟩, []),
                               (⟨some 104, .op (.nilCheck (.t 103)), none⟩, []),
                               (⟨some 105, .op (.fieldAddr 1 (.t 104)), none⟩, []),
                               (⟨some 106, .op (.ld1 (.t 105)), none⟩, []),
                               (⟨some 107, .op (.mv (.t 13)), none⟩, []),
                               (⟨some 108, .op (.idxAddr 2 (.t 106) (.t 107)), none⟩, []),
                               (⟨some 109, .op (.fieldAddr 0 (.t 108)), none⟩, []),
                               (⟨some 110, .op (.ld1 (.t 109)), none⟩, []),
                               (⟨some 111, .op (.mv (.t 0)), none⟩, []),
                               (⟨some 112, .op (.nilCheck (.t 111)), none⟩, []),
                               (⟨some 113, .op (.fieldAddr 1 (.t 112)), none⟩, []),
                               (⟨some 114, .op (.ld1 (.t 113)), none⟩, []),
                               (⟨some 115, .op (.mv (.t 11)), none⟩, []),
                               (⟨some 116, .op (.idxAddr 2 (.t 114) (.t 115)), none⟩, []),
                               (⟨some 117, .op (.fieldAddr 0 (.t 116)), none⟩, []),
                               (⟨some 118, .op (.ld1 (.t 117)), none⟩, []),
                               (⟨some 119, .op (.bin .lss (.t 110) (.t 118)), none⟩, [])]) (
                             .cond (.t 119) (
                              .reg [0, 5, 6, 10, 11, 12, 13] [
                                ⟨some 120, .op (.mv (.t 12)), none⟩,
                                ⟨some 121, .op (.bin .add (.t 120) (.c (.int .i64 1))), none⟩,
                                ⟨some 12, .op (.mv (.t 121)), none⟩]) (
                              .skip)))) (
                           .reg [0, 5, 6, 10, 11, 12, 13] [
                             ⟨some 101, .op (.mv (.t 13)), none⟩,
                             ⟨some 102, .op (.bin .add (.t 101) (.c (.int .i64 1))), none⟩,
                             ⟨some 13, .op (.mv (.t 102)), none⟩])))))) (
                      .seq (
                       .reg [0, 5, 6, 10, 11, 124] [
                         ⟨some 122, .op (.mv (.t 12)), none⟩,
                         ⟨some 123, .op (.mv (.t 10)), none⟩,
                         ⟨some 124, .op (.bin .eql (.t 122) (.t 123)), none⟩]) (
                       .cond (.t 124) (
                        .reg [0, 5, 6, 10, 11] [
                          ⟨some 125, .op (.mv (.t 5)), none⟩,
                          ⟨some 126, .op (.mv (.t 11)), none⟩,
                          ⟨some 127, .op (.buildSl 1 [.int .i64 0] 1 [(0, (.t 126))]), none⟩,
                          ⟨some 128, .op (.append 1 8 (.t 125) (.t 127)), none⟩,
                          ⟨some 5, .op (.mv (.t 128)), none⟩]) (
                        .skip)))))) (
                   .reg [0, 5, 6, 10, 11] [
                     ⟨some 96, .op (.mv (.t 11)), none⟩,
                     ⟨some 97, .op (.bin .add (.t 96) (.c (.int .i64 1))), none⟩,
                     ⟨some 11, .op (.mv (.t 97)), none⟩])))))))) (
            .reg [5] [
              ⟨some 19, .op (.buildSl 1 [.int .i64 0] 1 [(0, (.c (.int .i64 0)))]), none⟩,
              ⟨some 5, .op (.mv (.t 19)), none⟩])))))))) (
     .seq (
      .reg [4] [
        ⟨some 129, .op (.mv (.t 5)), none⟩,
        ⟨some 4, .op (.mv (.t 129)), none⟩]) (
      .ret)))))
theorem cf49 : compF Try.prog Try.f49 h49 = some (ac49, rs49) := by kernel_rfl

/-! slices.Collect[mailcoach/api.Out] params 1 -/
def h50 : Hints := ⟨[(1, [2]), (0, [0])], [], []⟩
def rs50 : List ARes := [.t 2]
def ac50 : ACode :=
 .seq (
  .reg [0] [
    ⟨some 2, .op (.mv (.c (.nilsl))), none⟩]) (
  .seq (
   .reg [2] [
     ⟨some 3, .op (.mv (.t 0)), none⟩,
     ⟨some 4, .call (.c (.fn 61 [] [])) [(.c (.nilsl)), (.t 3)], none⟩,
     ⟨some 2, .op (.mv (.t 4)), none⟩]) (
   .ret))
theorem cf50 : compF Try.prog Try.f50 h50 = some (ac50, rs50) := by kernel_rfl

/-! maps.Values[map[mailcoach/api.Pos]mailcoach/api.Out,mailcoach/api.Pos,mailcoach/api.Out]$1 params 2 -/
def h52 : Hints := ⟨[(3, [0, 6, 14]), (2, [0, 4, 6]), (1, [0, 6, 8]), (0, [0, 6])], [(1, [0, 6])], []⟩
def rs52 : List ARes := []
def ac52 : ACode :=
 .seq (
  .reg [0, 6] [
    ⟨some 5, .op (.ld1 (.t 1)), none⟩,
    ⟨some 6, .op (.rangeM (.t 5)), none⟩]) (
  .block 0 (
   .loop [0, 6] (
    .seq (
     .reg [0, 6, 8] [
       ⟨some 7, .next (.t 6), none⟩,
       ⟨some 8, .op (.extract (.t 7) 0), none⟩]) (
     .seq (
      .cond (.t 8) (
       .skip) (
       .exit 0)) (
      .block 1 (
       .seq (
        .reg [0, 4, 6] [
          ⟨some 9, .op (.entryM (.t 6)), none⟩,
          ⟨some 10, .op (.extract (.t 9) 1), none⟩,
          ⟨some 4, .op (.alloc [.int .u64 0, .int .u64 0, .int .u64 0, .str ⟨#[]⟩]), none⟩,
          ⟨none, .op (.st 4 (.t 4) (.t 10)), none⟩]) (
        .seq (
         .reg [0, 6, 14] [
           ⟨some 11, .op (.mv (.t 0)), none⟩,
           ⟨some 12, .op (.ldn 4 (.t 4)), none⟩,
           ⟨some 13, .call (.t 11) [(.t 12)], none⟩,
           ⟨some 14, .op (.un .not (.t 13)), none⟩]) (
         .cond (.t 14) (
          .ret) (
          .skip)))))))))
theorem cf52 : compF Try.prog Try.f52 h52 = some (ac52, rs52) := by kernel_rfl

/-! cmp.isNaN[uint64] params 1 -/
def h53 : Hints := ⟨[(1, [2]), (0, [0])], [], []⟩
def rs53 : List ARes := [.t 2]
def ac53 : ACode :=
 .seq (
  .reg [0] [
    ⟨some 2, .op (.mv (.c (.bool false))), none⟩]) (
  .seq (
   .reg [2] [
     ⟨some 3, .op (.mv (.t 0)), none⟩,
     ⟨some 4, .op (.mv (.t 0)), none⟩,
     ⟨some 5, .op (.bin .neq (.t 3) (.t 4)), none⟩,
     ⟨some 2, .op (.mv (.t 5)), none⟩]) (
   .ret))
theorem cf53 : compF Try.prog Try.f53 h53 = some (ac53, rs53) := by kernel_rfl

/-! slices.IndexFunc[[]uint64,uint64] params 2 -/
def h54 : Hints := ⟨[(7, [4]), (6, [0, 1, 7, 8]), (5, [4]), (4, [0, 1, 5, 7, 8, 16]), (3, [0, 1, 5, 7, 8]), (2, [0, 1, 7, 8, 9]), (1, [0, 1, 7, 8]), (0, [0, 1])], [(2, [0, 1, 7, 8])], []⟩
def rs54 : List ARes := [.t 4]
def ac54 : ACode :=
 .seq (
  .reg [0, 1] [
    ⟨some 4, .op (.mv (.c (.int .i64 0))), none⟩]) (
  .seq (
   .seq (
    .reg [0, 1, 7, 8] [
      ⟨some 6, .op (.mv (.t 0)), none⟩,
      ⟨some 7, .op (.len 1 (.t 6)), none⟩,
      ⟨some 8, .op (.mv (.c (.int .i64 0))), none⟩]) (
    .block 0 (
     .loop [0, 1, 7, 8] (
      .seq (
       .reg [0, 1, 7, 8, 9] [
         ⟨some 9, .op (.bin .lss (.t 8) (.t 7)), none⟩]) (
       .seq (
        .cond (.t 9) (
         .skip) (
         .exit 0)) (
        .seq (
         .block 1 (
          .seq (
           .reg [0, 1, 5, 7, 8] [
             ⟨some 10, .op (.mv (.t 8)), none⟩,
             ⟨some 5, .op (.mv (.t 10)), none⟩]) (
           .seq (
            .reg [0, 1, 5, 7, 8, 16] [
              ⟨some 11, .op (.mv (.t 1)), none⟩,
              ⟨some 12, .op (.mv (.t 0)), none⟩,
              ⟨some 13, .op (.mv (.t 5)), none⟩,
              ⟨some 14, .op (.idxAddr 1 (.t 12) (.t 13)), none⟩,
              ⟨some 15, .op (.ld1 (.t 14)), none⟩,
              ⟨some 16, .call (.t 11) [(.t 15)], none⟩]) (
            .cond (.t 16) (
             .seq (
              .reg [4] [
                ⟨some 17, .op (.mv (.t 5)), none⟩,
                ⟨some 4, .op (.mv (.t 17)), none⟩]) (
              .ret)) (
             .skip))))) (
         .reg [0, 1, 7, 8] [
           ⟨some 18, .op (.bin .add (.t 8) (.c (.int .i64 1))), none⟩,
           ⟨some 8, .op (.mv (.t 18)), none⟩]))))))) (
   .seq (
    .reg [4] [
      ⟨some 4, .op (.mv (.c (.int .i64 (-1)))), none⟩]) (
    .ret)))
theorem cf54 : compF Try.prog Try.f54 h54 = some (ac54, rs54) := by kernel_rfl

/-! slices.Values[[]mailcoach/api.Out,mailcoach/api.Out]$1 params 2 -/
def h55 : Hints := ⟨[(4, [0, 5, 6, 7]), (3, [0, 5, 6, 7, 14]), (2, [0, 4, 5, 6, 7]), (1, [0, 5, 6, 7, 8]), (0, [0, 5, 6, 7])], [(1, [0, 5, 6, 7])], []⟩
def rs55 : List ARes := []
def ac55 : ACode :=
 .seq (
  .reg [0, 5, 6, 7] [
    ⟨some 5, .op (.ld1 (.t 1)), none⟩,
    ⟨some 6, .op (.len 1 (.t 5)), none⟩,
    ⟨some 7, .op (.mv (.c (.int .i64 0))), none⟩]) (
  .block 0 (
   .loop [0, 5, 6, 7] (
    .seq (
     .reg [0, 5, 6, 7, 8] [
       ⟨some 8, .op (.bin .lss (.t 7) (.t 6)), none⟩]) (
     .seq (
      .cond (.t 8) (
       .skip) (
       .exit 0)) (
      .seq (
       .block 1 (
        .seq (
         .reg [0, 4, 5, 6, 7] [
           ⟨some 9, .op (.idxAddr 4 (.t 5) (.t 7)), none⟩,
           ⟨some 10, .op (.ldn 4 (.t 9)), none⟩,
           ⟨some 4, .op (.alloc [.int .u64 0, .int .u64 0, .int .u64 0, .str ⟨#[]⟩]), none⟩,
           ⟨none, .op (.st 4 (.t 4) (.t 10)), none⟩]) (
         .seq (
          .reg [0, 5, 6, 7, 14] [
            ⟨some 11, .op (.mv (.t 0)), none⟩,
            ⟨some 12, .op (.ldn 4 (.t 4)), none⟩,
            ⟨some 13, .call (.t 11) [(.t 12)], none⟩,
            ⟨some 14, .op (.un .not (.t 13)), none⟩]) (
          .cond (.t 14) (
           .ret) (
           .skip))))) (
       .reg [0, 5, 6, 7] [
         ⟨some 15, .op (.bin .add (.t 7) (.c (.int .i64 1))), none⟩,
         ⟨some 7, .op (.mv (.t 15)), none⟩]))))))
theorem cf55 : compF Try.prog Try.f55 h55 = some (ac55, rs55) := by kernel_rfl

/-! slices.Concat[[]uint64,uint64] params 1 -/
def h56 : Hints := ⟨[(15, [2]), (14, [6, 25, 26, 27]), (13, [6, 25, 26, 27]), (12, [6, 8, 25, 26, 27]), (11, [6, 25, 26, 27, 28]), (10, [6, 25, 26, 27]), (9, [0, 6]), (8, [0, 3, 9, 10, 11]), (7, [0, 3, 9, 10, 11]), (6, [0, 3, 9, 10, 11, 20]), (5, [0, 3, 9, 10, 11]), (4, [0, 3, 5, 9, 10, 11]), (3, [0, 3, 9, 10, 11, 12]), (2, [0, 3, 9, 10, 11]), (1, [0, 3]), (0, [0])], [(11, [6, 25, 26, 27]), (3, [0, 3, 9, 10, 11])], []⟩
def rs56 : List ARes := [.t 2]
def ac56 : ACode :=
 .seq (
  .reg [0] [
    ⟨some 2, .op (.mv (.c (.nilsl))), none⟩]) (
  .seq (
   .reg [0, 3] [
     ⟨some 3, .op (.mv (.c (.int .i64 0))), none⟩]) (
   .seq (
    .seq (
     .reg [0, 3, 9, 10, 11] [
       ⟨some 9, .op (.mv (.t 0)), none⟩,
       ⟨some 10, .op (.len 1 (.t 9)), none⟩,
       ⟨some 11, .op (.mv (.c (.int .i64 0))), none⟩]) (
     .block 0 (
      .loop [0, 3, 9, 10, 11] (
       .seq (
        .reg [0, 3, 9, 10, 11, 12] [
          ⟨some 12, .op (.bin .lss (.t 11) (.t 10)), none⟩]) (
        .seq (
         .cond (.t 12) (
          .skip) (
          .exit 0)) (
         .seq (
          .block 1 (
           .seq (
            .reg [0, 3, 5, 9, 10, 11] [
              ⟨some 13, .op (.idxAddr 1 (.t 9) (.t 11)), none⟩,
              ⟨some 14, .op (.ld1 (.t 13)), none⟩,
              ⟨some 5, .op (.mv (.t 14)), none⟩]) (
            .seq (
             .reg [0, 3, 9, 10, 11] [
               ⟨some 15, .op (.mv (.t 3)), none⟩,
               ⟨some 16, .op (.mv (.t 5)), none⟩,
               ⟨some 17, .op (.len 1 (.t 16)), none⟩,
               ⟨some 18, .op (.bin .add (.t 15) (.t 17)), none⟩,
               ⟨some 3, .op (.mv (.t 18)), none⟩]) (
             .seq (
              .reg [0, 3, 9, 10, 11, 20] [
                ⟨some 19, .op (.mv (.t 3)), none⟩,
                ⟨some 20, .op (.bin .lss (.t 19) (.c (.int .i64 0))), none⟩]) (
              .cond (.t 20) (
               .reg [0, 3, 9, 10, 11] [
                 ⟨some 21, .op (.mkIface 9 (.c (.str ⟨#[108, 101, 110, 32, 111, 117, 116, 32, 111, 102, 32, 114, 97, 110, 103, 101]⟩))), none⟩,
                 ⟨none, .panic (.t 21), none⟩]) (
               .skip)))))) (
          .reg [0, 3, 9, 10, 11] [
            ⟨some 22, .op (.bin .add (.t 11) (.c (.int .i64 1))), none⟩,
            ⟨some 11, .op (.mv (.t 22)), none⟩]))))))) (
    .seq (
     .reg [0, 6] [
       ⟨some 23, .op (.mv (.t 3)), none⟩,
       ⟨some 24, .call (.c (.fn 64 [] [])) [(.c (.nilsl)), (.t 23)], none⟩,
       ⟨some 6, .op (.mv (.t 24)), none⟩]) (
     .seq (
      .seq (
       .reg [6, 25, 26, 27] [
         ⟨some 25, .op (.mv (.t 0)), none⟩,
         ⟨some 26, .op (.len 1 (.t 25)), none⟩,
         ⟨some 27, .op (.mv (.c (.int .i64 0))), none⟩]) (
       .block 2 (
        .loop [6, 25, 26, 27] (
         .seq (
          .reg [6, 25, 26, 27, 28] [
            ⟨some 28, .op (.bin .lss (.t 27) (.t 26)), none⟩]) (
          .seq (
           .cond (.t 28) (
            .skip) (
            .exit 2)) (
           .seq (
            .block 3 (
             .seq (
              .reg [6, 8, 25, 26, 27] [
                ⟨some 29, .op (.idxAddr 1 (.t 25) (.t 27)), none⟩,
                ⟨some 30, .op (.ld1 (.t 29)), none⟩,
                ⟨some 8, .op (.mv (.t 30)), none⟩]) (
              .reg [6, 25, 26, 27] [
                ⟨some 31, .op (.mv (.t 6)), none⟩,
                ⟨some 32, .op (.mv (.t 8)), none⟩,
                ⟨some 33, .op (.append 1 8 (.t 31) (.t 32)), none⟩,
                ⟨some 6, .op (.mv (.t 33)), none⟩]))) (
            .reg [6, 25, 26, 27] [
              ⟨some 34, .op (.bin .add (.t 27) (.c (.int .i64 1))), none⟩,
              ⟨some 27, .op (.mv (.t 34)), none⟩]))))))) (
      .seq (
       .reg [2] [
         ⟨some 35, .op (.mv (.t 6)), none⟩,
         ⟨some 2, .op (.mv (.t 35)), none⟩]) (
       .ret))))))
theorem cf56 : compF Try.prog Try.f56 h56 = some (ac56, rs56) := by kernel_rfl

/-! slices.Sorted[uint64] params 1 -/
def h57 : Hints := ⟨[(3, [2]), (2, [3]), (1, [3]), (0, [0])], [], []⟩
def rs57 : List ARes := [.t 2]
def ac57 : ACode :=
 .seq (
  .reg [0] [
    ⟨some 2, .op (.mv (.c (.nilsl))), none⟩]) (
  .seq (
   .reg [3] [
     ⟨some 4, .op (.mv (.t 0)), none⟩,
     ⟨some 5, .call (.c (.fn 65 [] [])) [(.t 4)], none⟩,
     ⟨some 3, .op (.mv (.t 5)), none⟩]) (
   .seq (
    .reg [3] [
      ⟨some 6, .op (.mv (.t 3)), none⟩,
      ⟨some 7, .call (.c (.fn 66 [] [])) [(.t 6)], none⟩]) (
    .seq (
     .reg [2] [
       ⟨some 8, .op (.mv (.t 3)), none⟩,
       ⟨some 2, .op (.mv (.t 8)), none⟩]) (
     .ret))))
theorem cf57 : compF Try.prog Try.f57 h57 = some (ac57, rs57) := by kernel_rfl

/-! slices.Values[[]uint64,uint64] params 1 -/
def h58 : Hints := ⟨[(1, [2]), (0, [1])], [], []⟩
def rs58 : List ARes := [.t 2]
def ac58 : ACode :=
 .seq (
  .reg [1] [
    ⟨some 1, .op (.box (.t 0)), none⟩,
    ⟨some 2, .op (.mv (.c (.nilfn))), none⟩]) (
  .seq (
   .reg [2] [
     ⟨some 3, .op (.mkfn 67 [] [(.t 1)]), none⟩,
     ⟨some 2, .op (.mv (.t 3)), none⟩]) (
   .ret))
theorem cf58 : compF Try.prog Try.f58 h58 = some (ac58, rs58) := by kernel_rfl

/-! mailcoach/crc.Sum params 1 -/
def h59 : Hints := ⟨[(1, [2]), (0, [0])], [], []⟩
def rs59 : List ARes := [.t 2]
def ac59 : ACode :=
 .seq (
  .reg [0] [
    ⟨some 2, .op (.mv (.c (.int .u32 0))), none⟩]) (
  .seq (
   .reg [2] [
     ⟨some 3, .op (.mv (.t 0)), none⟩,
     ⟨some 4, .call (.c (.fn 68 [] [])) [(.c (.int .u32 0)), (.t 3)], none⟩,
     ⟨some 2, .op (.mv (.t 4)), none⟩]) (
   .ret))
theorem cf59 : compF Try.prog Try.f59 h59 = some (ac59, rs59) := by kernel_rfl

/-! mailcoach/mailcoachref01.Sum params 1 -/
def h60 : Hints := ⟨[(12, [2]), (4, [0, 3, 4]), (8, [0, 3, 4, 5]), (10, [0, 3, 4, 5]), (11, [0, 3, 4, 5]), (9, [0, 3, 4, 5, 25]), (7, [0, 3, 4, 5, 20]), (6, [0, 3, 4, 5]), (5, [0, 3, 4]), (3, [0, 3, 4, 9]), (2, [0, 3, 4]), (1, [0, 3]), (0, [0])], [(7, [0, 3, 4, 5]), (3, [0, 3, 4])], []⟩
def rs60 : List ARes := [.t 2]
def ac60 : ACode :=
 .seq (
  .reg [0] [
    ⟨some 2, .op (.mv (.c (.int .u32 0))), none⟩]) (
  .seq (
   .reg [0, 3] [
     ⟨some 3, .op (.mv (.c (.int .u32 4294967295))), none⟩]) (
   .seq (
    .seq (
     .reg [0, 3, 4] [
       ⟨some 4, .op (.mv (.c (.int .i64 0))), none⟩]) (
     .block 0 (
      .loop [0, 3, 4] (
       .seq (
        .seq (
         .reg [0, 3, 4, 9] [
           ⟨some 6, .op (.mv (.t 4)), none⟩,
           ⟨some 7, .op (.mv (.t 0)), none⟩,
           ⟨some 8, .op (.len 1 (.t 7)), none⟩,
           ⟨some 9, .op (.bin .lss (.t 6) (.t 8)), none⟩]) (
         .cond (.t 9) (
          .skip) (
          .exit 0))) (
        .seq (
         .block 1 (
          .seq (
           .reg [0, 3, 4] [
             ⟨some 12, .op (.mv (.t 3)), none⟩,
             ⟨some 13, .op (.mv (.t 0)), none⟩,
             ⟨some 14, .op (.mv (.t 4)), none⟩,
             ⟨some 15, .op (.idxAddr 1 (.t 13) (.t 14)), none⟩,
             ⟨some 16, .op (.ld1 (.t 15)), none⟩,
             ⟨some 17, .op (.toInt .u32 (.t 16)), none⟩,
             ⟨some 18, .op (.bin .xor (.t 12) (.t 17)), none⟩,
             ⟨some 3, .op (.mv (.t 18)), none⟩]) (
           .seq (
            .reg [0, 3, 4, 5] [
              ⟨some 5, .op (.mv (.c (.int .i64 0))), none⟩]) (
            .block 2 (
             .loop [0, 3, 4, 5] (
              .seq (
               .seq (
                .reg [0, 3, 4, 5, 20] [
                  ⟨some 19, .op (.mv (.t 5)), none⟩,
                  ⟨some 20, .op (.bin .lss (.t 19) (.c (.int .i64 8))), none⟩]) (
                .cond (.t 20) (
                 .skip) (
                 .exit 2))) (
               .seq (
                .block 3 (
                 .seq (
                  .reg [0, 3, 4, 5, 25] [
                    ⟨some 23, .op (.mv (.t 3)), none⟩,
                    ⟨some 24, .op (.bin .rem (.t 23) (.c (.int .u32 2))), none⟩,
                    ⟨some 25, .op (.bin .eql (.t 24) (.c (.int .u32 1))), none⟩]) (
                  .cond (.t 25) (
                   .reg [0, 3, 4, 5] [
                     ⟨some 26, .op (.mv (.t 3)), none⟩,
                     ⟨some 27, .op (.bin .quo (.t 26) (.c (.int .u32 2))), none⟩,
                     ⟨some 28, .op (.bin .xor (.t 27) (.c (.int .u32 2197175160))), none⟩,
                     ⟨some 3, .op (.mv (.t 28)), none⟩]) (
                   .reg [0, 3, 4, 5] [
                     ⟨some 29, .op (.mv (.t 3)), none⟩,
                     ⟨some 30, .op (.bin .quo (.t 29) (.c (.int .u32 2))), none⟩,
                     ⟨some 3, .op (.mv (.t 30)), none⟩])))) (
                .reg [0, 3, 4, 5] [
                  ⟨some 21, .op (.mv (.t 5)), none⟩,
                  ⟨some 22, .op (.bin .add (.t 21) (.c (.int .i64 1))), none⟩,
                  ⟨some 5, .op (.mv (.t 22)), none⟩])))))))) (
         .reg [0, 3, 4] [
           ⟨some 10, .op (.mv (.t 4)), none⟩,
           ⟨some 11, .op (.bin .add (.t 10) (.c (.int .i64 1))), none⟩,
           ⟨some 4, .op (.mv (.t 11)), none⟩])))))) (
    .seq (
     .reg [2] [
       ⟨some 31, .op (.mv (.t 3)), none⟩,
       ⟨some 32, .op (.bin .xor (.t 31) (.c (.int .u32 4294967295))), none⟩,
       ⟨some 2, .op (.mv (.t 32)), none⟩]) (
     .ret))))
theorem cf60 : compF Try.prog Try.f60 h60 = some (ac60, rs60) := by kernel_rfl

/-! slices.AppendSeq[[]mailcoach/api.Out,mailcoach/api.Out] params 2 -/
def h61 : Hints := ⟨[(4, [4]), (3, [2]), (2, [2, 5]), (1, [2, 6]), (0, [1, 2])], [], []⟩
def rs61 : List ARes := [.t 4]
def ac61 : ACode :=
 .seq (
  .reg [1, 2] [
    ⟨some 2, .op (.box (.t 0)), none⟩,
    ⟨some 4, .op (.mv (.c (.nilsl))), none⟩]) (
  .seq (
   .seq (
    .reg [2, 6] [
      ⟨some 6, .op (.mv (.t 1)), none⟩]) (
    .block 0 (
     .rangef (.t 6) [7] (
      .reg [2, 5] [
        ⟨some 5, .op (.alloc [.int .u64 0, .int .u64 0, .int .u64 0, .str ⟨#[]⟩]), none⟩,
        ⟨none, .op (.st 4 (.t 5) (.t 7)), none⟩]) (
      .block 1 (
       .reg [2] [
         ⟨some 8, .op (.ld1 (.t 2)), none⟩,
         ⟨some 9, .op (.ldn 4 (.t 5)), none⟩,
         ⟨some 10, .op (.buildSl 4 [.int .u64 0, .int .u64 0, .int .u64 0, .str ⟨#[]⟩] 1 [(0, (.t 9))]), none⟩,
         ⟨some 11, .op (.append 4 40 (.t 8) (.t 10)), none⟩,
         ⟨none, .op (.st 1 (.t 2) (.t 11)), none⟩]))))) (
   .seq (
    .reg [4] [
      ⟨some 12, .op (.ld1 (.t 2)), none⟩,
      ⟨some 4, .op (.mv (.t 12)), none⟩]) (
    .ret)))
theorem cf61 : compF Try.prog Try.f61 h61 = some (ac61, rs61) := by kernel_rfl

/-! math/bits.Len params 1 -/
def h63 : Hints := ⟨[(2, [2]), (1, [2]), (0, [0])], [], []⟩
def rs63 : List ARes := [.t 2]
def ac63 : ACode :=
 .seq (
  .reg [0] [
    ⟨some 2, .op (.mv (.c (.int .i64 0))), none⟩]) (
  .seq (
   .cond (.c (.bool false)) (
    .seq (
     .reg [2] [
       ⟨some 3, .op (.mv (.t 0)), none⟩,
       ⟨some 4, .op (.toInt .u32 (.t 3)), none⟩,
       ⟨some 5, .call (.c (.fn 77 [] [])) [(.t 4)], none⟩,
       ⟨some 2, .op (.mv (.t 5)), none⟩]) (
     .ret)) (
    .skip)) (
   .seq (
    .reg [2] [
      ⟨some 6, .op (.mv (.t 0)), none⟩,
      ⟨some 7, .call (.c (.fn 78 [] [])) [(.t 6)], none⟩,
      ⟨some 2, .op (.mv (.t 7)), none⟩]) (
    .ret)))
theorem cf63 : compF Try.prog Try.f63 h63 = some (ac63, rs63) := by kernel_rfl

/-! slices.Grow[[]uint64,uint64] params 2 -/
def h64 : Hints := ⟨[(6, [4]), (5, [0]), (4, [0, 1, 16]), (3, [0, 1]), (2, [0, 1]), (1, [0, 1, 6]), (0, [0, 1])], [], []⟩
def rs64 : List ARes := [.t 4]
def ac64 : ACode :=
 .seq (
  .reg [0, 1] [
    ⟨some 4, .op (.mv (.c (.nilsl))), none⟩]) (
  .seq (
   .seq (
    .reg [0, 1, 6] [
      ⟨some 5, .op (.mv (.t 1)), none⟩,
      ⟨some 6, .op (.bin .lss (.t 5) (.c (.int .i64 0))), none⟩]) (
    .cond (.t 6) (
     .reg [0, 1] [
       ⟨some 7, .op (.mkIface 9 (.c (.str ⟨#[99, 97, 110, 110, 111, 116, 32, 98, 101, 32, 110, 101, 103, 97, 116, 105, 118, 101]⟩))), none⟩,
       ⟨none, .panic (.t 7), none⟩]) (
     .skip))) (
   .seq (
    .seq (
     .reg [0, 1] [
       ⟨some 8, .op (.mv (.t 1)), none⟩,
       ⟨some 9, .op (.mv (.t 0)), none⟩,
       ⟨some 10, .op (.cap (.t 9)), none⟩,
       ⟨some 11, .op (.mv (.t 0)), none⟩,
       ⟨some 12, .op (.len 1 (.t 11)), none⟩,
       ⟨some 13, .op (.bin .sub (.t 10) (.t 12)), none⟩,
       ⟨some 14, .op (.bin .sub (.t 8) (.t 13)), none⟩,
       ⟨some 1, .op (.mv (.t 14)), none⟩]) (
     .seq (
      .reg [0, 1, 16] [
        ⟨some 15, .op (.mv (.t 1)), none⟩,
        ⟨some 16, .op (.bin .gtr (.t 15) (.c (.int .i64 0))), none⟩]) (
      .cond (.t 16) (
       .reg [0] [
         ⟨some 17, .op (.mv (.t 0)), none⟩,
         ⟨some 18, .op (.mv (.t 0)), none⟩,
         ⟨some 19, .op (.cap (.t 18)), none⟩,
         ⟨some 20, .op (.slice 1 (.t 17) none (some (.t 19)) none), none⟩,
         ⟨some 21, .op (.mv (.t 1)), none⟩,
         ⟨some 22, .op (.appendMk 1 8 [.int .u64 0] (.t 20) (.t 21)), none⟩,
         ⟨some 23, .op (.mv (.t 0)), none⟩,
         ⟨some 24, .op (.len 1 (.t 23)), none⟩,
         ⟨some 25, .op (.slice 1 (.t 22) none (some (.t 24)) none), none⟩,
         ⟨some 0, .op (.mv (.t 25)), none⟩]) (
       .skip)))) (
    .seq (
     .reg [4] [
       ⟨some 26, .op (.mv (.t 0)), none⟩,
       ⟨some 4, .op (.mv (.t 26)), none⟩]) (
     .ret))))
theorem cf64 : compF Try.prog Try.f64 h64 = some (ac64, rs64) := by kernel_rfl

/-! slices.Collect[uint64] params 1 -/
def h65 : Hints := ⟨[(1, [2]), (0, [0])], [], []⟩
def rs65 : List ARes := [.t 2]
def ac65 : ACode :=
 .seq (
  .reg [0] [
    ⟨some 2, .op (.mv (.c (.nilsl))), none⟩]) (
  .seq (
   .reg [2] [
     ⟨some 3, .op (.mv (.t 0)), none⟩,
     ⟨some 4, .call (.c (.fn 79 [] [])) [(.c (.nilsl)), (.t 3)], none⟩,
     ⟨some 2, .op (.mv (.t 4)), none⟩]) (
   .ret))
theorem cf65 : compF Try.prog Try.f65 h65 = some (ac65, rs65) := by kernel_rfl

/-! slices.Sort[[]uint64,uint64] params 1 -/
def h66 : Hints := ⟨[(1, []), (0, [0, 2])], [], []⟩
def rs66 : List ARes := []
def ac66 : ACode :=
 .seq (
  .reg [0, 2] [
    ⟨some 3, .op (.mv (.t 0)), none⟩,
    ⟨some 4, .op (.len 1 (.t 3)), none⟩,
    ⟨some 2, .op (.mv (.t 4)), none⟩]) (
  .reg [] [
    ⟨some 5, .op (.mv (.t 0)), none⟩,
    ⟨some 6, .op (.mv (.t 2)), none⟩,
    ⟨some 7, .op (.mv (.t 2)), none⟩,
    ⟨some 8, .op (.toInt .u64 (.t 7)), none⟩,
    ⟨some 9, .call (.c (.fn 63 [] [])) [(.t 8)], none⟩,
    ⟨some 10, .call (.c (.fn 80 [] [])) [(.t 5), (.c (.int .i64 0)), (.t 6), (.t 9)], none⟩])
theorem cf66 : compF Try.prog Try.f66 h66 = some (ac66, rs66) := by kernel_rfl

/-! slices.Values[[]uint64,uint64]$1 params 2 -/
def h67 : Hints := ⟨[(4, [0, 5, 6, 7]), (3, [0, 5, 6, 7, 14]), (2, [0, 4, 5, 6, 7]), (1, [0, 5, 6, 7, 8]), (0, [0, 5, 6, 7])], [(1, [0, 5, 6, 7])], []⟩
def rs67 : List ARes := []
def ac67 : ACode :=
 .seq (
  .reg [0, 5, 6, 7] [
    ⟨some 5, .op (.ld1 (.t 1)), none⟩,
    ⟨some 6, .op (.len 1 (.t 5)), none⟩,
    ⟨some 7, .op (.mv (.c (.int .i64 0))), none⟩]) (
  .block 0 (
   .loop [0, 5, 6, 7] (
    .seq (
     .reg [0, 5, 6, 7, 8] [
       ⟨some 8, .op (.bin .lss (.t 7) (.t 6)), none⟩]) (
     .seq (
      .cond (.t 8) (
       .skip) (
       .exit 0)) (
      .seq (
       .block 1 (
        .seq (
         .reg [0, 4, 5, 6, 7] [
           ⟨some 9, .op (.idxAddr 1 (.t 5) (.t 7)), none⟩,
           ⟨some 10, .op (.ld1 (.t 9)), none⟩,
           ⟨some 4, .op (.mv (.t 10)), none⟩]) (
         .seq (
          .reg [0, 5, 6, 7, 14] [
            ⟨some 11, .op (.mv (.t 0)), none⟩,
            ⟨some 12, .op (.mv (.t 4)), none⟩,
            ⟨some 13, .call (.t 11) [(.t 12)], none⟩,
            ⟨some 14, .op (.un .not (.t 13)), none⟩]) (
          .cond (.t 14) (
           .ret) (
           .skip))))) (
       .reg [0, 5, 6, 7] [
         ⟨some 15, .op (.bin .add (.t 7) (.c (.int .i64 1))), none⟩,
         ⟨some 7, .op (.mv (.t 15)), none⟩]))))))
theorem cf67 : compF Try.prog Try.f67 h67 = some (ac67, rs67) := by kernel_rfl

/-! mailcoach/crc.More params 2 -/
def h68 : Hints := ⟨[(12, [4]), (11, [5, 11, 12, 13]), (10, [5, 11, 12, 13, 21]), (9, [5, 11, 12, 13, 21]), (8, [5, 8, 11, 12, 13, 21]), (7, [5, 11, 12, 13, 21, 22]), (6, [5, 11, 12, 13, 21]), (5, [5, 11, 12, 13]), (4, [5, 7, 11, 12, 13]), (3, [5, 11, 12, 13, 14]), (2, [5, 11, 12, 13]), (1, [1, 5]), (0, [0, 1])], [(7, [5, 11, 12, 13, 21]), (3, [5, 11, 12, 13])], []⟩
def rs68 : List ARes := [.t 4]
def ac68 : ACode :=
 .seq (
  .reg [0, 1] [
    ⟨some 4, .op (.mv (.c (.int .u32 0))), none⟩]) (
  .seq (
   .reg [1, 5] [
     ⟨some 9, .op (.mv (.t 0)), none⟩,
     ⟨some 10, .op (.un .xor (.t 9)), none⟩,
     ⟨some 5, .op (.mv (.t 10)), none⟩]) (
   .seq (
    .seq (
     .reg [5, 11, 12, 13] [
       ⟨some 11, .op (.mv (.t 1)), none⟩,
       ⟨some 12, .op (.len 1 (.t 11)), none⟩,
       ⟨some 13, .op (.mv (.c (.int .i64 0))), none⟩]) (
     .block 0 (
      .loop [5, 11, 12, 13] (
       .seq (
        .reg [5, 11, 12, 13, 14] [
          ⟨some 14, .op (.bin .lss (.t 13) (.t 12)), none⟩]) (
        .seq (
         .cond (.t 14) (
          .skip) (
          .exit 0)) (
         .seq (
          .block 1 (
           .seq (
            .reg [5, 7, 11, 12, 13] [
              ⟨some 15, .op (.idxAddr 1 (.t 11) (.t 13)), none⟩,
              ⟨some 16, .op (.ld1 (.t 15)), none⟩,
              ⟨some 7, .op (.mv (.t 16)), none⟩]) (
            .seq (
             .reg [5, 11, 12, 13] [
               ⟨some 17, .op (.mv (.t 5)), none⟩,
               ⟨some 18, .op (.mv (.t 7)), none⟩,
               ⟨some 19, .op (.toInt .u32 (.t 18)), none⟩,
               ⟨some 20, .op (.bin .xor (.t 17) (.t 19)), none⟩,
               ⟨some 5, .op (.mv (.t 20)), none⟩]) (
             .seq (
              .reg [5, 11, 12, 13, 21] [
                ⟨some 21, .op (.mv (.c (.int .i64 0))), none⟩]) (
              .block 2 (
               .loop [5, 11, 12, 13, 21] (
                .seq (
                 .reg [5, 11, 12, 13, 21, 22] [
                   ⟨some 22, .op (.bin .lss (.t 21) (.c (.int .i64 8))), none⟩]) (
                 .seq (
                  .cond (.t 22) (
                   .skip) (
                   .exit 2)) (
                  .seq (
                   .block 3 (
                    .seq (
                     .reg [5, 8, 11, 12, 13, 21] [
                       ⟨some 23, .op (.mv (.t 5)), none⟩,
                       ⟨some 24, .op (.bin .and (.t 23) (.c (.int .u32 1))), none⟩,
                       ⟨some 8, .op (.mv (.t 24)), none⟩]) (
                     .reg [5, 11, 12, 13, 21] [
                       ⟨some 25, .op (.mv (.t 5)), none⟩,
                       ⟨some 26, .op (.bin .shr (.t 25) (.c (.int .u64 1))), none⟩,
                       ⟨some 27, .op (.mv (.t 8)), none⟩,
                       ⟨some 28, .op (.un .neg (.t 27)), none⟩,
                       ⟨some 29, .op (.bin .and (.t 28) (.c (.int .u32 2197175160))), none⟩,
                       ⟨some 30, .op (.bin .xor (.t 26) (.t 29)), none⟩,
                       ⟨some 5, .op (.mv (.t 30)), none⟩]))) (
                   .reg [5, 11, 12, 13, 21] [
                     ⟨some 31, .op (.bin .add (.t 21) (.c (.int .i64 1))), none⟩,
                     ⟨some 21, .op (.mv (.t 31)), none⟩])))))))))) (
          .reg [5, 11, 12, 13] [
            ⟨some 32, .op (.bin .add (.t 13) (.c (.int .i64 1))), none⟩,
            ⟨some 13, .op (.mv (.t 32)), none⟩]))))))) (
    .seq (
     .reg [4] [
       ⟨some 33, .op (.mv (.t 5)), none⟩,
       ⟨some 34, .op (.un .xor (.t 33)), none⟩,
       ⟨some 4, .op (.mv (.t 34)), none⟩]) (
     .ret))))
theorem cf68 : compF Try.prog Try.f68 h68 = some (ac68, rs68) := by kernel_rfl

/-! math/bits.Len32 params 1 -/
def h77 : Hints := ⟨[(7, [2]), (6, [0, 2]), (5, [0, 2]), (4, [0, 2, 8]), (3, [0, 2]), (2, [0]), (1, [0, 2, 4]), (0, [0, 2])], [], []⟩
def rs77 : List ARes := [.t 2]
def ac77 : ACode :=
 .seq (
  .reg [0, 2] [
    ⟨some 2, .op (.mv (.c (.int .i64 0))), none⟩]) (
  .seq (
   .seq (
    .reg [0, 2, 4] [
      ⟨some 3, .op (.mv (.t 0)), none⟩,
      ⟨some 4, .op (.bin .geq (.t 3) (.c (.int .u32 65536))), none⟩]) (
    .cond (.t 4) (
     .seq (
      .reg [0] [
        ⟨some 5, .op (.mv (.t 0)), none⟩,
        ⟨some 6, .op (.bin .shr (.t 5) (.c (.int .u64 16))), none⟩,
        ⟨some 0, .op (.mv (.t 6)), none⟩]) (
      .reg [0, 2] [
        ⟨some 2, .op (.mv (.c (.int .i64 16))), none⟩])) (
     .skip))) (
   .seq (
    .seq (
     .reg [0, 2, 8] [
       ⟨some 7, .op (.mv (.t 0)), none⟩,
       ⟨some 8, .op (.bin .geq (.t 7) (.c (.int .u32 256))), none⟩]) (
     .cond (.t 8) (
      .seq (
       .reg [0, 2] [
         ⟨some 9, .op (.mv (.t 0)), none⟩,
         ⟨some 10, .op (.bin .shr (.t 9) (.c (.int .u64 8))), none⟩,
         ⟨some 0, .op (.mv (.t 10)), none⟩]) (
       .reg [0, 2] [
         ⟨some 11, .op (.mv (.t 2)), none⟩,
         ⟨some 12, .op (.bin .add (.t 11) (.c (.int .i64 8))), none⟩,
         ⟨some 2, .op (.mv (.t 12)), none⟩])) (
      .skip))) (
    .seq (
     .reg [2] [
       ⟨some 13, .op (.mv (.t 2)), none⟩,
       ⟨some 14, .op (.mv (.t 0)), none⟩,
       ⟨some 15, .op (.toInt .u8 (.t 14)), none⟩,
       ⟨some 16, .op (.idxStr (.c (.str ⟨#[0, 1, 2, 2, 3, 3, 3, 3, 4, 4, 4, 4, 4, 4, 4, 4, 5, 5, 5, 5, 5, 5, 5, 5, 5, 5, 5, 5, 5, 5, 5, 5, 6, 6, 6, 6, 6, 6, 6, 6, 6, 6, 6, 6, 6, 6, 6, 6, 6, 6, 6, 6, 6, 6, 6, 6, 6, 6, 6, 6, 6, 6, 6, 6, 7, 7, 7, 7, 7, 7, 7, 7, 7, 7, 7, 7, 7, 7, 7, 7, 7, 7, 7, 7, 7, 7, 7, 7, 7, 7, 7, 7, 7, 7, 7, 7, 7, 7, 7, 7, 7, 7, 7, 7, 7, 7, 7, 7, 7, 7, 7, 7, 7, 7, 7, 7, 7, 7, 7, 7, 7, 7, 7, 7, 7, 7, 7, 7, 8, 8, 8, 8, 8, 8, 8, 8, 8, 8, 8, 8, 8, 8, 8, 8, 8, 8, 8, 8, 8, 8, 8, 8, 8, 8, 8, 8, 8, 8, 8, 8, 8, 8, 8, 8, 8, 8, 8, 8, 8, 8, 8, 8, 8, 8, 8, 8, 8, 8, 8, 8, 8, 8, 8, 8, 8, 8, 8, 8, 8, 8, 8, 8, 8, 8, 8, 8, 8, 8, 8, 8, 8, 8, 8, 8, 8, 8, 8, 8, 8, 8, 8, 8, 8, 8, 8, 8, 8, 8, 8, 8, 8, 8, 8, 8, 8, 8, 8, 8, 8, 8, 8, 8, 8, 8, 8, 8, 8, 8, 8, 8, 8, 8, 8, 8, 8, 8, 8, 8, 8, 8, 8, 8, 8, 8, 8, 8]⟩)) (.t 15)), none⟩,
       ⟨some 17, .op (.toInt .i64 (.t 16)), none⟩,
       ⟨some 18, .op (.bin .add (.t 13) (.t 17)), none⟩,
       ⟨some 2, .op (.mv (.t 18)), none⟩]) (
     .ret))))
theorem cf77 : compF Try.prog Try.f77 h77 = some (ac77, rs77) := by kernel_rfl

/-! math/bits.Len64 params 1 -/
def h78 : Hints := ⟨[(10, [2]), (9, [0, 2]), (8, [0, 2]), (7, [0, 2, 14]), (6, [0, 2]), (5, [0, 2]), (4, [0, 2, 8]), (3, [0, 2]), (2, [0]), (1, [0, 2, 4]), (0, [0, 2])], [], []⟩
def rs78 : List ARes := [.t 2]
def ac78 : ACode :=
 .seq (
  .reg [0, 2] [
    ⟨some 2, .op (.mv (.c (.int .i64 0))), none⟩]) (
  .seq (
   .seq (
    .reg [0, 2, 4] [
      ⟨some 3, .op (.mv (.t 0)), none⟩,
      ⟨some 4, .op (.bin .geq (.t 3) (.c (.int .u64 4294967296))), none⟩]) (
    .cond (.t 4) (
     .seq (
      .reg [0] [
        ⟨some 5, .op (.mv (.t 0)), none⟩,
        ⟨some 6, .op (.bin .shr (.t 5) (.c (.int .u64 32))), none⟩,
        ⟨some 0, .op (.mv (.t 6)), none⟩]) (
      .reg [0, 2] [
        ⟨some 2, .op (.mv (.c (.int .i64 32))), none⟩])) (
     .skip))) (
   .seq (
    .seq (
     .reg [0, 2, 8] [
       ⟨some 7, .op (.mv (.t 0)), none⟩,
       ⟨some 8, .op (.bin .geq (.t 7) (.c (.int .u64 65536))), none⟩]) (
     .cond (.t 8) (
      .seq (
       .reg [0, 2] [
         ⟨some 9, .op (.mv (.t 0)), none⟩,
         ⟨some 10, .op (.bin .shr (.t 9) (.c (.int .u64 16))), none⟩,
         ⟨some 0, .op (.mv (.t 10)), none⟩]) (
       .reg [0, 2] [
         ⟨some 11, .op (.mv (.t 2)), none⟩,
         ⟨some 12, .op (.bin .add (.t 11) (.c (.int .i64 16))), none⟩,
         ⟨some 2, .op (.mv (.t 12)), none⟩])) (
      .skip))) (
    .seq (
     .seq (
      .reg [0, 2, 14] [
        ⟨some 13, .op (.mv (.t 0)), none⟩,
        ⟨some 14, .op (.bin .geq (.t 13) (.c (.int .u64 256))), none⟩]) (
      .cond (.t 14) (
       .seq (
        .reg [0, 2] [
          ⟨some 15, .op (.mv (.t 0)), none⟩,
          ⟨some 16, .op (.bin .shr (.t 15) (.c (.int .u64 8))), none⟩,
          ⟨some 0, .op (.mv (.t 16)), none⟩]) (
        .reg [0, 2] [
          ⟨some 17, .op (.mv (.t 2)), none⟩,
          ⟨some 18, .op (.bin .add (.t 17) (.c (.int .i64 8))), none⟩,
          ⟨some 2, .op (.mv (.t 18)), none⟩])) (
       .skip))) (
     .seq (
      .reg [2] [
        ⟨some 19, .op (.mv (.t 2)), none⟩,
        ⟨some 20, .op (.mv (.t 0)), none⟩,
        ⟨some 21, .op (.toInt .u8 (.t 20)), none⟩,
        ⟨some 22, .op (.idxStr (.c (.str ⟨#[0, 1, 2, 2, 3, 3, 3, 3, 4, 4, 4, 4, 4, 4, 4, 4, 5, 5, 5, 5, 5, 5, 5, 5, 5, 5, 5, 5, 5, 5, 5, 5, 6, 6, 6, 6, 6, 6, 6, 6, 6, 6, 6, 6, 6, 6, 6, 6, 6, 6, 6, 6, 6, 6, 6, 6, 6, 6, 6, 6, 6, 6, 6, 6, 7, 7, 7, 7, 7, 7, 7, 7, 7, 7, 7, 7, 7, 7, 7, 7, 7, 7, 7, 7, 7, 7, 7, 7, 7, 7, 7, 7, 7, 7, 7, 7, 7, 7, 7, 7, 7, 7, 7, 7, 7, 7, 7, 7, 7, 7, 7, 7, 7, 7, 7, 7, 7, 7, 7, 7, 7, 7, 7, 7, 7, 7, 7, 7, 8, 8, 8, 8, 8, 8, 8, 8, 8, 8, 8, 8, 8, 8, 8, 8, 8, 8, 8, 8, 8, 8, 8, 8, 8, 8, 8, 8, 8, 8, 8, 8, 8, 8, 8, 8, 8, 8, 8, 8, 8, 8, 8, 8, 8, 8, 8, 8, 8, 8, 8, 8, 8, 8, 8, 8, 8, 8, 8, 8, 8, 8, 8, 8, 8, 8, 8, 8, 8, 8, 8, 8, 8, 8, 8, 8, 8, 8, 8, 8, 8, 8, 8, 8, 8, 8, 8, 8, 8, 8, 8, 8, 8, 8, 8, 8, 8, 8, 8, 8, 8, 8, 8, 8, 8, 8, 8, 8, 8, 8, 8, 8, 8, 8, 8, 8, 8, 8, 8, 8, 8, 8, 8, 8, 8, 8, 8, 8]⟩)) (.t 21)), none⟩,
        ⟨some 23, .op (.toInt .i64 (.t 22)), none⟩,
        ⟨some 24, .op (.bin .add (.t 19) (.t 23)), none⟩,
        ⟨some 2, .op (.mv (.t 24)), none⟩]) (
      .ret)))))
theorem cf78 : compF Try.prog Try.f78 h78 = some (ac78, rs78) := by kernel_rfl

/-! slices.AppendSeq[[]uint64,uint64] params 2 -/
def h79 : Hints := ⟨[(4, [4]), (3, [2]), (2, [2, 5]), (1, [2, 6]), (0, [1, 2])], [], []⟩
def rs79 : List ARes := [.t 4]
def ac79 : ACode :=
 .seq (
  .reg [1, 2] [
    ⟨some 2, .op (.box (.t 0)), none⟩,
    ⟨some 4, .op (.mv (.c (.nilsl))), none⟩]) (
  .seq (
   .seq (
    .reg [2, 6] [
      ⟨some 6, .op (.mv (.t 1)), none⟩]) (
    .block 0 (
     .rangef (.t 6) [7] (
      .reg [2, 5] [
        ⟨some 5, .op (.mv (.t 7)), none⟩]) (
      .block 1 (
       .reg [2] [
         ⟨some 8, .op (.ld1 (.t 2)), none⟩,
         ⟨some 9, .op (.mv (.t 5)), none⟩,
         ⟨some 10, .op (.buildSl 1 [.int .u64 0] 1 [(0, (.t 9))]), none⟩,
         ⟨some 11, .op (.append 1 8 (.t 8) (.t 10)), none⟩,
         ⟨none, .op (.st 1 (.t 2) (.t 11)), none⟩]))))) (
   .seq (
    .reg [4] [
      ⟨some 12, .op (.ld1 (.t 2)), none⟩,
      ⟨some 4, .op (.mv (.t 12)), none⟩]) (
    .ret)))
theorem cf79 : compF Try.prog Try.f79 h79 = some (ac79, rs79) := by kernel_rfl

/-! slices.pdqsortOrdered[uint64] params 4 -/
def h80 : Hints := ⟨[(27, [0, 1, 2, 3, 8, 9]), (26, [0, 2, 3, 8, 9, 14]), (25, [0, 1, 2, 3, 8, 9, 14]), (30, [0, 1, 2, 3, 8, 9]), (29, [0, 1, 3, 8, 9, 14]), (28, [0, 1, 2, 3, 8, 9, 14]), (24, [0, 1, 2, 3, 9, 14, 16, 17, 18, 113]), (23, [0, 1, 2, 3, 9, 14, 16, 17, 18]), (22, [0, 1, 2, 3, 9, 10, 14, 16, 17]), (21, [0, 1, 2, 3, 9, 10, 14]), (20, [0, 1, 2, 3, 10, 14, 15]), (19, [0, 1, 2, 3, 8, 9]), (18, [0, 2, 3, 8, 9, 13]), (17, [0, 1, 2, 3, 8, 9, 10, 11, 87]), (16, [0, 1, 2, 3, 8, 9, 10, 11, 72]), (15, [0, 1, 2, 3, 8, 9, 10, 11, 68]), (14, [0, 1, 2, 3, 8, 9, 10, 11, 12]), (13, [0, 1, 2, 3, 8, 9, 10, 11]), (12, [0, 1, 2, 3, 8, 9, 10, 11]), (11, [0, 1, 2, 3, 8, 9, 10, 11, 12, 50]), (10, [0, 1, 2, 3, 8, 9, 10, 11, 12]), (9, [0, 1, 2, 3, 8, 9, 10]), (8, [0, 1, 2, 3, 8, 9, 10]), (7, [0, 1, 2, 3, 8, 9, 10, 35]), (6, []), (5, [0, 1, 2, 3, 8, 9, 10, 29]), (4, []), (3, [0, 1, 2, 3, 8, 9, 10, 23]), (2, [0, 1, 2, 3, 8, 9, 10]), (1, [0, 1, 2, 3, 8, 9]), (0, [0, 1, 2, 3, 8])], [(2, [0, 1, 2, 3, 8, 9])], [(17, [(0, []), (1, []), (2, []), (3, []), (4, []), (5, []), (6, []), (7, []), (8, []), (9, []), (10, []), (11, []), (12, []), (13, []), (14, [])])]⟩
def rs80 : List ARes := []
def ac80 : ACode :=
 .seq (
  .reg [0, 1, 2, 3, 8] [
    ⟨some 8, .op (.mv (.c (.bool true))), none⟩]) (
  .seq (
   .reg [0, 1, 2, 3, 8, 9] [
     ⟨some 9, .op (.mv (.c (.bool true))), none⟩]) (
   .block 0 (
    .loop [0, 1, 2, 3, 8, 9] (
     .block 1 (
      .seq (
       .reg [0, 1, 2, 3, 8, 9, 10] [
         ⟨some 19, .op (.mv (.t 2)), none⟩,
         ⟨some 20, .op (.mv (.t 1)), none⟩,
         ⟨some 21, .op (.bin .sub (.t 19) (.t 20)), none⟩,
         ⟨some 10, .op (.mv (.t 21)), none⟩]) (
       .seq (
        .seq (
         .reg [0, 1, 2, 3, 8, 9, 10, 23] [
           ⟨some 22, .op (.mv (.t 10)), none⟩,
           ⟨some 23, .op (.bin .leq (.t 22) (.c (.int .i64 12))), none⟩]) (
         .cond (.t 23) (
          .seq (
           .reg [] [
             ⟨some 24, .op (.mv (.t 0)), none⟩,
             ⟨some 25, .op (.mv (.t 1)), none⟩,
             ⟨some 26, .op (.mv (.t 2)), none⟩,
             ⟨some 27, .call (.c (.fn 86 [] [])) [(.t 24), (.t 25), (.t 26)], none⟩]) (
           .ret)) (
          .skip))) (
        .seq (
         .seq (
          .reg [0, 1, 2, 3, 8, 9, 10, 29] [
            ⟨some 28, .op (.mv (.t 3)), none⟩,
            ⟨some 29, .op (.bin .eql (.t 28) (.c (.int .i64 0))), none⟩]) (
          .cond (.t 29) (
           .seq (
            .reg [] [
              ⟨some 30, .op (.mv (.t 0)), none⟩,
              ⟨some 31, .op (.mv (.t 1)), none⟩,
              ⟨some 32, .op (.mv (.t 2)), none⟩,
              ⟨some 33, .call (.c (.fn 87 [] [])) [(.t 30), (.t 31), (.t 32)], none⟩]) (
            .ret)) (
           .skip))) (
         .seq (
          .seq (
           .reg [0, 1, 2, 3, 8, 9, 10, 35] [
             ⟨some 34, .op (.mv (.t 8)), none⟩,
             ⟨some 35, .op (.un .not (.t 34)), none⟩]) (
           .cond (.t 35) (
            .seq (
             .reg [0, 1, 2, 3, 8, 9, 10] [
               ⟨some 36, .op (.mv (.t 0)), none⟩,
               ⟨some 37, .op (.mv (.t 1)), none⟩,
               ⟨some 38, .op (.mv (.t 2)), none⟩,
               ⟨some 39, .call (.c (.fn 88 [] [])) [(.t 36), (.t 37), (.t 38)], none⟩]) (
             .reg [0, 1, 2, 3, 8, 9, 10] [
               ⟨some 40, .op (.mv (.t 3)), none⟩,
               ⟨some 41, .op (.bin .sub (.t 40) (.c (.int .i64 1))), none⟩,
               ⟨some 3, .op (.mv (.t 41)), none⟩])) (
            .skip))) (
          .seq (
           .reg [0, 1, 2, 3, 8, 9, 10, 11, 12] [
             ⟨some 43, .op (.mv (.t 0)), none⟩,
             ⟨some 44, .op (.mv (.t 1)), none⟩,
             ⟨some 45, .op (.mv (.t 2)), none⟩,
             ⟨some 46, .call (.c (.fn 89 [] [])) [(.t 43), (.t 44), (.t 45)], none⟩,
             ⟨some 42, .op (.mv (.t 46)), none⟩,
             ⟨some 47, .op (.extract (.t 42) 0), none⟩,
             ⟨some 48, .op (.extract (.t 42) 1), none⟩,
             ⟨some 11, .op (.mv (.t 47)), none⟩,
             ⟨some 12, .op (.mv (.t 48)), none⟩]) (
           .seq (
            .seq (
             .reg [0, 1, 2, 3, 8, 9, 10, 11, 12, 50] [
               ⟨some 49, .op (.mv (.t 12)), none⟩,
               ⟨some 50, .op (.bin .eql (.t 49) (.c (.int .i64 2))), none⟩]) (
             .cond (.t 50) (
              .seq (
               .reg [0, 1, 2, 3, 8, 9, 10, 11] [
                 ⟨some 51, .op (.mv (.t 0)), none⟩,
                 ⟨some 52, .op (.mv (.t 1)), none⟩,
                 ⟨some 53, .op (.mv (.t 2)), none⟩,
                 ⟨some 54, .call (.c (.fn 90 [] [])) [(.t 51), (.t 52), (.t 53)], none⟩]) (
               .seq (
                .reg [0, 1, 2, 3, 8, 9, 10, 11] [
                  ⟨some 55, .op (.mv (.t 2)), none⟩,
                  ⟨some 56, .op (.bin .sub (.t 55) (.c (.int .i64 1))), none⟩,
                  ⟨some 57, .op (.mv (.t 11)), none⟩,
                  ⟨some 58, .op (.mv (.t 1)), none⟩,
                  ⟨some 59, .op (.bin .sub (.t 57) (.t 58)), none⟩,
                  ⟨some 60, .op (.bin .sub (.t 56) (.t 59)), none⟩,
                  ⟨some 11, .op (.mv (.t 60)), none⟩]) (
                .reg [0, 1, 2, 3, 8, 9, 10, 11, 12] [
                  ⟨some 12, .op (.mv (.c (.int .i64 1))), none⟩]))) (
              .skip))) (
            .seq (
             .seq (
              .reg [0, 1, 2, 3, 8, 9, 10, 11, 68] [
                ⟨some 61, .op (.mv (.t 8)), none⟩,
                ⟨some 62, .op (.mv (.t 61)), none⟩,
                ⟨some 63, .op (.mv (.t 9)), some (62, true)⟩,
                ⟨some 64, .pick (.t 62) (.t 63) (.c (.bool false)), none⟩,
                ⟨some 65, .op (.mv (.t 64)), none⟩,
                ⟨some 66, .op (.mv (.t 12)), some (65, true)⟩,
                ⟨some 67, .op (.bin .eql (.t 66) (.c (.int .i64 1))), some (65, true)⟩,
                ⟨some 68, .pick (.t 65) (.t 67) (.c (.bool false)), none⟩]) (
              .cond (.t 68) (
               .seq (
                .reg [0, 1, 2, 3, 8, 9, 10, 11, 72] [
                  ⟨some 69, .op (.mv (.t 0)), none⟩,
                  ⟨some 70, .op (.mv (.t 1)), none⟩,
                  ⟨some 71, .op (.mv (.t 2)), none⟩,
                  ⟨some 72, .call (.c (.fn 91 [] [])) [(.t 69), (.t 70), (.t 71)], none⟩]) (
                .cond (.t 72) (
                 .ret) (
                 .skip))) (
               .skip))) (
             .seq (
              .seq (
               .dreg [0, 1, 2, 3, 8, 9, 10, 11, 87] [
                 (⟨some 73, .op (.mv (.t 1)), none⟩, []),
                 (⟨some 74, .op (.bin .gtr (.t 73) (.c (.int .i64 0))), none⟩, []),
                 (⟨some 75, .op (.mv (.t 74)), none⟩, []),
                 (⟨some 76, .op (.mv (.t 0)), some (75, true)⟩, []),
                 (⟨some 77, .op (.mv (.t 1)), some (75, true)⟩, []),
                 (⟨some 78, .op (.bin .sub (.t 77) (.c (.int .i64 1))), some (75, true)⟩, []),
                 (⟨some 79, .op (.idxAddr 1 (.t 76) (.t 78)), some (75, true)⟩, []),
                 (⟨some 80, .op (.ld1 (.t 79)), some (75, true)⟩, []),
                 (⟨some 81, .op (.mv (.t 0)), some (75, true)⟩, []),
                 (⟨some 82, .op (.mv (.t 11)), some (75, true)⟩, []),
                 (⟨some 83, .op (.idxAddr 1 (.t 81) (.t 82)), some (75, true)⟩, []),
                 (⟨some 84, .op (.ld1 (.t 83)), some (75, true)⟩, []),
                 (⟨some 85, .call (.c (.fn 92 [] [])) [(.t 80), (.t 84)], some (75, true)⟩, []),
                 (⟨some 86, .op (.un .not (.t 85)), some (75, true)⟩, []),
                 (⟨some 87, .pick (.t 75) (.t 86) (.c (.bool false)), none⟩, [])]) (
               .cond (.t 87) (
                .seq (
                 .reg [0, 2, 3, 8, 9, 13] [
                   ⟨some 88, .op (.mv (.t 0)), none⟩,
                   ⟨some 89, .op (.mv (.t 1)), none⟩,
                   ⟨some 90, .op (.mv (.t 2)), none⟩,
                   ⟨some 91, .op (.mv (.t 11)), none⟩,
                   ⟨some 92, .call (.c (.fn 93 [] [])) [(.t 88), (.t 89), (.t 90), (.t 91)], none⟩,
                   ⟨some 13, .op (.mv (.t 92)), none⟩]) (
                 .seq (
                  .reg [0, 1, 2, 3, 8, 9] [
                    ⟨some 93, .op (.mv (.t 13)), none⟩,
                    ⟨some 1, .op (.mv (.t 93)), none⟩]) (
                  .exit 1))) (
                .skip))) (
              .seq (
               .reg [0, 1, 2, 3, 10, 14, 15] [
                 ⟨some 95, .op (.mv (.t 0)), none⟩,
                 ⟨some 96, .op (.mv (.t 1)), none⟩,
                 ⟨some 97, .op (.mv (.t 2)), none⟩,
                 ⟨some 98, .op (.mv (.t 11)), none⟩,
                 ⟨some 99, .call (.c (.fn 94 [] [])) [(.t 95), (.t 96), (.t 97), (.t 98)], none⟩,
                 ⟨some 94, .op (.mv (.t 99)), none⟩,
                 ⟨some 100, .op (.extract (.t 94) 0), none⟩,
                 ⟨some 101, .op (.extract (.t 94) 1), none⟩,
                 ⟨some 14, .op (.mv (.t 100)), none⟩,
                 ⟨some 15, .op (.mv (.t 101)), none⟩]) (
               .seq (
                .reg [0, 1, 2, 3, 9, 10, 14] [
                  ⟨some 102, .op (.mv (.t 15)), none⟩,
                  ⟨some 9, .op (.mv (.t 102)), none⟩]) (
                .seq (
                 .reg [0, 1, 2, 3, 9, 10, 14, 16, 17] [
                   ⟨some 103, .op (.mv (.t 14)), none⟩,
                   ⟨some 104, .op (.mv (.t 1)), none⟩,
                   ⟨some 105, .op (.bin .sub (.t 103) (.t 104)), none⟩,
                   ⟨some 106, .op (.mv (.t 2)), none⟩,
                   ⟨some 107, .op (.mv (.t 14)), none⟩,
                   ⟨some 108, .op (.bin .sub (.t 106) (.t 107)), none⟩,
                   ⟨some 16, .op (.mv (.t 105)), none⟩,
                   ⟨some 17, .op (.mv (.t 108)), none⟩]) (
                 .seq (
                  .reg [0, 1, 2, 3, 9, 14, 16, 17, 18] [
                    ⟨some 109, .op (.mv (.t 10)), none⟩,
                    ⟨some 110, .op (.bin .quo (.t 109) (.c (.int .i64 8))), none⟩,
                    ⟨some 18, .op (.mv (.t 110)), none⟩]) (
                  .seq (
                   .reg [0, 1, 2, 3, 9, 14, 16, 17, 18, 113] [
                     ⟨some 111, .op (.mv (.t 16)), none⟩,
                     ⟨some 112, .op (.mv (.t 17)), none⟩,
                     ⟨some 113, .op (.bin .lss (.t 111) (.t 112)), none⟩]) (
                   .cond (.t 113) (
                    .seq (
                     .reg [0, 1, 2, 3, 8, 9, 14] [
                       ⟨some 114, .op (.mv (.t 16)), none⟩,
                       ⟨some 115, .op (.mv (.t 18)), none⟩,
                       ⟨some 116, .op (.bin .geq (.t 114) (.t 115)), none⟩,
                       ⟨some 8, .op (.mv (.t 116)), none⟩]) (
                     .seq (
                      .reg [0, 2, 3, 8, 9, 14] [
                        ⟨some 117, .op (.mv (.t 0)), none⟩,
                        ⟨some 118, .op (.mv (.t 1)), none⟩,
                        ⟨some 119, .op (.mv (.t 14)), none⟩,
                        ⟨some 120, .op (.mv (.t 3)), none⟩,
                        ⟨some 121, .call (.c (.fn 80 [] [])) [(.t 117), (.t 118), (.t 119), (.t 120)], none⟩]) (
                      .reg [0, 1, 2, 3, 8, 9] [
                        ⟨some 122, .op (.mv (.t 14)), none⟩,
                        ⟨some 123, .op (.bin .add (.t 122) (.c (.int .i64 1))), none⟩,
                        ⟨some 1, .op (.mv (.t 123)), none⟩]))) (
                    .seq (
                     .reg [0, 1, 2, 3, 8, 9, 14] [
                       ⟨some 124, .op (.mv (.t 17)), none⟩,
                       ⟨some 125, .op (.mv (.t 18)), none⟩,
                       ⟨some 126, .op (.bin .geq (.t 124) (.t 125)), none⟩,
                       ⟨some 8, .op (.mv (.t 126)), none⟩]) (
                     .seq (
                      .reg [0, 1, 3, 8, 9, 14] [
                        ⟨some 127, .op (.mv (.t 0)), none⟩,
                        ⟨some 128, .op (.mv (.t 14)), none⟩,
                        ⟨some 129, .op (.bin .add (.t 128) (.c (.int .i64 1))), none⟩,
                        ⟨some 130, .op (.mv (.t 2)), none⟩,
                        ⟨some 131, .op (.mv (.t 3)), none⟩,
                        ⟨some 132, .call (.c (.fn 80 [] [])) [(.t 127), (.t 129), (.t 130), (.t 131)], none⟩]) (
                      .reg [0, 1, 2, 3, 8, 9] [
                        ⟨some 133, .op (.mv (.t 14)), none⟩,
                        ⟨some 2, .op (.mv (.t 133)), none⟩])))))))))))))))))))))
theorem cf80 : compF Try.prog Try.f80 h80 = some (ac80, rs80) := by kernel_rfl

/-! slices.nextPowerOfTwo params 1 -/
def h82 : Hints := ⟨[(1, [2]), (0, [0])], [], []⟩
def rs82 : List ARes := [.t 2]
def ac82 : ACode :=
 .seq (
  .reg [0] [
    ⟨some 2, .op (.mv (.c (.int .u64 0))), none⟩]) (
  .seq (
   .reg [2] [
     ⟨some 3, .op (.mv (.t 0)), none⟩,
     ⟨some 4, .op (.toInt .u64 (.t 3)), none⟩,
     ⟨some 5, .call (.c (.fn 63 [] [])) [(.t 4)], none⟩,
     ⟨some 6, .op (.bin .shl (.c (.int .u64 1)) (.t 5)), none⟩,
     ⟨some 2, .op (.mv (.t 6)), none⟩]) (
   .ret))
theorem cf82 : compF Try.prog Try.f82 h82 = some (ac82, rs82) := by kernel_rfl

/-! (*slices.xorshift).Next params 1 -/
def h83 : Hints := ⟨[(4, [2]), (3, [0]), (2, [0]), (1, [0]), (0, [0])], [], [(1, [(0, []), (1, []), (2, []), (3, []), (4, []), (5, []), (6, []), (7, []), (8, []), (9, [])]), (2, [(0, []), (1, []), (2, []), (3, []), (4, []), (5, []), (6, []), (7, []), (8, []), (9, [])]), (3, [(0, []), (1, []), (2, []), (3, []), (4, []), (5, []), (6, []), (7, []), (8, []), (9, [])])]⟩
def rs83 : List ARes := [.t 2]
def ac83 : ACode :=
 .seq (
  .reg [0] [
    ⟨some 2, .op (.mv (.c (.int .u64 0))), none⟩]) (
  .seq (
   .dreg [0] [
     (⟨some 3, .op (.mv (.t 0)), none⟩, []),
     (⟨some 4, .op (.nilCheck (.t 3)), none⟩, []),
     (⟨some 5, .op (.ld1 (.t 4)), none⟩, []),
     (⟨some 6, .op (.mv (.t 0)), none⟩, []),
     (⟨some 7, .op (.nilCheck (.t 6)), none⟩, []),
     (⟨some 8, .op (.ld1 (.t 7)), none⟩, []),
     (⟨some 9, .op (.bin .shl (.t 8) (.c (.int .u64 13))), none⟩, []),
     (⟨some 10, .op (.bin .xor (.t 5) (.t 9)), none⟩, []),
     (⟨some 11, .op (.nilCheck (.t 3)), none⟩, []),
     (⟨none, .op (.st 1 (.t 11) (.t 10)), none⟩, [])]) (
   .seq (
    .dreg [0] [
      (⟨some 12, .op (.mv (.t 0)), none⟩, []),
      (⟨some 13, .op (.nilCheck (.t 12)), none⟩, []),
      (⟨some 14, .op (.ld1 (.t 13)), none⟩, []),
      (⟨some 15, .op (.mv (.t 0)), none⟩, []),
      (⟨some 16, .op (.nilCheck (.t 15)), none⟩, []),
      (⟨some 17, .op (.ld1 (.t 16)), none⟩, []),
      (⟨some 18, .op (.bin .shr (.t 17) (.c (.int .u64 7))), none⟩, []),
      (⟨some 19, .op (.bin .xor (.t 14) (.t 18)), none⟩, []),
      (⟨some 20, .op (.nilCheck (.t 12)), none⟩, []),
      (⟨none, .op (.st 1 (.t 20) (.t 19)), none⟩, [])]) (
    .seq (
     .dreg [0] [
       (⟨some 21, .op (.mv (.t 0)), none⟩, []),
       (⟨some 22, .op (.nilCheck (.t 21)), none⟩, []),
       (⟨some 23, .op (.ld1 (.t 22)), none⟩, []),
       (⟨some 24, .op (.mv (.t 0)), none⟩, []),
       (⟨some 25, .op (.nilCheck (.t 24)), none⟩, []),
       (⟨some 26, .op (.ld1 (.t 25)), none⟩, []),
       (⟨some 27, .op (.bin .shl (.t 26) (.c (.int .u64 17))), none⟩, []),
       (⟨some 28, .op (.bin .xor (.t 23) (.t 27)), none⟩, []),
       (⟨some 29, .op (.nilCheck (.t 21)), none⟩, []),
       (⟨none, .op (.st 1 (.t 29) (.t 28)), none⟩, [])]) (
     .seq (
      .reg [2] [
        ⟨some 30, .op (.mv (.t 0)), none⟩,
        ⟨some 31, .op (.nilCheck (.t 30)), none⟩,
        ⟨some 32, .op (.ld1 (.t 31)), none⟩,
        ⟨some 2, .op (.mv (.t 32)), none⟩]) (
      .ret)))))
theorem cf83 : compF Try.prog Try.f83 h83 = some (ac83, rs83) := by kernel_rfl

/-! slices.insertionSortOrdered[uint64] params 3 -/
def h86 : Hints := ⟨[(2, [0, 1, 2, 6]), (5, [0, 1, 2, 6, 7]), (6, [0, 1, 2, 6, 7]), (4, [0, 1, 2, 6, 7, 30]), (3, [0, 1, 2, 6, 7]), (1, [0, 1, 2, 6, 12]), (0, [0, 1, 2, 6])], [(4, [0, 1, 2, 6, 7]), (1, [0, 1, 2, 6])], [(4, [(0, []), (1, []), (2, []), (3, []), (4, []), (5, []), (6, []), (7, []), (8, []), (9, []), (10, []), (11, []), (12, []), (13, []), (14, [])]), (6, [(0, []), (1, []), (2, []), (3, []), (4, []), (5, []), (6, []), (7, []), (8, []), (9, []), (10, []), (11, []), (12, []), (13, []), (14, []), (15, []), (16, []), (17, [])])]⟩
def rs86 : List ARes := []
def ac86 : ACode :=
 .seq (
  .reg [0, 1, 2, 6] [
    ⟨some 8, .op (.mv (.t 1)), none⟩,
    ⟨some 9, .op (.bin .add (.t 8) (.c (.int .i64 1))), none⟩,
    ⟨some 6, .op (.mv (.t 9)), none⟩]) (
  .block 0 (
   .loop [0, 1, 2, 6] (
    .seq (
     .seq (
      .reg [0, 1, 2, 6, 12] [
        ⟨some 10, .op (.mv (.t 6)), none⟩,
        ⟨some 11, .op (.mv (.t 2)), none⟩,
        ⟨some 12, .op (.bin .lss (.t 10) (.t 11)), none⟩]) (
      .cond (.t 12) (
       .skip) (
       .exit 0))) (
     .seq (
      .block 1 (
       .seq (
        .reg [0, 1, 2, 6, 7] [
          ⟨some 15, .op (.mv (.t 6)), none⟩,
          ⟨some 7, .op (.mv (.t 15)), none⟩]) (
        .block 2 (
         .loop [0, 1, 2, 6, 7] (
          .seq (
           .seq (
            .dreg [0, 1, 2, 6, 7, 30] [
              (⟨some 16, .op (.mv (.t 7)), none⟩, []),
              (⟨some 17, .op (.mv (.t 1)), none⟩, []),
              (⟨some 18, .op (.bin .gtr (.t 16) (.t 17)), none⟩, []),
              (⟨some 19, .op (.mv (.t 18)), none⟩, []),
              (⟨some 20, .op (.mv (.t 0)), some (19, true)⟩, []),
              (⟨some 21, .op (.mv (.t 7)), some (19, true)⟩, []),
              (⟨some 22, .op (.idxAddr 1 (.t 20) (.t 21)), some (19, true)⟩, []),
              (⟨some 23, .op (.ld1 (.t 22)), some (19, true)⟩, []),
              (⟨some 24, .op (.mv (.t 0)), some (19, true)⟩, []),
              (⟨some 25, .op (.mv (.t 7)), some (19, true)⟩, []),
              (⟨some 26, .op (.bin .sub (.t 25) (.c (.int .i64 1))), some (19, true)⟩, []),
              (⟨some 27, .op (.idxAddr 1 (.t 24) (.t 26)), some (19, true)⟩, []),
              (⟨some 28, .op (.ld1 (.t 27)), some (19, true)⟩, []),
              (⟨some 29, .call (.c (.fn 92 [] [])) [(.t 23), (.t 28)], some (19, true)⟩, []),
              (⟨some 30, .pick (.t 19) (.t 29) (.c (.bool false)), none⟩, [])]) (
            .cond (.t 30) (
             .skip) (
             .exit 2))) (
           .seq (
            .block 3 (
             .dreg [0, 1, 2, 6, 7] [
               (⟨some 33, .op (.mv (.t 0)), none⟩, []),
               (⟨some 34, .op (.mv (.t 7)), none⟩, []),
               (⟨some 35, .op (.mv (.t 0)), none⟩, []),
               (⟨some 36, .op (.mv (.t 7)), none⟩, []),
               (⟨some 37, .op (.bin .sub (.t 36) (.c (.int .i64 1))), none⟩, []),
               (⟨some 38, .op (.mv (.t 0)), none⟩, []),
               (⟨some 39, .op (.mv (.t 7)), none⟩, []),
               (⟨some 40, .op (.bin .sub (.t 39) (.c (.int .i64 1))), none⟩, []),
               (⟨some 41, .op (.idxAddr 1 (.t 38) (.t 40)), none⟩, []),
               (⟨some 42, .op (.ld1 (.t 41)), none⟩, []),
               (⟨some 43, .op (.mv (.t 0)), none⟩, []),
               (⟨some 44, .op (.mv (.t 7)), none⟩, []),
               (⟨some 45, .op (.idxAddr 1 (.t 43) (.t 44)), none⟩, []),
               (⟨some 46, .op (.ld1 (.t 45)), none⟩, []),
               (⟨some 47, .op (.idxAddr 1 (.t 33) (.t 34)), none⟩, []),
               (⟨none, .op (.st 1 (.t 47) (.t 42)), none⟩, []),
               (⟨some 48, .op (.idxAddr 1 (.t 35) (.t 37)), none⟩, []),
               (⟨none, .op (.st 1 (.t 48) (.t 46)), none⟩, [])])) (
            .reg [0, 1, 2, 6, 7] [
              ⟨some 31, .op (.mv (.t 7)), none⟩,
              ⟨some 32, .op (.bin .sub (.t 31) (.c (.int .i64 1))), none⟩,
              ⟨some 7, .op (.mv (.t 32)), none⟩]))))))) (
      .reg [0, 1, 2, 6] [
        ⟨some 13, .op (.mv (.t 6)), none⟩,
        ⟨some 14, .op (.bin .add (.t 13) (.c (.int .i64 1))), none⟩,
        ⟨some 6, .op (.mv (.t 14)), none⟩])))))
theorem cf86 : compF Try.prog Try.f86 h86 = some (ac86, rs86) := by kernel_rfl

/-! slices.heapSortOrdered[uint64] params 3 -/
def h87 : Hints := ⟨[(9, [0, 6, 7, 10]), (11, [0, 6, 7, 10]), (10, [0, 6, 7, 10]), (8, [0, 6, 7, 10, 30]), (7, [0, 6, 7, 10]), (5, [0, 6, 7, 8, 9]), (6, [0, 6, 7, 8, 9]), (4, [0, 6, 7, 8, 9, 19]), (3, [0, 6, 7, 8, 9]), (2, [0, 6, 7, 8]), (1, [0, 1, 2, 6, 7]), (0, [0, 1, 2, 6])], [(8, [0, 6, 7, 10]), (4, [0, 6, 7, 8, 9])], [(10, [(0, []), (1, []), (2, []), (3, []), (4, []), (5, []), (6, []), (7, []), (8, []), (9, []), (10, []), (11, []), (12, []), (13, []), (14, []), (15, []), (16, []), (17, []), (18, []), (19, [])])]⟩
def rs87 : List ARes := []
def ac87 : ACode :=
 .seq (
  .reg [0, 1, 2, 6] [
    ⟨some 11, .op (.mv (.t 1)), none⟩,
    ⟨some 6, .op (.mv (.t 11)), none⟩]) (
  .seq (
   .reg [0, 1, 2, 6, 7] [
     ⟨some 7, .op (.mv (.c (.int .i64 0))), none⟩]) (
   .seq (
    .reg [0, 6, 7, 8] [
      ⟨some 12, .op (.mv (.t 2)), none⟩,
      ⟨some 13, .op (.mv (.t 1)), none⟩,
      ⟨some 14, .op (.bin .sub (.t 12) (.t 13)), none⟩,
      ⟨some 8, .op (.mv (.t 14)), none⟩]) (
    .seq (
     .seq (
      .reg [0, 6, 7, 8, 9] [
        ⟨some 15, .op (.mv (.t 8)), none⟩,
        ⟨some 16, .op (.bin .sub (.t 15) (.c (.int .i64 1))), none⟩,
        ⟨some 17, .op (.bin .quo (.t 16) (.c (.int .i64 2))), none⟩,
        ⟨some 9, .op (.mv (.t 17)), none⟩]) (
      .block 0 (
       .loop [0, 6, 7, 8, 9] (
        .seq (
         .seq (
          .reg [0, 6, 7, 8, 9, 19] [
            ⟨some 18, .op (.mv (.t 9)), none⟩,
            ⟨some 19, .op (.bin .geq (.t 18) (.c (.int .i64 0))), none⟩]) (
          .cond (.t 19) (
           .skip) (
           .exit 0))) (
         .seq (
          .block 1 (
           .reg [0, 6, 7, 8, 9] [
             ⟨some 22, .op (.mv (.t 0)), none⟩,
             ⟨some 23, .op (.mv (.t 9)), none⟩,
             ⟨some 24, .op (.mv (.t 8)), none⟩,
             ⟨some 25, .op (.mv (.t 6)), none⟩,
             ⟨some 26, .call (.c (.fn 96 [] [])) [(.t 22), (.t 23), (.t 24), (.t 25)], none⟩])) (
          .reg [0, 6, 7, 8, 9] [
            ⟨some 20, .op (.mv (.t 9)), none⟩,
            ⟨some 21, .op (.bin .sub (.t 20) (.c (.int .i64 1))), none⟩,
            ⟨some 9, .op (.mv (.t 21)), none⟩])))))) (
     .seq (
      .reg [0, 6, 7, 10] [
        ⟨some 27, .op (.mv (.t 8)), none⟩,
        ⟨some 28, .op (.bin .sub (.t 27) (.c (.int .i64 1))), none⟩,
        ⟨some 10, .op (.mv (.t 28)), none⟩]) (
      .block 2 (
       .loop [0, 6, 7, 10] (
        .seq (
         .seq (
          .reg [0, 6, 7, 10, 30] [
            ⟨some 29, .op (.mv (.t 10)), none⟩,
            ⟨some 30, .op (.bin .geq (.t 29) (.c (.int .i64 0))), none⟩]) (
          .cond (.t 30) (
           .skip) (
           .exit 2))) (
         .seq (
          .block 3 (
           .seq (
            .dreg [0, 6, 7, 10] [
              (⟨some 33, .op (.mv (.t 0)), none⟩, []),
              (⟨some 34, .op (.mv (.t 6)), none⟩, []),
              (⟨some 35, .op (.mv (.t 0)), none⟩, []),
              (⟨some 36, .op (.mv (.t 6)), none⟩, []),
              (⟨some 37, .op (.mv (.t 10)), none⟩, []),
              (⟨some 38, .op (.bin .add (.t 36) (.t 37)), none⟩, []),
              (⟨some 39, .op (.mv (.t 0)), none⟩, []),
              (⟨some 40, .op (.mv (.t 6)), none⟩, []),
              (⟨some 41, .op (.mv (.t 10)), none⟩, []),
              (⟨some 42, .op (.bin .add (.t 40) (.t 41)), none⟩, []),
              (⟨some 43, .op (.idxAddr 1 (.t 39) (.t 42)), none⟩, []),
              (⟨some 44, .op (.ld1 (.t 43)), none⟩, []),
              (⟨some 45, .op (.mv (.t 0)), none⟩, []),
              (⟨some 46, .op (.mv (.t 6)), none⟩, []),
              (⟨some 47, .op (.idxAddr 1 (.t 45) (.t 46)), none⟩, []),
              (⟨some 48, .op (.ld1 (.t 47)), none⟩, []),
              (⟨some 49, .op (.idxAddr 1 (.t 33) (.t 34)), none⟩, []),
              (⟨none, .op (.st 1 (.t 49) (.t 44)), none⟩, []),
              (⟨some 50, .op (.idxAddr 1 (.t 35) (.t 38)), none⟩, []),
              (⟨none, .op (.st 1 (.t 50) (.t 48)), none⟩, [])]) (
            .reg [0, 6, 7, 10] [
              ⟨some 51, .op (.mv (.t 0)), none⟩,
              ⟨some 52, .op (.mv (.t 7)), none⟩,
              ⟨some 53, .op (.mv (.t 10)), none⟩,
              ⟨some 54, .op (.mv (.t 6)), none⟩,
              ⟨some 55, .call (.c (.fn 96 [] [])) [(.t 51), (.t 52), (.t 53), (.t 54)], none⟩]))) (
          .reg [0, 6, 7, 10] [
            ⟨some 31, .op (.mv (.t 10)), none⟩,
            ⟨some 32, .op (.bin .sub (.t 31) (.c (.int .i64 1))), none⟩,
            ⟨some 10, .op (.mv (.t 32)), none⟩])))))))))
theorem cf87 : compF Try.prog Try.f87 h87 = some (ac87, rs87) := by kernel_rfl

/-! slices.breakPatternsOrdered[uint64] params 3 -/
def h88 : Hints := ⟨[(6, [0, 1, 6, 7, 8, 9]), (10, [0, 1, 6, 7, 8, 9]), (9, [0, 1, 6, 7, 8, 9, 10]), (8, [0, 1, 6, 7, 8, 9, 10, 43]), (7, [0, 1, 6, 7, 8, 9, 10]), (5, [0, 1, 6, 7, 8, 9, 33]), (4, [0, 1, 6, 7, 8, 9]), (3, [0, 1, 6, 7, 8]), (2, [0, 1, 6, 7]), (1, [0, 1, 6, 15]), (0, [0, 1, 6])], [(5, [0, 1, 6, 7, 8, 9])], [(10, [(0, []), (1, []), (2, []), (3, []), (4, []), (5, []), (6, []), (7, []), (8, []), (9, []), (10, []), (11, []), (12, []), (13, []), (14, []), (15, []), (16, []), (17, []), (18, []), (19, [])])]⟩
def rs88 : List ARes := []
def ac88 : ACode :=
 .seq (
  .reg [0, 1, 6] [
    ⟨some 11, .op (.mv (.t 2)), none⟩,
    ⟨some 12, .op (.mv (.t 1)), none⟩,
    ⟨some 13, .op (.bin .sub (.t 11) (.t 12)), none⟩,
    ⟨some 6, .op (.mv (.t 13)), none⟩]) (
  .seq (
   .reg [0, 1, 6, 15] [
     ⟨some 14, .op (.mv (.t 6)), none⟩,
     ⟨some 15, .op (.bin .geq (.t 14) (.c (.int .i64 8))), none⟩]) (
   .cond (.t 15) (
    .seq (
     .reg [0, 1, 6, 7] [
       ⟨some 16, .op (.mv (.t 6)), none⟩,
       ⟨some 17, .op (.toInt .u64 (.t 16)), none⟩,
       ⟨some 7, .op (.alloc [.int .u64 0]), none⟩,
       ⟨none, .op (.st 1 (.t 7) (.t 17)), none⟩]) (
     .seq (
      .reg [0, 1, 6, 7, 8] [
        ⟨some 18, .op (.mv (.t 6)), none⟩,
        ⟨some 19, .call (.c (.fn 82 [] [])) [(.t 18)], none⟩,
        ⟨some 8, .op (.mv (.t 19)), none⟩]) (
      .seq (
       .reg [0, 1, 6, 7, 8, 9] [
         ⟨some 20, .op (.mv (.t 1)), none⟩,
         ⟨some 21, .op (.mv (.t 6)), none⟩,
         ⟨some 22, .op (.bin .quo (.t 21) (.c (.int .i64 4))), none⟩,
         ⟨some 23, .op (.bin .mul (.t 22) (.c (.int .i64 2))), none⟩,
         ⟨some 24, .op (.bin .add (.t 20) (.t 23)), none⟩,
         ⟨some 25, .op (.bin .sub (.t 24) (.c (.int .i64 1))), none⟩,
         ⟨some 9, .op (.mv (.t 25)), none⟩]) (
       .block 0 (
        .loop [0, 1, 6, 7, 8, 9] (
         .seq (
          .seq (
           .reg [0, 1, 6, 7, 8, 9, 33] [
             ⟨some 26, .op (.mv (.t 9)), none⟩,
             ⟨some 27, .op (.mv (.t 1)), none⟩,
             ⟨some 28, .op (.mv (.t 6)), none⟩,
             ⟨some 29, .op (.bin .quo (.t 28) (.c (.int .i64 4))), none⟩,
             ⟨some 30, .op (.bin .mul (.t 29) (.c (.int .i64 2))), none⟩,
             ⟨some 31, .op (.bin .add (.t 27) (.t 30)), none⟩,
             ⟨some 32, .op (.bin .add (.t 31) (.c (.int .i64 1))), none⟩,
             ⟨some 33, .op (.bin .leq (.t 26) (.t 32)), none⟩]) (
           .cond (.t 33) (
            .skip) (
            .exit 0))) (
          .seq (
           .block 1 (
            .seq (
             .reg [0, 1, 6, 7, 8, 9, 10] [
               ⟨some 36, .call (.c (.fn 83 [] [])) [(.t 7)], none⟩,
               ⟨some 37, .op (.mv (.t 8)), none⟩,
               ⟨some 38, .op (.bin .sub (.t 37) (.c (.int .u64 1))), none⟩,
               ⟨some 39, .op (.bin .and (.t 36) (.t 38)), none⟩,
               ⟨some 40, .op (.toInt .i64 (.t 39)), none⟩,
               ⟨some 10, .op (.mv (.t 40)), none⟩]) (
             .seq (
              .seq (
               .reg [0, 1, 6, 7, 8, 9, 10, 43] [
                 ⟨some 41, .op (.mv (.t 10)), none⟩,
                 ⟨some 42, .op (.mv (.t 6)), none⟩,
                 ⟨some 43, .op (.bin .geq (.t 41) (.t 42)), none⟩]) (
               .cond (.t 43) (
                .reg [0, 1, 6, 7, 8, 9, 10] [
                  ⟨some 44, .op (.mv (.t 10)), none⟩,
                  ⟨some 45, .op (.mv (.t 6)), none⟩,
                  ⟨some 46, .op (.bin .sub (.t 44) (.t 45)), none⟩,
                  ⟨some 10, .op (.mv (.t 46)), none⟩]) (
                .skip))) (
              .dreg [0, 1, 6, 7, 8, 9] [
                (⟨some 47, .op (.mv (.t 0)), none⟩, []),
                (⟨some 48, .op (.mv (.t 9)), none⟩, []),
                (⟨some 49, .op (.mv (.t 0)), none⟩, []),
                (⟨some 50, .op (.mv (.t 1)), none⟩, []),
                (⟨some 51, .op (.mv (.t 10)), none⟩, []),
                (⟨some 52, .op (.bin .add (.t 50) (.t 51)), none⟩, []),
                (⟨some 53, .op (.mv (.t 0)), none⟩, []),
                (⟨some 54, .op (.mv (.t 1)), none⟩, []),
                (⟨some 55, .op (.mv (.t 10)), none⟩, []),
                (⟨some 56, .op (.bin .add (.t 54) (.t 55)), none⟩, []),
                (⟨some 57, .op (.idxAddr 1 (.t 53) (.t 56)), none⟩, []),
                (⟨some 58, .op (.ld1 (.t 57)), none⟩, []),
                (⟨some 59, .op (.mv (.t 0)), none⟩, []),
                (⟨some 60, .op (.mv (.t 9)), none⟩, []),
                (⟨some 61, .op (.idxAddr 1 (.t 59) (.t 60)), none⟩, []),
                (⟨some 62, .op (.ld1 (.t 61)), none⟩, []),
                (⟨some 63, .op (.idxAddr 1 (.t 47) (.t 48)), none⟩, []),
                (⟨none, .op (.st 1 (.t 63) (.t 58)), none⟩, []),
                (⟨some 64, .op (.idxAddr 1 (.t 49) (.t 52)), none⟩, []),
                (⟨none, .op (.st 1 (.t 64) (.t 62)), none⟩, [])])))) (
           .reg [0, 1, 6, 7, 8, 9] [
             ⟨some 34, .op (.mv (.t 9)), none⟩,
             ⟨some 35, .op (.bin .add (.t 34) (.c (.int .i64 1))), none⟩,
             ⟨some 9, .op (.mv (.t 35)), none⟩])))))))) (
    .skip)))
theorem cf88 : compF Try.prog Try.f88 h88 = some (ac88, rs88) := by kernel_rfl

/-! slices.choosePivotOrdered[uint64] params 3 -/
def h89 : Hints := ⟨[(15, [6, 7]), (17, [6, 7]), (13, [6, 7]), (16, [11, 54]), (14, [11, 49, 51]), (12, [11, 49]), (11, [9, 11]), (10, [0, 9, 10, 11, 12]), (9, [0, 9, 10, 11, 12]), (8, [0, 9, 10, 11, 12]), (7, [0, 9, 10, 11, 12, 34]), (6, [0, 8, 9, 10, 11, 12, 32]), (5, [0, 8, 9, 10, 11, 12]), (4, [0, 1, 8, 9, 10, 11]), (3, [0, 1, 8, 9, 10]), (2, [0, 1, 8, 9]), (1, [0, 1, 8]), (0, [0, 1, 2])], [], []⟩
def rs89 : List ARes := [.t 6, .t 7]
def ac89 : ACode :=
 .seq (
  .reg [0, 1, 2] [
    ⟨some 6, .op (.mv (.c (.int .i64 0))), none⟩,
    ⟨some 7, .op (.mv (.c (.int .i64 0))), none⟩]) (
  .seq (
   .reg [0, 1, 8] [
     ⟨some 13, .op (.mv (.t 2)), none⟩,
     ⟨some 14, .op (.mv (.t 1)), none⟩,
     ⟨some 15, .op (.bin .sub (.t 13) (.t 14)), none⟩,
     ⟨some 8, .op (.mv (.t 15)), none⟩]) (
   .seq (
    .reg [0, 1, 8, 9] [
      ⟨some 9, .op (.alloc [.int .i64 0]), none⟩]) (
    .seq (
     .reg [0, 1, 8, 9, 10] [
       ⟨some 16, .op (.mv (.t 1)), none⟩,
       ⟨some 17, .op (.mv (.t 8)), none⟩,
       ⟨some 18, .op (.bin .quo (.t 17) (.c (.int .i64 4))), none⟩,
       ⟨some 19, .op (.bin .mul (.t 18) (.c (.int .i64 1))), none⟩,
       ⟨some 20, .op (.bin .add (.t 16) (.t 19)), none⟩,
       ⟨some 10, .op (.mv (.t 20)), none⟩]) (
     .seq (
      .reg [0, 1, 8, 9, 10, 11] [
        ⟨some 21, .op (.mv (.t 1)), none⟩,
        ⟨some 22, .op (.mv (.t 8)), none⟩,
        ⟨some 23, .op (.bin .quo (.t 22) (.c (.int .i64 4))), none⟩,
        ⟨some 24, .op (.bin .mul (.t 23) (.c (.int .i64 2))), none⟩,
        ⟨some 25, .op (.bin .add (.t 21) (.t 24)), none⟩,
        ⟨some 11, .op (.mv (.t 25)), none⟩]) (
      .seq (
       .reg [0, 8, 9, 10, 11, 12] [
         ⟨some 26, .op (.mv (.t 1)), none⟩,
         ⟨some 27, .op (.mv (.t 8)), none⟩,
         ⟨some 28, .op (.bin .quo (.t 27) (.c (.int .i64 4))), none⟩,
         ⟨some 29, .op (.bin .mul (.t 28) (.c (.int .i64 3))), none⟩,
         ⟨some 30, .op (.bin .add (.t 26) (.t 29)), none⟩,
         ⟨some 12, .op (.mv (.t 30)), none⟩]) (
       .seq (
        .seq (
         .reg [0, 8, 9, 10, 11, 12, 32] [
           ⟨some 31, .op (.mv (.t 8)), none⟩,
           ⟨some 32, .op (.bin .geq (.t 31) (.c (.int .i64 8))), none⟩]) (
         .cond (.t 32) (
          .seq (
           .seq (
            .reg [0, 9, 10, 11, 12, 34] [
              ⟨some 33, .op (.mv (.t 8)), none⟩,
              ⟨some 34, .op (.bin .geq (.t 33) (.c (.int .i64 50))), none⟩]) (
            .cond (.t 34) (
             .seq (
              .reg [0, 9, 10, 11, 12] [
                ⟨some 35, .op (.mv (.t 0)), none⟩,
                ⟨some 36, .op (.mv (.t 10)), none⟩,
                ⟨some 37, .call (.c (.fn 97 [] [])) [(.t 35), (.t 36), (.t 9)], none⟩,
                ⟨some 10, .op (.mv (.t 37)), none⟩]) (
              .seq (
               .reg [0, 9, 10, 11, 12] [
                 ⟨some 38, .op (.mv (.t 0)), none⟩,
                 ⟨some 39, .op (.mv (.t 11)), none⟩,
                 ⟨some 40, .call (.c (.fn 97 [] [])) [(.t 38), (.t 39), (.t 9)], none⟩,
                 ⟨some 11, .op (.mv (.t 40)), none⟩]) (
               .reg [0, 9, 10, 11, 12] [
                 ⟨some 41, .op (.mv (.t 0)), none⟩,
                 ⟨some 42, .op (.mv (.t 12)), none⟩,
                 ⟨some 43, .call (.c (.fn 97 [] [])) [(.t 41), (.t 42), (.t 9)], none⟩,
                 ⟨some 12, .op (.mv (.t 43)), none⟩]))) (
             .skip))) (
           .reg [9, 11] [
             ⟨some 44, .op (.mv (.t 0)), none⟩,
             ⟨some 45, .op (.mv (.t 10)), none⟩,
             ⟨some 46, .op (.mv (.t 11)), none⟩,
             ⟨some 47, .op (.mv (.t 12)), none⟩,
             ⟨some 48, .call (.c (.fn 98 [] [])) [(.t 44), (.t 45), (.t 46), (.t 47), (.t 9)], none⟩,
             ⟨some 11, .op (.mv (.t 48)), none⟩])) (
          .skip))) (
        .seq (
         .reg [11, 49] [
           ⟨some 49, .op (.ld1 (.t 9)), none⟩]) (
         .block 0 (
          .seq (
           .reg [11, 49, 51] [
             ⟨some 52, .op (.bin .eql (.t 49) (.c (.int .i64 0))), none⟩,
             ⟨some 51, .op (.mv (.t 52)), none⟩]) (
           .cond (.t 51) (
            .seq (
             .reg [6, 7] [
               ⟨some 53, .op (.mv (.t 11)), none⟩,
               ⟨some 6, .op (.mv (.t 53)), none⟩,
               ⟨some 7, .op (.mv (.c (.int .i64 1))), none⟩]) (
             .ret)) (
            .seq (
             .reg [11, 54] [
               ⟨some 55, .op (.bin .eql (.t 49) (.c (.int .i64 12))), none⟩,
               ⟨some 54, .op (.mv (.t 55)), none⟩]) (
             .cond (.t 54) (
              .seq (
               .reg [6, 7] [
                 ⟨some 56, .op (.mv (.t 11)), none⟩,
                 ⟨some 6, .op (.mv (.t 56)), none⟩,
                 ⟨some 7, .op (.mv (.c (.int .i64 2))), none⟩]) (
               .ret)) (
              .seq (
               .reg [6, 7] [
                 ⟨some 50, .op (.mv (.t 11)), none⟩,
                 ⟨some 6, .op (.mv (.t 50)), none⟩,
                 ⟨some 7, .op (.mv (.c (.int .i64 0))), none⟩]) (
               .ret))))))))))))))
theorem cf89 : compF Try.prog Try.f89 h89 = some (ac89, rs89) := by kernel_rfl

/-! slices.reverseRangeOrdered[uint64] params 3 -/
def h90 : Hints := ⟨[(5, [0, 6, 7]), (4, [0, 6, 7]), (3, [0, 6, 7]), (2, [0, 6, 7, 13]), (1, [0, 6, 7]), (0, [0, 2, 6])], [(2, [0, 6, 7])], [(3, [(0, []), (1, []), (2, []), (3, []), (4, []), (5, []), (6, []), (7, []), (8, []), (9, []), (10, []), (11, []), (12, []), (13, []), (14, []), (15, [])])]⟩
def rs90 : List ARes := []
def ac90 : ACode :=
 .seq (
  .reg [0, 2, 6] [
    ⟨some 8, .op (.mv (.t 1)), none⟩,
    ⟨some 6, .op (.mv (.t 8)), none⟩]) (
  .seq (
   .reg [0, 6, 7] [
     ⟨some 9, .op (.mv (.t 2)), none⟩,
     ⟨some 10, .op (.bin .sub (.t 9) (.c (.int .i64 1))), none⟩,
     ⟨some 7, .op (.mv (.t 10)), none⟩]) (
   .block 0 (
    .loop [0, 6, 7] (
     .seq (
      .seq (
       .reg [0, 6, 7, 13] [
         ⟨some 11, .op (.mv (.t 6)), none⟩,
         ⟨some 12, .op (.mv (.t 7)), none⟩,
         ⟨some 13, .op (.bin .lss (.t 11) (.t 12)), none⟩]) (
       .cond (.t 13) (
        .skip) (
        .exit 0))) (
      .block 1 (
       .seq (
        .dreg [0, 6, 7] [
          (⟨some 14, .op (.mv (.t 0)), none⟩, []),
          (⟨some 15, .op (.mv (.t 6)), none⟩, []),
          (⟨some 16, .op (.mv (.t 0)), none⟩, []),
          (⟨some 17, .op (.mv (.t 7)), none⟩, []),
          (⟨some 18, .op (.mv (.t 0)), none⟩, []),
          (⟨some 19, .op (.mv (.t 7)), none⟩, []),
          (⟨some 20, .op (.idxAddr 1 (.t 18) (.t 19)), none⟩, []),
          (⟨some 21, .op (.ld1 (.t 20)), none⟩, []),
          (⟨some 22, .op (.mv (.t 0)), none⟩, []),
          (⟨some 23, .op (.mv (.t 6)), none⟩, []),
          (⟨some 24, .op (.idxAddr 1 (.t 22) (.t 23)), none⟩, []),
          (⟨some 25, .op (.ld1 (.t 24)), none⟩, []),
          (⟨some 26, .op (.idxAddr 1 (.t 14) (.t 15)), none⟩, []),
          (⟨none, .op (.st 1 (.t 26) (.t 21)), none⟩, []),
          (⟨some 27, .op (.idxAddr 1 (.t 16) (.t 17)), none⟩, []),
          (⟨none, .op (.st 1 (.t 27) (.t 25)), none⟩, [])]) (
        .seq (
         .reg [0, 6, 7] [
           ⟨some 28, .op (.mv (.t 6)), none⟩,
           ⟨some 29, .op (.bin .add (.t 28) (.c (.int .i64 1))), none⟩,
           ⟨some 6, .op (.mv (.t 29)), none⟩]) (
         .reg [0, 6, 7] [
           ⟨some 30, .op (.mv (.t 7)), none⟩,
           ⟨some 31, .op (.bin .sub (.t 30) (.c (.int .i64 1))), none⟩,
           ⟨some 7, .op (.mv (.t 31)), none⟩]))))))))
theorem cf90 : compF Try.prog Try.f90 h90 = some (ac90, rs90) := by kernel_rfl

/-! slices.partialInsertionSortOrdered[uint64] params 3 -/
def h91 : Hints := ⟨[(24, [6]), (4, [0, 1, 2, 7, 8]), (21, [0, 1, 2, 7, 8, 10]), (23, [0, 1, 2, 7, 8, 10]), (22, [0, 1, 2, 7, 8, 10, 116]), (20, [0, 1, 2, 7, 8, 10, 103]), (19, [0, 1, 2, 7, 8, 10]), (18, [0, 1, 2, 7, 8, 98]), (15, [0, 1, 2, 7, 8, 9]), (17, [0, 1, 2, 7, 8, 9]), (16, [0, 1, 2, 7, 8, 9, 78]), (14, [0, 1, 2, 7, 8, 9, 65]), (13, [0, 1, 2, 7, 8, 9]), (12, [0, 1, 2, 7, 8, 61]), (11, [0, 1, 2, 7, 8]), (10, [6]), (9, [0, 1, 2, 7, 8, 41]), (8, [6]), (7, [0, 1, 2, 7, 8, 37]), (6, [0, 1, 2, 7, 8]), (5, [0, 1, 2, 7, 8, 32]), (3, [0, 1, 2, 7, 8, 14]), (2, [0, 1, 2, 7, 8]), (1, [0, 1, 2, 7]), (0, [0, 1, 2])], [(20, [0, 1, 2, 7, 8, 10]), (14, [0, 1, 2, 7, 8, 9]), (5, [0, 1, 2, 7, 8]), (3, [0, 1, 2, 7, 8])], [(5, [(0, []), (1, []), (2, []), (3, []), (4, []), (5, []), (6, []), (7, []), (8, []), (9, []), (10, []), (11, []), (12, []), (13, []), (14, []), (15, [])]), (11, [(0, []), (1, []), (2, []), (3, []), (4, []), (5, []), (6, []), (7, []), (8, []), (9, []), (10, []), (11, []), (12, []), (13, []), (14, []), (15, []), (16, []), (17, [])]), (16, [(0, []), (1, []), (2, []), (3, []), (4, []), (5, []), (6, []), (7, []), (8, []), (9, []), (10, [])]), (17, [(0, []), (1, []), (2, []), (3, []), (4, []), (5, []), (6, []), (7, []), (8, []), (9, []), (10, []), (11, []), (12, []), (13, []), (14, []), (15, []), (16, []), (17, [])]), (22, [(0, []), (1, []), (2, []), (3, []), (4, []), (5, []), (6, []), (7, []), (8, []), (9, []), (10, [])]), (23, [(0, []), (1, []), (2, []), (3, []), (4, []), (5, []), (6, []), (7, []), (8, []), (9, []), (10, []), (11, []), (12, []), (13, []), (14, []), (15, []), (16, []), (17, [])])]⟩
def rs91 : List ARes := [.t 6]
def ac91 : ACode :=
 .seq (
  .reg [0, 1, 2] [
    ⟨some 6, .op (.mv (.c (.bool false))), none⟩]) (
  .seq (
   .reg [0, 1, 2, 7] [
     ⟨some 11, .op (.mv (.t 1)), none⟩,
     ⟨some 12, .op (.bin .add (.t 11) (.c (.int .i64 1))), none⟩,
     ⟨some 7, .op (.mv (.t 12)), none⟩]) (
   .seq (
    .seq (
     .reg [0, 1, 2, 7, 8] [
       ⟨some 8, .op (.mv (.c (.int .i64 0))), none⟩]) (
     .block 0 (
      .loop [0, 1, 2, 7, 8] (
       .seq (
        .seq (
         .reg [0, 1, 2, 7, 8, 14] [
           ⟨some 13, .op (.mv (.t 8)), none⟩,
           ⟨some 14, .op (.bin .lss (.t 13) (.c (.int .i64 5))), none⟩]) (
         .cond (.t 14) (
          .skip) (
          .exit 0))) (
        .seq (
         .block 1 (
          .seq (
           .block 2 (
            .loop [0, 1, 2, 7, 8] (
             .seq (
              .seq (
               .dreg [0, 1, 2, 7, 8, 32] [
                 (⟨some 17, .op (.mv (.t 7)), none⟩, []),
                 (⟨some 18, .op (.mv (.t 2)), none⟩, []),
                 (⟨some 19, .op (.bin .lss (.t 17) (.t 18)), none⟩, []),
                 (⟨some 20, .op (.mv (.t 19)), none⟩, []),
                 (⟨some 21, .op (.mv (.t 0)), some (20, true)⟩, []),
                 (⟨some 22, .op (.mv (.t 7)), some (20, true)⟩, []),
                 (⟨some 23, .op (.idxAddr 1 (.t 21) (.t 22)), some (20, true)⟩, []),
                 (⟨some 24, .op (.ld1 (.t 23)), some (20, true)⟩, []),
                 (⟨some 25, .op (.mv (.t 0)), some (20, true)⟩, []),
                 (⟨some 26, .op (.mv (.t 7)), some (20, true)⟩, []),
                 (⟨some 27, .op (.bin .sub (.t 26) (.c (.int .i64 1))), some (20, true)⟩, []),
                 (⟨some 28, .op (.idxAddr 1 (.t 25) (.t 27)), some (20, true)⟩, []),
                 (⟨some 29, .op (.ld1 (.t 28)), some (20, true)⟩, []),
                 (⟨some 30, .call (.c (.fn 92 [] [])) [(.t 24), (.t 29)], some (20, true)⟩, []),
                 (⟨some 31, .op (.un .not (.t 30)), some (20, true)⟩, []),
                 (⟨some 32, .pick (.t 20) (.t 31) (.c (.bool false)), none⟩, [])]) (
               .cond (.t 32) (
                .skip) (
                .exit 2))) (
              .block 3 (
               .reg [0, 1, 2, 7, 8] [
                 ⟨some 33, .op (.mv (.t 7)), none⟩,
                 ⟨some 34, .op (.bin .add (.t 33) (.c (.int .i64 1))), none⟩,
                 ⟨some 7, .op (.mv (.t 34)), none⟩]))))) (
           .seq (
            .seq (
             .reg [0, 1, 2, 7, 8, 37] [
               ⟨some 35, .op (.mv (.t 7)), none⟩,
               ⟨some 36, .op (.mv (.t 2)), none⟩,
               ⟨some 37, .op (.bin .eql (.t 35) (.t 36)), none⟩]) (
             .cond (.t 37) (
              .seq (
               .reg [6] [
                 ⟨some 6, .op (.mv (.c (.bool true))), none⟩]) (
               .ret)) (
              .skip))) (
            .seq (
             .seq (
              .reg [0, 1, 2, 7, 8, 41] [
                ⟨some 38, .op (.mv (.t 2)), none⟩,
                ⟨some 39, .op (.mv (.t 1)), none⟩,
                ⟨some 40, .op (.bin .sub (.t 38) (.t 39)), none⟩,
                ⟨some 41, .op (.bin .lss (.t 40) (.c (.int .i64 50))), none⟩]) (
              .cond (.t 41) (
               .seq (
                .reg [6] [
                  ⟨some 6, .op (.mv (.c (.bool false))), none⟩]) (
                .ret)) (
               .skip))) (
             .seq (
              .dreg [0, 1, 2, 7, 8] [
                (⟨some 42, .op (.mv (.t 0)), none⟩, []),
                (⟨some 43, .op (.mv (.t 7)), none⟩, []),
                (⟨some 44, .op (.mv (.t 0)), none⟩, []),
                (⟨some 45, .op (.mv (.t 7)), none⟩, []),
                (⟨some 46, .op (.bin .sub (.t 45) (.c (.int .i64 1))), none⟩, []),
                (⟨some 47, .op (.mv (.t 0)), none⟩, []),
                (⟨some 48, .op (.mv (.t 7)), none⟩, []),
                (⟨some 49, .op (.bin .sub (.t 48) (.c (.int .i64 1))), none⟩, []),
                (⟨some 50, .op (.idxAddr 1 (.t 47) (.t 49)), none⟩, []),
                (⟨some 51, .op (.ld1 (.t 50)), none⟩, []),
                (⟨some 52, .op (.mv (.t 0)), none⟩, []),
                (⟨some 53, .op (.mv (.t 7)), none⟩, []),
                (⟨some 54, .op (.idxAddr 1 (.t 52) (.t 53)), none⟩, []),
                (⟨some 55, .op (.ld1 (.t 54)), none⟩, []),
                (⟨some 56, .op (.idxAddr 1 (.t 42) (.t 43)), none⟩, []),
                (⟨none, .op (.st 1 (.t 56) (.t 51)), none⟩, []),
                (⟨some 57, .op (.idxAddr 1 (.t 44) (.t 46)), none⟩, []),
                (⟨none, .op (.st 1 (.t 57) (.t 55)), none⟩, [])]) (
              .seq (
               .seq (
                .reg [0, 1, 2, 7, 8, 61] [
                  ⟨some 58, .op (.mv (.t 7)), none⟩,
                  ⟨some 59, .op (.mv (.t 1)), none⟩,
                  ⟨some 60, .op (.bin .sub (.t 58) (.t 59)), none⟩,
                  ⟨some 61, .op (.bin .geq (.t 60) (.c (.int .i64 2))), none⟩]) (
                .cond (.t 61) (
                 .seq (
                  .reg [0, 1, 2, 7, 8, 9] [
                    ⟨some 62, .op (.mv (.t 7)), none⟩,
                    ⟨some 63, .op (.bin .sub (.t 62) (.c (.int .i64 1))), none⟩,
                    ⟨some 9, .op (.mv (.t 63)), none⟩]) (
                  .block 4 (
                   .loop [0, 1, 2, 7, 8, 9] (
                    .seq (
                     .seq (
                      .reg [0, 1, 2, 7, 8, 9, 65] [
                        ⟨some 64, .op (.mv (.t 9)), none⟩,
                        ⟨some 65, .op (.bin .geq (.t 64) (.c (.int .i64 1))), none⟩]) (
                      .cond (.t 65) (
                       .skip) (
                       .exit 4))) (
                     .seq (
                      .block 5 (
                       .seq (
                        .seq (
                         .dreg [0, 1, 2, 7, 8, 9, 78] [
                           (⟨some 68, .op (.mv (.t 0)), none⟩, []),
                           (⟨some 69, .op (.mv (.t 9)), none⟩, []),
                           (⟨some 70, .op (.idxAddr 1 (.t 68) (.t 69)), none⟩, []),
                           (⟨some 71, .op (.ld1 (.t 70)), none⟩, []),
                           (⟨some 72, .op (.mv (.t 0)), none⟩, []),
                           (⟨some 73, .op (.mv (.t 9)), none⟩, []),
                           (⟨some 74, .op (.bin .sub (.t 73) (.c (.int .i64 1))), none⟩, []),
                           (⟨some 75, .op (.idxAddr 1 (.t 72) (.t 74)), none⟩, []),
                           (⟨some 76, .op (.ld1 (.t 75)), none⟩, []),
                           (⟨some 77, .call (.c (.fn 92 [] [])) [(.t 71), (.t 76)], none⟩, []),
                           (⟨some 78, .op (.un .not (.t 77)), none⟩, [])]) (
                         .cond (.t 78) (
                          .exit 4) (
                          .skip))) (
                        .dreg [0, 1, 2, 7, 8, 9] [
                          (⟨some 79, .op (.mv (.t 0)), none⟩, []),
                          (⟨some 80, .op (.mv (.t 9)), none⟩, []),
                          (⟨some 81, .op (.mv (.t 0)), none⟩, []),
                          (⟨some 82, .op (.mv (.t 9)), none⟩, []),
                          (⟨some 83, .op (.bin .sub (.t 82) (.c (.int .i64 1))), none⟩, []),
                          (⟨some 84, .op (.mv (.t 0)), none⟩, []),
                          (⟨some 85, .op (.mv (.t 9)), none⟩, []),
                          (⟨some 86, .op (.bin .sub (.t 85) (.c (.int .i64 1))), none⟩, []),
                          (⟨some 87, .op (.idxAddr 1 (.t 84) (.t 86)), none⟩, []),
                          (⟨some 88, .op (.ld1 (.t 87)), none⟩, []),
                          (⟨some 89, .op (.mv (.t 0)), none⟩, []),
                          (⟨some 90, .op (.mv (.t 9)), none⟩, []),
                          (⟨some 91, .op (.idxAddr 1 (.t 89) (.t 90)), none⟩, []),
                          (⟨some 92, .op (.ld1 (.t 91)), none⟩, []),
                          (⟨some 93, .op (.idxAddr 1 (.t 79) (.t 80)), none⟩, []),
                          (⟨none, .op (.st 1 (.t 93) (.t 88)), none⟩, []),
                          (⟨some 94, .op (.idxAddr 1 (.t 81) (.t 83)), none⟩, []),
                          (⟨none, .op (.st 1 (.t 94) (.t 92)), none⟩, [])]))) (
                      .reg [0, 1, 2, 7, 8, 9] [
                        ⟨some 66, .op (.mv (.t 9)), none⟩,
                        ⟨some 67, .op (.bin .sub (.t 66) (.c (.int .i64 1))), none⟩,
                        ⟨some 9, .op (.mv (.t 67)), none⟩])))))) (
                 .skip))) (
               .seq (
                .reg [0, 1, 2, 7, 8, 98] [
                  ⟨some 95, .op (.mv (.t 2)), none⟩,
                  ⟨some 96, .op (.mv (.t 7)), none⟩,
                  ⟨some 97, .op (.bin .sub (.t 95) (.t 96)), none⟩,
                  ⟨some 98, .op (.bin .geq (.t 97) (.c (.int .i64 2))), none⟩]) (
                .cond (.t 98) (
                 .seq (
                  .reg [0, 1, 2, 7, 8, 10] [
                    ⟨some 99, .op (.mv (.t 7)), none⟩,
                    ⟨some 100, .op (.bin .add (.t 99) (.c (.int .i64 1))), none⟩,
                    ⟨some 10, .op (.mv (.t 100)), none⟩]) (
                  .block 6 (
                   .loop [0, 1, 2, 7, 8, 10] (
                    .seq (
                     .seq (
                      .reg [0, 1, 2, 7, 8, 10, 103] [
                        ⟨some 101, .op (.mv (.t 10)), none⟩,
                        ⟨some 102, .op (.mv (.t 2)), none⟩,
                        ⟨some 103, .op (.bin .lss (.t 101) (.t 102)), none⟩]) (
                      .cond (.t 103) (
                       .skip) (
                       .exit 6))) (
                     .seq (
                      .block 7 (
                       .seq (
                        .seq (
                         .dreg [0, 1, 2, 7, 8, 10, 116] [
                           (⟨some 106, .op (.mv (.t 0)), none⟩, []),
                           (⟨some 107, .op (.mv (.t 10)), none⟩, []),
                           (⟨some 108, .op (.idxAddr 1 (.t 106) (.t 107)), none⟩, []),
                           (⟨some 109, .op (.ld1 (.t 108)), none⟩, []),
                           (⟨some 110, .op (.mv (.t 0)), none⟩, []),
                           (⟨some 111, .op (.mv (.t 10)), none⟩, []),
                           (⟨some 112, .op (.bin .sub (.t 111) (.c (.int .i64 1))), none⟩, []),
                           (⟨some 113, .op (.idxAddr 1 (.t 110) (.t 112)), none⟩, []),
                           (⟨some 114, .op (.ld1 (.t 113)), none⟩, []),
                           (⟨some 115, .call (.c (.fn 92 [] [])) [(.t 109), (.t 114)], none⟩, []),
                           (⟨some 116, .op (.un .not (.t 115)), none⟩, [])]) (
                         .cond (.t 116) (
                          .exit 6) (
                          .skip))) (
                        .dreg [0, 1, 2, 7, 8, 10] [
                          (⟨some 117, .op (.mv (.t 0)), none⟩, []),
                          (⟨some 118, .op (.mv (.t 10)), none⟩, []),
                          (⟨some 119, .op (.mv (.t 0)), none⟩, []),
                          (⟨some 120, .op (.mv (.t 10)), none⟩, []),
                          (⟨some 121, .op (.bin .sub (.t 120) (.c (.int .i64 1))), none⟩, []),
                          (⟨some 122, .op (.mv (.t 0)), none⟩, []),
                          (⟨some 123, .op (.mv (.t 10)), none⟩, []),
                          (⟨some 124, .op (.bin .sub (.t 123) (.c (.int .i64 1))), none⟩, []),
                          (⟨some 125, .op (.idxAddr 1 (.t 122) (.t 124)), none⟩, []),
                          (⟨some 126, .op (.ld1 (.t 125)), none⟩, []),
                          (⟨some 127, .op (.mv (.t 0)), none⟩, []),
                          (⟨some 128, .op (.mv (.t 10)), none⟩, []),
                          (⟨some 129, .op (.idxAddr 1 (.t 127) (.t 128)), none⟩, []),
                          (⟨some 130, .op (.ld1 (.t 129)), none⟩, []),
                          (⟨some 131, .op (.idxAddr 1 (.t 117) (.t 118)), none⟩, []),
                          (⟨none, .op (.st 1 (.t 131) (.t 126)), none⟩, []),
                          (⟨some 132, .op (.idxAddr 1 (.t 119) (.t 121)), none⟩, []),
                          (⟨none, .op (.st 1 (.t 132) (.t 130)), none⟩, [])]))) (
                      .reg [0, 1, 2, 7, 8, 10] [
                        ⟨some 104, .op (.mv (.t 10)), none⟩,
                        ⟨some 105, .op (.bin .add (.t 104) (.c (.int .i64 1))), none⟩,
                        ⟨some 10, .op (.mv (.t 105)), none⟩])))))) (
                 .skip))))))))) (
         .reg [0, 1, 2, 7, 8] [
           ⟨some 15, .op (.mv (.t 8)), none⟩,
           ⟨some 16, .op (.bin .add (.t 15) (.c (.int .i64 1))), none⟩,
           ⟨some 8, .op (.mv (.t 16)), none⟩])))))) (
    .seq (
     .reg [6] [
       ⟨some 6, .op (.mv (.c (.bool false))), none⟩]) (
     .ret))))
theorem cf91 : compF Try.prog Try.f91 h91 = some (ac91, rs91) := by kernel_rfl

/-! cmp.Less[uint64] params 2 -/
def h92 : Hints := ⟨[(1, [4]), (0, [0, 1])], [], []⟩
def rs92 : List ARes := [.t 4]
def ac92 : ACode :=
 .seq (
  .reg [0, 1] [
    ⟨some 4, .op (.mv (.c (.bool false))), none⟩]) (
  .seq (
   .reg [4] [
     ⟨some 5, .op (.mv (.t 0)), none⟩,
     ⟨some 6, .call (.c (.fn 53 [] [])) [(.t 5)], none⟩,
     ⟨some 7, .op (.mv (.t 6)), none⟩,
     ⟨some 8, .op (.mv (.t 1)), some (7, true)⟩,
     ⟨some 9, .call (.c (.fn 53 [] [])) [(.t 8)], some (7, true)⟩,
     ⟨some 10, .op (.un .not (.t 9)), some (7, true)⟩,
     ⟨some 11, .pick (.t 7) (.t 10) (.c (.bool false)), none⟩,
     ⟨some 12, .op (.mv (.t 11)), none⟩,
     ⟨some 13, .op (.mv (.t 0)), some (12, false)⟩,
     ⟨some 14, .op (.mv (.t 1)), some (12, false)⟩,
     ⟨some 15, .op (.bin .lss (.t 13) (.t 14)), some (12, false)⟩,
     ⟨some 16, .pick (.t 12) (.c (.bool true)) (.t 15), none⟩,
     ⟨some 4, .op (.mv (.t 16)), none⟩]) (
   .ret))
theorem cf92 : compF Try.prog Try.f92 h92 = some (ac92, rs92) := by kernel_rfl

/-! slices.partitionEqualOrdered[uint64] params 4 -/
def h93 : Hints := ⟨[(11, [8]), (10, [0, 1, 9, 10]), (9, [0, 1, 9, 10]), (8, [0, 1, 9, 10]), (7, [0, 1, 9, 10, 64]), (6, [0, 1, 9, 10]), (5, [0, 1, 9, 10, 59]), (4, [0, 1, 9, 10]), (3, [0, 1, 9, 10, 43]), (2, [0, 1, 9, 10]), (1, [0, 1, 2]), (0, [0, 1, 2, 3])], [(5, [0, 1, 9, 10]), (3, [0, 1, 9, 10])], [(1, [(0, []), (1, []), (2, []), (3, []), (4, []), (5, []), (6, []), (7, []), (8, []), (9, []), (10, []), (11, []), (12, []), (13, []), (14, []), (15, [])]), (3, [(0, []), (1, []), (2, []), (3, []), (4, []), (5, []), (6, []), (7, []), (8, []), (9, []), (10, []), (11, []), (12, []), (13, []), (14, [])]), (5, [(0, []), (1, []), (2, []), (3, []), (4, []), (5, []), (6, []), (7, []), (8, []), (9, []), (10, []), (11, []), (12, []), (13, [])]), (8, [(0, []), (1, []), (2, []), (3, []), (4, []), (5, []), (6, []), (7, []), (8, []), (9, []), (10, []), (11, []), (12, []), (13, []), (14, []), (15, [])])]⟩
def rs93 : List ARes := [.t 8]
def ac93 : ACode :=
 .seq (
  .reg [0, 1, 2, 3] [
    ⟨some 8, .op (.mv (.c (.int .i64 0))), none⟩]) (
  .seq (
   .dreg [0, 1, 2] [
     (⟨some 11, .op (.mv (.t 0)), none⟩, []),
     (⟨some 12, .op (.mv (.t 1)), none⟩, []),
     (⟨some 13, .op (.mv (.t 0)), none⟩, []),
     (⟨some 14, .op (.mv (.t 3)), none⟩, []),
     (⟨some 15, .op (.mv (.t 0)), none⟩, []),
     (⟨some 16, .op (.mv (.t 3)), none⟩, []),
     (⟨some 17, .op (.idxAddr 1 (.t 15) (.t 16)), none⟩, []),
     (⟨some 18, .op (.ld1 (.t 17)), none⟩, []),
     (⟨some 19, .op (.mv (.t 0)), none⟩, []),
     (⟨some 20, .op (.mv (.t 1)), none⟩, []),
     (⟨some 21, .op (.idxAddr 1 (.t 19) (.t 20)), none⟩, []),
     (⟨some 22, .op (.ld1 (.t 21)), none⟩, []),
     (⟨some 23, .op (.idxAddr 1 (.t 11) (.t 12)), none⟩, []),
     (⟨none, .op (.st 1 (.t 23) (.t 18)), none⟩, []),
     (⟨some 24, .op (.idxAddr 1 (.t 13) (.t 14)), none⟩, []),
     (⟨none, .op (.st 1 (.t 24) (.t 22)), none⟩, [])]) (
   .seq (
    .reg [0, 1, 9, 10] [
      ⟨some 25, .op (.mv (.t 1)), none⟩,
      ⟨some 26, .op (.bin .add (.t 25) (.c (.int .i64 1))), none⟩,
      ⟨some 27, .op (.mv (.t 2)), none⟩,
      ⟨some 28, .op (.bin .sub (.t 27) (.c (.int .i64 1))), none⟩,
      ⟨some 9, .op (.mv (.t 26)), none⟩,
      ⟨some 10, .op (.mv (.t 28)), none⟩]) (
    .seq (
     .block 0 (
      .loop [0, 1, 9, 10] (
       .block 1 (
        .seq (
         .block 2 (
          .loop [0, 1, 9, 10] (
           .seq (
            .seq (
             .dreg [0, 1, 9, 10, 43] [
               (⟨some 29, .op (.mv (.t 9)), none⟩, []),
               (⟨some 30, .op (.mv (.t 10)), none⟩, []),
               (⟨some 31, .op (.bin .leq (.t 29) (.t 30)), none⟩, []),
               (⟨some 32, .op (.mv (.t 31)), none⟩, []),
               (⟨some 33, .op (.mv (.t 0)), some (32, true)⟩, []),
               (⟨some 34, .op (.mv (.t 1)), some (32, true)⟩, []),
               (⟨some 35, .op (.idxAddr 1 (.t 33) (.t 34)), some (32, true)⟩, []),
               (⟨some 36, .op (.ld1 (.t 35)), some (32, true)⟩, []),
               (⟨some 37, .op (.mv (.t 0)), some (32, true)⟩, []),
               (⟨some 38, .op (.mv (.t 9)), some (32, true)⟩, []),
               (⟨some 39, .op (.idxAddr 1 (.t 37) (.t 38)), some (32, true)⟩, []),
               (⟨some 40, .op (.ld1 (.t 39)), some (32, true)⟩, []),
               (⟨some 41, .call (.c (.fn 92 [] [])) [(.t 36), (.t 40)], some (32, true)⟩, []),
               (⟨some 42, .op (.un .not (.t 41)), some (32, true)⟩, []),
               (⟨some 43, .pick (.t 32) (.t 42) (.c (.bool false)), none⟩, [])]) (
             .cond (.t 43) (
              .skip) (
              .exit 2))) (
            .block 3 (
             .reg [0, 1, 9, 10] [
               ⟨some 44, .op (.mv (.t 9)), none⟩,
               ⟨some 45, .op (.bin .add (.t 44) (.c (.int .i64 1))), none⟩,
               ⟨some 9, .op (.mv (.t 45)), none⟩]))))) (
         .seq (
          .block 4 (
           .loop [0, 1, 9, 10] (
            .seq (
             .seq (
              .dreg [0, 1, 9, 10, 59] [
                (⟨some 46, .op (.mv (.t 9)), none⟩, []),
                (⟨some 47, .op (.mv (.t 10)), none⟩, []),
                (⟨some 48, .op (.bin .leq (.t 46) (.t 47)), none⟩, []),
                (⟨some 49, .op (.mv (.t 48)), none⟩, []),
                (⟨some 50, .op (.mv (.t 0)), some (49, true)⟩, []),
                (⟨some 51, .op (.mv (.t 1)), some (49, true)⟩, []),
                (⟨some 52, .op (.idxAddr 1 (.t 50) (.t 51)), some (49, true)⟩, []),
                (⟨some 53, .op (.ld1 (.t 52)), some (49, true)⟩, []),
                (⟨some 54, .op (.mv (.t 0)), some (49, true)⟩, []),
                (⟨some 55, .op (.mv (.t 10)), some (49, true)⟩, []),
                (⟨some 56, .op (.idxAddr 1 (.t 54) (.t 55)), some (49, true)⟩, []),
                (⟨some 57, .op (.ld1 (.t 56)), some (49, true)⟩, []),
                (⟨some 58, .call (.c (.fn 92 [] [])) [(.t 53), (.t 57)], some (49, true)⟩, []),
                (⟨some 59, .pick (.t 49) (.t 58) (.c (.bool false)), none⟩, [])]) (
              .cond (.t 59) (
               .skip) (
               .exit 4))) (
             .block 5 (
              .reg [0, 1, 9, 10] [
                ⟨some 60, .op (.mv (.t 10)), none⟩,
                ⟨some 61, .op (.bin .sub (.t 60) (.c (.int .i64 1))), none⟩,
                ⟨some 10, .op (.mv (.t 61)), none⟩]))))) (
          .seq (
           .seq (
            .reg [0, 1, 9, 10, 64] [
              ⟨some 62, .op (.mv (.t 9)), none⟩,
              ⟨some 63, .op (.mv (.t 10)), none⟩,
              ⟨some 64, .op (.bin .gtr (.t 62) (.t 63)), none⟩]) (
            .cond (.t 64) (
             .exit 0) (
             .skip))) (
           .seq (
            .dreg [0, 1, 9, 10] [
              (⟨some 65, .op (.mv (.t 0)), none⟩, []),
              (⟨some 66, .op (.mv (.t 9)), none⟩, []),
              (⟨some 67, .op (.mv (.t 0)), none⟩, []),
              (⟨some 68, .op (.mv (.t 10)), none⟩, []),
              (⟨some 69, .op (.mv (.t 0)), none⟩, []),
              (⟨some 70, .op (.mv (.t 10)), none⟩, []),
              (⟨some 71, .op (.idxAddr 1 (.t 69) (.t 70)), none⟩, []),
              (⟨some 72, .op (.ld1 (.t 71)), none⟩, []),
              (⟨some 73, .op (.mv (.t 0)), none⟩, []),
              (⟨some 74, .op (.mv (.t 9)), none⟩, []),
              (⟨some 75, .op (.idxAddr 1 (.t 73) (.t 74)), none⟩, []),
              (⟨some 76, .op (.ld1 (.t 75)), none⟩, []),
              (⟨some 77, .op (.idxAddr 1 (.t 65) (.t 66)), none⟩, []),
              (⟨none, .op (.st 1 (.t 77) (.t 72)), none⟩, []),
              (⟨some 78, .op (.idxAddr 1 (.t 67) (.t 68)), none⟩, []),
              (⟨none, .op (.st 1 (.t 78) (.t 76)), none⟩, [])]) (
            .seq (
             .reg [0, 1, 9, 10] [
               ⟨some 79, .op (.mv (.t 9)), none⟩,
               ⟨some 80, .op (.bin .add (.t 79) (.c (.int .i64 1))), none⟩,
               ⟨some 9, .op (.mv (.t 80)), none⟩]) (
             .reg [0, 1, 9, 10] [
               ⟨some 81, .op (.mv (.t 10)), none⟩,
               ⟨some 82, .op (.bin .sub (.t 81) (.c (.int .i64 1))), none⟩,
               ⟨some 10, .op (.mv (.t 82)), none⟩]))))))))) (
     .seq (
      .reg [8] [
        ⟨some 83, .op (.mv (.t 9)), none⟩,
        ⟨some 8, .op (.mv (.t 83)), none⟩]) (
      .ret)))))
theorem cf93 : compF Try.prog Try.f93 h93 = some (ac93, rs93) := by kernel_rfl

/-! slices.partitionOrdered[uint64] params 4 -/
def h94 : Hints := ⟨[(22, [8, 9]), (21, [11]), (20, [0, 1, 10, 11]), (19, [0, 1, 10, 11]), (18, [0, 1, 10, 11]), (17, [0, 1, 10, 11, 134]), (16, [0, 1, 10, 11]), (15, [0, 1, 10, 11, 129]), (14, [0, 1, 10, 11]), (13, [0, 1, 10, 11, 112]), (12, [0, 1, 10, 11]), (11, [0, 1, 10, 11]), (10, [0, 1, 10, 11]), (9, [8, 9]), (8, [11]), (7, [0, 1, 10, 11, 65]), (6, [0, 1, 10, 11]), (5, [0, 1, 10, 11, 60]), (4, [0, 1, 10, 11]), (3, [0, 1, 10, 11, 43]), (2, [0, 1, 10, 11]), (1, [0, 1, 2]), (0, [0, 1, 2, 3])], [(15, [0, 1, 10, 11]), (13, [0, 1, 10, 11]), (5, [0, 1, 10, 11]), (3, [0, 1, 10, 11])], [(1, [(0, []), (1, []), (2, []), (3, []), (4, []), (5, []), (6, []), (7, []), (8, []), (9, []), (10, []), (11, []), (12, []), (13, []), (14, []), (15, [])]), (3, [(0, []), (1, []), (2, []), (3, []), (4, []), (5, []), (6, []), (7, []), (8, []), (9, []), (10, []), (11, []), (12, []), (13, [])]), (5, [(0, []), (1, []), (2, []), (3, []), (4, []), (5, []), (6, []), (7, []), (8, []), (9, []), (10, []), (11, []), (12, []), (13, []), (14, [])]), (8, [(0, []), (1, []), (2, []), (3, []), (4, []), (5, []), (6, []), (7, []), (8, []), (9, []), (10, []), (11, []), (12, []), (13, []), (14, []), (15, [])]), (10, [(0, []), (1, []), (2, []), (3, []), (4, []), (5, []), (6, []), (7, []), (8, []), (9, []), (10, []), (11, []), (12, []), (13, []), (14, []), (15, [])]), (13, [(0, []), (1, []), (2, []), (3, []), (4, []), (5, []), (6, []), (7, []), (8, []), (9, []), (10, []), (11, []), (12, []), (13, [])]), (15, [(0, []), (1, []), (2, []), (3, []), (4, []), (5, []), (6, []), (7, []), (8, []), (9, []), (10, []), (11, []), (12, []), (13, []), (14, [])]), (18, [(0, []), (1, []), (2, []), (3, []), (4, []), (5, []), (6, []), (7, []), (8, []), (9, []), (10, []), (11, []), (12, []), (13, []), (14, []), (15, [])]), (21, [(0, []), (1, []), (2, []), (3, []), (4, []), (5, []), (6, []), (7, []), (8, []), (9, []), (10, []), (11, []), (12, []), (13, []), (14, []), (15, [])])]⟩
def rs94 : List ARes := [.t 8, .t 9]
def ac94 : ACode :=
 .seq (
  .reg [0, 1, 2, 3] [
    ⟨some 8, .op (.mv (.c (.int .i64 0))), none⟩,
    ⟨some 9, .op (.mv (.c (.bool false))), none⟩]) (
  .seq (
   .dreg [0, 1, 2] [
     (⟨some 12, .op (.mv (.t 0)), none⟩, []),
     (⟨some 13, .op (.mv (.t 1)), none⟩, []),
     (⟨some 14, .op (.mv (.t 0)), none⟩, []),
     (⟨some 15, .op (.mv (.t 3)), none⟩, []),
     (⟨some 16, .op (.mv (.t 0)), none⟩, []),
     (⟨some 17, .op (.mv (.t 3)), none⟩, []),
     (⟨some 18, .op (.idxAddr 1 (.t 16) (.t 17)), none⟩, []),
     (⟨some 19, .op (.ld1 (.t 18)), none⟩, []),
     (⟨some 20, .op (.mv (.t 0)), none⟩, []),
     (⟨some 21, .op (.mv (.t 1)), none⟩, []),
     (⟨some 22, .op (.idxAddr 1 (.t 20) (.t 21)), none⟩, []),
     (⟨some 23, .op (.ld1 (.t 22)), none⟩, []),
     (⟨some 24, .op (.idxAddr 1 (.t 12) (.t 13)), none⟩, []),
     (⟨none, .op (.st 1 (.t 24) (.t 19)), none⟩, []),
     (⟨some 25, .op (.idxAddr 1 (.t 14) (.t 15)), none⟩, []),
     (⟨none, .op (.st 1 (.t 25) (.t 23)), none⟩, [])]) (
   .seq (
    .reg [0, 1, 10, 11] [
      ⟨some 26, .op (.mv (.t 1)), none⟩,
      ⟨some 27, .op (.bin .add (.t 26) (.c (.int .i64 1))), none⟩,
      ⟨some 28, .op (.mv (.t 2)), none⟩,
      ⟨some 29, .op (.bin .sub (.t 28) (.c (.int .i64 1))), none⟩,
      ⟨some 10, .op (.mv (.t 27)), none⟩,
      ⟨some 11, .op (.mv (.t 29)), none⟩]) (
    .seq (
     .block 0 (
      .loop [0, 1, 10, 11] (
       .seq (
        .seq (
         .dreg [0, 1, 10, 11, 43] [
           (⟨some 30, .op (.mv (.t 10)), none⟩, []),
           (⟨some 31, .op (.mv (.t 11)), none⟩, []),
           (⟨some 32, .op (.bin .leq (.t 30) (.t 31)), none⟩, []),
           (⟨some 33, .op (.mv (.t 32)), none⟩, []),
           (⟨some 34, .op (.mv (.t 0)), some (33, true)⟩, []),
           (⟨some 35, .op (.mv (.t 10)), some (33, true)⟩, []),
           (⟨some 36, .op (.idxAddr 1 (.t 34) (.t 35)), some (33, true)⟩, []),
           (⟨some 37, .op (.ld1 (.t 36)), some (33, true)⟩, []),
           (⟨some 38, .op (.mv (.t 0)), some (33, true)⟩, []),
           (⟨some 39, .op (.mv (.t 1)), some (33, true)⟩, []),
           (⟨some 40, .op (.idxAddr 1 (.t 38) (.t 39)), some (33, true)⟩, []),
           (⟨some 41, .op (.ld1 (.t 40)), some (33, true)⟩, []),
           (⟨some 42, .call (.c (.fn 92 [] [])) [(.t 37), (.t 41)], some (33, true)⟩, []),
           (⟨some 43, .pick (.t 33) (.t 42) (.c (.bool false)), none⟩, [])]) (
         .cond (.t 43) (
          .skip) (
          .exit 0))) (
        .block 1 (
         .reg [0, 1, 10, 11] [
           ⟨some 44, .op (.mv (.t 10)), none⟩,
           ⟨some 45, .op (.bin .add (.t 44) (.c (.int .i64 1))), none⟩,
           ⟨some 10, .op (.mv (.t 45)), none⟩]))))) (
     .seq (
      .block 2 (
       .loop [0, 1, 10, 11] (
        .seq (
         .seq (
          .dreg [0, 1, 10, 11, 60] [
            (⟨some 46, .op (.mv (.t 10)), none⟩, []),
            (⟨some 47, .op (.mv (.t 11)), none⟩, []),
            (⟨some 48, .op (.bin .leq (.t 46) (.t 47)), none⟩, []),
            (⟨some 49, .op (.mv (.t 48)), none⟩, []),
            (⟨some 50, .op (.mv (.t 0)), some (49, true)⟩, []),
            (⟨some 51, .op (.mv (.t 11)), some (49, true)⟩, []),
            (⟨some 52, .op (.idxAddr 1 (.t 50) (.t 51)), some (49, true)⟩, []),
            (⟨some 53, .op (.ld1 (.t 52)), some (49, true)⟩, []),
            (⟨some 54, .op (.mv (.t 0)), some (49, true)⟩, []),
            (⟨some 55, .op (.mv (.t 1)), some (49, true)⟩, []),
            (⟨some 56, .op (.idxAddr 1 (.t 54) (.t 55)), some (49, true)⟩, []),
            (⟨some 57, .op (.ld1 (.t 56)), some (49, true)⟩, []),
            (⟨some 58, .call (.c (.fn 92 [] [])) [(.t 53), (.t 57)], some (49, true)⟩, []),
            (⟨some 59, .op (.un .not (.t 58)), some (49, true)⟩, []),
            (⟨some 60, .pick (.t 49) (.t 59) (.c (.bool false)), none⟩, [])]) (
          .cond (.t 60) (
           .skip) (
           .exit 2))) (
         .block 3 (
          .reg [0, 1, 10, 11] [
            ⟨some 61, .op (.mv (.t 11)), none⟩,
            ⟨some 62, .op (.bin .sub (.t 61) (.c (.int .i64 1))), none⟩,
            ⟨some 11, .op (.mv (.t 62)), none⟩]))))) (
      .seq (
       .seq (
        .reg [0, 1, 10, 11, 65] [
          ⟨some 63, .op (.mv (.t 10)), none⟩,
          ⟨some 64, .op (.mv (.t 11)), none⟩,
          ⟨some 65, .op (.bin .gtr (.t 63) (.t 64)), none⟩]) (
        .cond (.t 65) (
         .seq (
          .dreg [11] [
            (⟨some 66, .op (.mv (.t 0)), none⟩, []),
            (⟨some 67, .op (.mv (.t 11)), none⟩, []),
            (⟨some 68, .op (.mv (.t 0)), none⟩, []),
            (⟨some 69, .op (.mv (.t 1)), none⟩, []),
            (⟨some 70, .op (.mv (.t 0)), none⟩, []),
            (⟨some 71, .op (.mv (.t 1)), none⟩, []),
            (⟨some 72, .op (.idxAddr 1 (.t 70) (.t 71)), none⟩, []),
            (⟨some 73, .op (.ld1 (.t 72)), none⟩, []),
            (⟨some 74, .op (.mv (.t 0)), none⟩, []),
            (⟨some 75, .op (.mv (.t 11)), none⟩, []),
            (⟨some 76, .op (.idxAddr 1 (.t 74) (.t 75)), none⟩, []),
            (⟨some 77, .op (.ld1 (.t 76)), none⟩, []),
            (⟨some 78, .op (.idxAddr 1 (.t 66) (.t 67)), none⟩, []),
            (⟨none, .op (.st 1 (.t 78) (.t 73)), none⟩, []),
            (⟨some 79, .op (.idxAddr 1 (.t 68) (.t 69)), none⟩, []),
            (⟨none, .op (.st 1 (.t 79) (.t 77)), none⟩, [])]) (
          .seq (
           .reg [8, 9] [
             ⟨some 80, .op (.mv (.t 11)), none⟩,
             ⟨some 8, .op (.mv (.t 80)), none⟩,
             ⟨some 9, .op (.mv (.c (.bool true))), none⟩]) (
           .ret))) (
         .skip))) (
       .seq (
        .dreg [0, 1, 10, 11] [
          (⟨some 81, .op (.mv (.t 0)), none⟩, []),
          (⟨some 82, .op (.mv (.t 10)), none⟩, []),
          (⟨some 83, .op (.mv (.t 0)), none⟩, []),
          (⟨some 84, .op (.mv (.t 11)), none⟩, []),
          (⟨some 85, .op (.mv (.t 0)), none⟩, []),
          (⟨some 86, .op (.mv (.t 11)), none⟩, []),
          (⟨some 87, .op (.idxAddr 1 (.t 85) (.t 86)), none⟩, []),
          (⟨some 88, .op (.ld1 (.t 87)), none⟩, []),
          (⟨some 89, .op (.mv (.t 0)), none⟩, []),
          (⟨some 90, .op (.mv (.t 10)), none⟩, []),
          (⟨some 91, .op (.idxAddr 1 (.t 89) (.t 90)), none⟩, []),
          (⟨some 92, .op (.ld1 (.t 91)), none⟩, []),
          (⟨some 93, .op (.idxAddr 1 (.t 81) (.t 82)), none⟩, []),
          (⟨none, .op (.st 1 (.t 93) (.t 88)), none⟩, []),
          (⟨some 94, .op (.idxAddr 1 (.t 83) (.t 84)), none⟩, []),
          (⟨none, .op (.st 1 (.t 94) (.t 92)), none⟩, [])]) (
        .seq (
         .reg [0, 1, 10, 11] [
           ⟨some 95, .op (.mv (.t 10)), none⟩,
           ⟨some 96, .op (.bin .add (.t 95) (.c (.int .i64 1))), none⟩,
           ⟨some 10, .op (.mv (.t 96)), none⟩]) (
         .seq (
          .reg [0, 1, 10, 11] [
            ⟨some 97, .op (.mv (.t 11)), none⟩,
            ⟨some 98, .op (.bin .sub (.t 97) (.c (.int .i64 1))), none⟩,
            ⟨some 11, .op (.mv (.t 98)), none⟩]) (
          .seq (
           .block 4 (
            .loop [0, 1, 10, 11] (
             .block 5 (
              .seq (
               .block 6 (
                .loop [0, 1, 10, 11] (
                 .seq (
                  .seq (
                   .dreg [0, 1, 10, 11, 112] [
                     (⟨some 99, .op (.mv (.t 10)), none⟩, []),
                     (⟨some 100, .op (.mv (.t 11)), none⟩, []),
                     (⟨some 101, .op (.bin .leq (.t 99) (.t 100)), none⟩, []),
                     (⟨some 102, .op (.mv (.t 101)), none⟩, []),
                     (⟨some 103, .op (.mv (.t 0)), some (102, true)⟩, []),
                     (⟨some 104, .op (.mv (.t 10)), some (102, true)⟩, []),
                     (⟨some 105, .op (.idxAddr 1 (.t 103) (.t 104)), some (102, true)⟩, []),
                     (⟨some 106, .op (.ld1 (.t 105)), some (102, true)⟩, []),
                     (⟨some 107, .op (.mv (.t 0)), some (102, true)⟩, []),
                     (⟨some 108, .op (.mv (.t 1)), some (102, true)⟩, []),
                     (⟨some 109, .op (.idxAddr 1 (.t 107) (.t 108)), some (102, true)⟩, []),
                     (⟨some 110, .op (.ld1 (.t 109)), some (102, true)⟩, []),
                     (⟨some 111, .call (.c (.fn 92 [] [])) [(.t 106), (.t 110)], some (102, true)⟩, []),
                     (⟨some 112, .pick (.t 102) (.t 111) (.c (.bool false)), none⟩, [])]) (
                   .cond (.t 112) (
                    .skip) (
                    .exit 6))) (
                  .block 7 (
                   .reg [0, 1, 10, 11] [
                     ⟨some 113, .op (.mv (.t 10)), none⟩,
                     ⟨some 114, .op (.bin .add (.t 113) (.c (.int .i64 1))), none⟩,
                     ⟨some 10, .op (.mv (.t 114)), none⟩]))))) (
               .seq (
                .block 8 (
                 .loop [0, 1, 10, 11] (
                  .seq (
                   .seq (
                    .dreg [0, 1, 10, 11, 129] [
                      (⟨some 115, .op (.mv (.t 10)), none⟩, []),
                      (⟨some 116, .op (.mv (.t 11)), none⟩, []),
                      (⟨some 117, .op (.bin .leq (.t 115) (.t 116)), none⟩, []),
                      (⟨some 118, .op (.mv (.t 117)), none⟩, []),
                      (⟨some 119, .op (.mv (.t 0)), some (118, true)⟩, []),
                      (⟨some 120, .op (.mv (.t 11)), some (118, true)⟩, []),
                      (⟨some 121, .op (.idxAddr 1 (.t 119) (.t 120)), some (118, true)⟩, []),
                      (⟨some 122, .op (.ld1 (.t 121)), some (118, true)⟩, []),
                      (⟨some 123, .op (.mv (.t 0)), some (118, true)⟩, []),
                      (⟨some 124, .op (.mv (.t 1)), some (118, true)⟩, []),
                      (⟨some 125, .op (.idxAddr 1 (.t 123) (.t 124)), some (118, true)⟩, []),
                      (⟨some 126, .op (.ld1 (.t 125)), some (118, true)⟩, []),
                      (⟨some 127, .call (.c (.fn 92 [] [])) [(.t 122), (.t 126)], some (118, true)⟩, []),
                      (⟨some 128, .op (.un .not (.t 127)), some (118, true)⟩, []),
                      (⟨some 129, .pick (.t 118) (.t 128) (.c (.bool false)), none⟩, [])]) (
                    .cond (.t 129) (
                     .skip) (
                     .exit 8))) (
                   .block 9 (
                    .reg [0, 1, 10, 11] [
                      ⟨some 130, .op (.mv (.t 11)), none⟩,
                      ⟨some 131, .op (.bin .sub (.t 130) (.c (.int .i64 1))), none⟩,
                      ⟨some 11, .op (.mv (.t 131)), none⟩]))))) (
                .seq (
                 .seq (
                  .reg [0, 1, 10, 11, 134] [
                    ⟨some 132, .op (.mv (.t 10)), none⟩,
                    ⟨some 133, .op (.mv (.t 11)), none⟩,
                    ⟨some 134, .op (.bin .gtr (.t 132) (.t 133)), none⟩]) (
                  .cond (.t 134) (
                   .exit 4) (
                   .skip))) (
                 .seq (
                  .dreg [0, 1, 10, 11] [
                    (⟨some 135, .op (.mv (.t 0)), none⟩, []),
                    (⟨some 136, .op (.mv (.t 10)), none⟩, []),
                    (⟨some 137, .op (.mv (.t 0)), none⟩, []),
                    (⟨some 138, .op (.mv (.t 11)), none⟩, []),
                    (⟨some 139, .op (.mv (.t 0)), none⟩, []),
                    (⟨some 140, .op (.mv (.t 11)), none⟩, []),
                    (⟨some 141, .op (.idxAddr 1 (.t 139) (.t 140)), none⟩, []),
                    (⟨some 142, .op (.ld1 (.t 141)), none⟩, []),
                    (⟨some 143, .op (.mv (.t 0)), none⟩, []),
                    (⟨some 144, .op (.mv (.t 10)), none⟩, []),
                    (⟨some 145, .op (.idxAddr 1 (.t 143) (.t 144)), none⟩, []),
                    (⟨some 146, .op (.ld1 (.t 145)), none⟩, []),
                    (⟨some 147, .op (.idxAddr 1 (.t 135) (.t 136)), none⟩, []),
                    (⟨none, .op (.st 1 (.t 147) (.t 142)), none⟩, []),
                    (⟨some 148, .op (.idxAddr 1 (.t 137) (.t 138)), none⟩, []),
                    (⟨none, .op (.st 1 (.t 148) (.t 146)), none⟩, [])]) (
                  .seq (
                   .reg [0, 1, 10, 11] [
                     ⟨some 149, .op (.mv (.t 10)), none⟩,
                     ⟨some 150, .op (.bin .add (.t 149) (.c (.int .i64 1))), none⟩,
                     ⟨some 10, .op (.mv (.t 150)), none⟩]) (
                   .reg [0, 1, 10, 11] [
                     ⟨some 151, .op (.mv (.t 11)), none⟩,
                     ⟨some 152, .op (.bin .sub (.t 151) (.c (.int .i64 1))), none⟩,
                     ⟨some 11, .op (.mv (.t 152)), none⟩]))))))))) (
           .seq (
            .dreg [11] [
              (⟨some 153, .op (.mv (.t 0)), none⟩, []),
              (⟨some 154, .op (.mv (.t 11)), none⟩, []),
              (⟨some 155, .op (.mv (.t 0)), none⟩, []),
              (⟨some 156, .op (.mv (.t 1)), none⟩, []),
              (⟨some 157, .op (.mv (.t 0)), none⟩, []),
              (⟨some 158, .op (.mv (.t 1)), none⟩, []),
              (⟨some 159, .op (.idxAddr 1 (.t 157) (.t 158)), none⟩, []),
              (⟨some 160, .op (.ld1 (.t 159)), none⟩, []),
              (⟨some 161, .op (.mv (.t 0)), none⟩, []),
              (⟨some 162, .op (.mv (.t 11)), none⟩, []),
              (⟨some 163, .op (.idxAddr 1 (.t 161) (.t 162)), none⟩, []),
              (⟨some 164, .op (.ld1 (.t 163)), none⟩, []),
              (⟨some 165, .op (.idxAddr 1 (.t 153) (.t 154)), none⟩, []),
              (⟨none, .op (.st 1 (.t 165) (.t 160)), none⟩, []),
              (⟨some 166, .op (.idxAddr 1 (.t 155) (.t 156)), none⟩, []),
              (⟨none, .op (.st 1 (.t 166) (.t 164)), none⟩, [])]) (
            .seq (
             .reg [8, 9] [
               ⟨some 167, .op (.mv (.t 11)), none⟩,
               ⟨some 8, .op (.mv (.t 167)), none⟩,
               ⟨some 9, .op (.mv (.c (.bool false))), none⟩]) (
             .ret))))))))))))
theorem cf94 : compF Try.prog Try.f94 h94 = some (ac94, rs94) := by kernel_rfl

/-! slices.siftDownOrdered[uint64] params 4 -/
def h96 : Hints := ⟨[(7, [0, 2, 3, 8]), (6, [0, 2, 3, 9]), (5, [0, 2, 3, 8, 9, 52]), (4, [0, 2, 3, 8, 9]), (3, [0, 2, 3, 8, 9, 36]), (2, [0, 2, 3, 8, 9, 16]), (1, [0, 2, 3, 8, 9]), (0, [0, 2, 3, 8])], [(1, [0, 2, 3, 8])], [(3, [(0, []), (1, []), (2, []), (3, []), (4, []), (5, []), (6, []), (7, []), (8, []), (9, []), (10, []), (11, []), (12, []), (13, []), (14, []), (15, []), (16, []), (17, []), (18, []), (19, [])]), (5, [(0, []), (1, []), (2, []), (3, []), (4, []), (5, []), (6, []), (7, []), (8, []), (9, []), (10, []), (11, []), (12, []), (13, [])]), (6, [(0, []), (1, []), (2, []), (3, []), (4, []), (5, []), (6, []), (7, []), (8, []), (9, []), (10, []), (11, []), (12, []), (13, []), (14, []), (15, []), (16, []), (17, []), (18, []), (19, []), (20, []), (21, []), (22, []), (23, [])])]⟩
def rs96 : List ARes := []
def ac96 : ACode :=
 .seq (
  .reg [0, 2, 3, 8] [
    ⟨some 10, .op (.mv (.t 1)), none⟩,
    ⟨some 8, .op (.mv (.t 10)), none⟩]) (
  .block 0 (
   .loop [0, 2, 3, 8] (
    .block 1 (
     .seq (
      .reg [0, 2, 3, 8, 9] [
        ⟨some 11, .op (.mv (.t 8)), none⟩,
        ⟨some 12, .op (.bin .mul (.c (.int .i64 2)) (.t 11)), none⟩,
        ⟨some 13, .op (.bin .add (.t 12) (.c (.int .i64 1))), none⟩,
        ⟨some 9, .op (.mv (.t 13)), none⟩]) (
      .seq (
       .seq (
        .reg [0, 2, 3, 8, 9, 16] [
          ⟨some 14, .op (.mv (.t 9)), none⟩,
          ⟨some 15, .op (.mv (.t 2)), none⟩,
          ⟨some 16, .op (.bin .geq (.t 14) (.t 15)), none⟩]) (
        .cond (.t 16) (
         .exit 0) (
         .skip))) (
       .seq (
        .seq (
         .dreg [0, 2, 3, 8, 9, 36] [
           (⟨some 17, .op (.mv (.t 9)), none⟩, []),
           (⟨some 18, .op (.bin .add (.t 17) (.c (.int .i64 1))), none⟩, []),
           (⟨some 19, .op (.mv (.t 2)), none⟩, []),
           (⟨some 20, .op (.bin .lss (.t 18) (.t 19)), none⟩, []),
           (⟨some 21, .op (.mv (.t 20)), none⟩, []),
           (⟨some 22, .op (.mv (.t 0)), some (21, true)⟩, []),
           (⟨some 23, .op (.mv (.t 3)), some (21, true)⟩, []),
           (⟨some 24, .op (.mv (.t 9)), some (21, true)⟩, []),
           (⟨some 25, .op (.bin .add (.t 23) (.t 24)), some (21, true)⟩, []),
           (⟨some 26, .op (.idxAddr 1 (.t 22) (.t 25)), some (21, true)⟩, []),
           (⟨some 27, .op (.ld1 (.t 26)), some (21, true)⟩, []),
           (⟨some 28, .op (.mv (.t 0)), some (21, true)⟩, []),
           (⟨some 29, .op (.mv (.t 3)), some (21, true)⟩, []),
           (⟨some 30, .op (.mv (.t 9)), some (21, true)⟩, []),
           (⟨some 31, .op (.bin .add (.t 29) (.t 30)), some (21, true)⟩, []),
           (⟨some 32, .op (.bin .add (.t 31) (.c (.int .i64 1))), some (21, true)⟩, []),
           (⟨some 33, .op (.idxAddr 1 (.t 28) (.t 32)), some (21, true)⟩, []),
           (⟨some 34, .op (.ld1 (.t 33)), some (21, true)⟩, []),
           (⟨some 35, .call (.c (.fn 92 [] [])) [(.t 27), (.t 34)], some (21, true)⟩, []),
           (⟨some 36, .pick (.t 21) (.t 35) (.c (.bool false)), none⟩, [])]) (
         .cond (.t 36) (
          .reg [0, 2, 3, 8, 9] [
            ⟨some 37, .op (.mv (.t 9)), none⟩,
            ⟨some 38, .op (.bin .add (.t 37) (.c (.int .i64 1))), none⟩,
            ⟨some 9, .op (.mv (.t 38)), none⟩]) (
          .skip))) (
        .seq (
         .seq (
          .dreg [0, 2, 3, 8, 9, 52] [
            (⟨some 39, .op (.mv (.t 0)), none⟩, []),
            (⟨some 40, .op (.mv (.t 3)), none⟩, []),
            (⟨some 41, .op (.mv (.t 8)), none⟩, []),
            (⟨some 42, .op (.bin .add (.t 40) (.t 41)), none⟩, []),
            (⟨some 43, .op (.idxAddr 1 (.t 39) (.t 42)), none⟩, []),
            (⟨some 44, .op (.ld1 (.t 43)), none⟩, []),
            (⟨some 45, .op (.mv (.t 0)), none⟩, []),
            (⟨some 46, .op (.mv (.t 3)), none⟩, []),
            (⟨some 47, .op (.mv (.t 9)), none⟩, []),
            (⟨some 48, .op (.bin .add (.t 46) (.t 47)), none⟩, []),
            (⟨some 49, .op (.idxAddr 1 (.t 45) (.t 48)), none⟩, []),
            (⟨some 50, .op (.ld1 (.t 49)), none⟩, []),
            (⟨some 51, .call (.c (.fn 92 [] [])) [(.t 44), (.t 50)], none⟩, []),
            (⟨some 52, .op (.un .not (.t 51)), none⟩, [])]) (
          .cond (.t 52) (
           .ret) (
           .skip))) (
         .seq (
          .dreg [0, 2, 3, 9] [
            (⟨some 53, .op (.mv (.t 0)), none⟩, []),
            (⟨some 54, .op (.mv (.t 3)), none⟩, []),
            (⟨some 55, .op (.mv (.t 8)), none⟩, []),
            (⟨some 56, .op (.bin .add (.t 54) (.t 55)), none⟩, []),
            (⟨some 57, .op (.mv (.t 0)), none⟩, []),
            (⟨some 58, .op (.mv (.t 3)), none⟩, []),
            (⟨some 59, .op (.mv (.t 9)), none⟩, []),
            (⟨some 60, .op (.bin .add (.t 58) (.t 59)), none⟩, []),
            (⟨some 61, .op (.mv (.t 0)), none⟩, []),
            (⟨some 62, .op (.mv (.t 3)), none⟩, []),
            (⟨some 63, .op (.mv (.t 9)), none⟩, []),
            (⟨some 64, .op (.bin .add (.t 62) (.t 63)), none⟩, []),
            (⟨some 65, .op (.idxAddr 1 (.t 61) (.t 64)), none⟩, []),
            (⟨some 66, .op (.ld1 (.t 65)), none⟩, []),
            (⟨some 67, .op (.mv (.t 0)), none⟩, []),
            (⟨some 68, .op (.mv (.t 3)), none⟩, []),
            (⟨some 69, .op (.mv (.t 8)), none⟩, []),
            (⟨some 70, .op (.bin .add (.t 68) (.t 69)), none⟩, []),
            (⟨some 71, .op (.idxAddr 1 (.t 67) (.t 70)), none⟩, []),
            (⟨some 72, .op (.ld1 (.t 71)), none⟩, []),
            (⟨some 73, .op (.idxAddr 1 (.t 53) (.t 56)), none⟩, []),
            (⟨none, .op (.st 1 (.t 73) (.t 66)), none⟩, []),
            (⟨some 74, .op (.idxAddr 1 (.t 57) (.t 60)), none⟩, []),
            (⟨none, .op (.st 1 (.t 74) (.t 72)), none⟩, [])]) (
          .reg [0, 2, 3, 8] [
            ⟨some 75, .op (.mv (.t 9)), none⟩,
            ⟨some 8, .op (.mv (.t 75)), none⟩])))))))))
theorem cf96 : compF Try.prog Try.f96 h96 = some (ac96, rs96) := by kernel_rfl

/-! slices.medianAdjacentOrdered[uint64] params 3 -/
def h97 : Hints := ⟨[(1, [6]), (0, [0, 1, 2])], [], []⟩
def rs97 : List ARes := [.t 6]
def ac97 : ACode :=
 .seq (
  .reg [0, 1, 2] [
    ⟨some 6, .op (.mv (.c (.int .i64 0))), none⟩]) (
  .seq (
   .reg [6] [
     ⟨some 7, .op (.mv (.t 0)), none⟩,
     ⟨some 8, .op (.mv (.t 1)), none⟩,
     ⟨some 9, .op (.bin .sub (.t 8) (.c (.int .i64 1))), none⟩,
     ⟨some 10, .op (.mv (.t 1)), none⟩,
     ⟨some 11, .op (.mv (.t 1)), none⟩,
     ⟨some 12, .op (.bin .add (.t 11) (.c (.int .i64 1))), none⟩,
     ⟨some 13, .op (.mv (.t 2)), none⟩,
     ⟨some 14, .call (.c (.fn 98 [] [])) [(.t 7), (.t 9), (.t 10), (.t 12), (.t 13)], none⟩,
     ⟨some 6, .op (.mv (.t 14)), none⟩]) (
   .ret))
theorem cf97 : compF Try.prog Try.f97 h97 = some (ac97, rs97) := by kernel_rfl

/-! slices.medianOrdered[uint64] params 5 -/
def h98 : Hints := ⟨[(4, [10]), (3, [2]), (2, [0, 1, 2, 4]), (1, [0, 1, 2, 3, 4]), (0, [0, 1, 2, 3, 4])], [], []⟩
def rs98 : List ARes := [.t 10]
def ac98 : ACode :=
 .seq (
  .reg [0, 1, 2, 3, 4] [
    ⟨some 10, .op (.mv (.c (.int .i64 0))), none⟩]) (
  .seq (
   .reg [0, 1, 2, 3, 4] [
     ⟨some 12, .op (.mv (.t 0)), none⟩,
     ⟨some 13, .op (.mv (.t 1)), none⟩,
     ⟨some 14, .op (.mv (.t 2)), none⟩,
     ⟨some 15, .op (.mv (.t 4)), none⟩,
     ⟨some 16, .call (.c (.fn 99 [] [])) [(.t 12), (.t 13), (.t 14), (.t 15)], none⟩,
     ⟨some 11, .op (.mv (.t 16)), none⟩,
     ⟨some 17, .op (.extract (.t 11) 0), none⟩,
     ⟨some 18, .op (.extract (.t 11) 1), none⟩,
     ⟨some 1, .op (.mv (.t 17)), none⟩,
     ⟨some 2, .op (.mv (.t 18)), none⟩]) (
   .seq (
    .reg [0, 1, 2, 4] [
      ⟨some 20, .op (.mv (.t 0)), none⟩,
      ⟨some 21, .op (.mv (.t 2)), none⟩,
      ⟨some 22, .op (.mv (.t 3)), none⟩,
      ⟨some 23, .op (.mv (.t 4)), none⟩,
      ⟨some 24, .call (.c (.fn 99 [] [])) [(.t 20), (.t 21), (.t 22), (.t 23)], none⟩,
      ⟨some 19, .op (.mv (.t 24)), none⟩,
      ⟨some 25, .op (.extract (.t 19) 0), none⟩,
      ⟨some 26, .op (.extract (.t 19) 1), none⟩,
      ⟨some 2, .op (.mv (.t 25)), none⟩,
      ⟨some 3, .op (.mv (.t 26)), none⟩]) (
    .seq (
     .reg [2] [
       ⟨some 28, .op (.mv (.t 0)), none⟩,
       ⟨some 29, .op (.mv (.t 1)), none⟩,
       ⟨some 30, .op (.mv (.t 2)), none⟩,
       ⟨some 31, .op (.mv (.t 4)), none⟩,
       ⟨some 32, .call (.c (.fn 99 [] [])) [(.t 28), (.t 29), (.t 30), (.t 31)], none⟩,
       ⟨some 27, .op (.mv (.t 32)), none⟩,
       ⟨some 33, .op (.extract (.t 27) 0), none⟩,
       ⟨some 34, .op (.extract (.t 27) 1), none⟩,
       ⟨some 1, .op (.mv (.t 33)), none⟩,
       ⟨some 2, .op (.mv (.t 34)), none⟩]) (
     .seq (
      .reg [10] [
        ⟨some 35, .op (.mv (.t 2)), none⟩,
        ⟨some 10, .op (.mv (.t 35)), none⟩]) (
      .ret)))))
theorem cf98 : compF Try.prog Try.f98 h98 = some (ac98, rs98) := by kernel_rfl

/-! slices.order2Ordered[uint64] params 4 -/
def h99 : Hints := ⟨[(4, [8, 9]), (3, [8, 9]), (2, [1, 2]), (1, [1, 2, 3, 18]), (0, [0, 1, 2, 3])], [], [(1, [(0, []), (1, []), (2, []), (3, []), (4, []), (5, []), (6, []), (7, []), (8, [])])]⟩
def rs99 : List ARes := [.t 8, .t 9]
def ac99 : ACode :=
 .seq (
  .reg [0, 1, 2, 3] [
    ⟨some 8, .op (.mv (.c (.int .i64 0))), none⟩,
    ⟨some 9, .op (.mv (.c (.int .i64 0))), none⟩]) (
  .seq (
   .seq (
    .dreg [1, 2, 3, 18] [
      (⟨some 10, .op (.mv (.t 0)), none⟩, []),
      (⟨some 11, .op (.mv (.t 2)), none⟩, []),
      (⟨some 12, .op (.idxAddr 1 (.t 10) (.t 11)), none⟩, []),
      (⟨some 13, .op (.ld1 (.t 12)), none⟩, []),
      (⟨some 14, .op (.mv (.t 0)), none⟩, []),
      (⟨some 15, .op (.mv (.t 1)), none⟩, []),
      (⟨some 16, .op (.idxAddr 1 (.t 14) (.t 15)), none⟩, []),
      (⟨some 17, .op (.ld1 (.t 16)), none⟩, []),
      (⟨some 18, .call (.c (.fn 92 [] [])) [(.t 13), (.t 17)], none⟩, [])]) (
    .cond (.t 18) (
     .seq (
      .reg [1, 2] [
        ⟨some 19, .op (.mv (.t 3)), none⟩,
        ⟨some 20, .op (.nilCheck (.t 19)), none⟩,
        ⟨some 21, .op (.ld1 (.t 20)), none⟩,
        ⟨some 22, .op (.bin .add (.t 21) (.c (.int .i64 1))), none⟩,
        ⟨some 23, .op (.nilCheck (.t 19)), none⟩,
        ⟨none, .op (.st 1 (.t 23) (.t 22)), none⟩]) (
      .seq (
       .reg [8, 9] [
         ⟨some 24, .op (.mv (.t 2)), none⟩,
         ⟨some 25, .op (.mv (.t 1)), none⟩,
         ⟨some 8, .op (.mv (.t 24)), none⟩,
         ⟨some 9, .op (.mv (.t 25)), none⟩]) (
       .ret))) (
     .skip))) (
   .seq (
    .reg [8, 9] [
      ⟨some 26, .op (.mv (.t 1)), none⟩,
      ⟨some 27, .op (.mv (.t 2)), none⟩,
      ⟨some 8, .op (.mv (.t 26)), none⟩,
      ⟨some 9, .op (.mv (.t 27)), none⟩]) (
    .ret)))
theorem cf99 : compF Try.prog Try.f99 h99 = some (ac99, rs99) := by kernel_rfl


end Go.Proofs.Ytiikaajopgjliaa.AM
