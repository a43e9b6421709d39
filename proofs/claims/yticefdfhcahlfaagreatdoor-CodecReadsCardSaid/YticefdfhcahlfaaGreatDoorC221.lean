import Derived.Test.YticefdfhcahlfaaGreatDoorAm3
import Derived.Test.YticefdfhcahlfaaGreatDoorProg
import Derived.KernelRfl
namespace Go.Proofs.YticefdfhcahlfaaGreatDoor.AM
set_option maxRecDepth 100000
set_option maxHeartbeats 4000000
theorem hmx : Tryz.prog.follows .mixedOrders = true := by kernel_rfl
/-! mailcoach/mailcoachlaw21.CodecReads params 6 -/
def h3 : Hints := ⟨[(14,[12]),(13,[49,50,51]),(12,[12]),(11,[49,50,51,73]),(10,[17,18,19,20,49,50,51]),(9,[16,17,18,49,50,51]),(8,[16,49,50,51]),(7,[49,50,51,52]),(6,[49,50,51]),(5,[0,4,5,13]),(4,[12]),(3,[0,2,3,4,5,7,29]),(2,[12]),(1,[0,2,3,4,5,7,22]),(0,[0,2,3,4,5,7])],[(7,[49,50,51])],[]⟩
def rs3 : List ARes := [.t 12]
def ac3 : ACode :=
 .seq (.reg [0,2,3,4,5,7] [
 ⟨some 7,.op (.box (.t 1)),none⟩,⟨some 12,.op (.mv (.c (.bool false))),none⟩]) (.seq (.seq (.reg [0,2,3,4,5,7,22] [
 ⟨some 21,.call (.c (.fn 4 [] [])) [],none⟩,⟨some 22,.op (.un .not (.t 21)),none⟩]) (.cond (.t 22) (.seq (.reg [12] [
 ⟨some 12,.op (.mv (.c (.bool false))),none⟩]) (.ret)) (.skip))) (.seq (.seq (.reg [0,2,3,4,5,7,29] [
 ⟨some 23,.op (.ldn 5 (.t 7)),none⟩,⟨some 24,.call (.c (.fn 5 [] [])) [(.t 23)],none⟩,⟨some 25,.op (.mv (.t 24)),none⟩,⟨some 26,.op (.mv (.t 0)),some (25,false)⟩,⟨some 27,.op (.len 1 (.t 26)),some (25,false)⟩,⟨some 28,.op (.bin .gtr (.t 27) (.c (.int .i64 5000))),some (25,false)⟩,⟨some 29,.pick (.t 25) (.c (.bool true)) (.t 28),none⟩]) (.cond (.t 29) (.seq (.reg [12] [
 ⟨some 12,.op (.mv (.c (.bool true))),none⟩]) (.ret)) (.skip))) (.seq (.reg [0,4,5,13] [
 ⟨some 31,.op (.ldn 5 (.t 7)),none⟩,⟨some 32,.op (.mv (.t 2)),none⟩,⟨some 33,.op (.mv (.t 3)),none⟩,⟨some 34,.call (.c (.fn 7 [] [])) [(.t 31),(.t 32),(.t 33)],none⟩,⟨some 35,.call (.c (.fn 6 [] [])) [(.t 34)],none⟩,⟨some 30,.op (.mv (.t 35)),none⟩,⟨some 36,.op (.extract (.t 30) 0),none⟩,⟨some 37,.op (.extract (.t 30) 1),none⟩,⟨some 13,.op (.mv (.t 36)),none⟩,⟨some 14,.op (.mv (.t 37)),none⟩]) (.seq (.seq (.reg [49,50,51] [
 ⟨some 38,.op (.mv (.t 0)),none⟩,⟨some 39,.op (.mv (.t 13)),none⟩,⟨some 40,.op (.mv (.t 13)),none⟩,⟨some 41,.op (.mv (.t 4)),none⟩,⟨some 42,.op (.mv (.t 5)),none⟩,⟨some 43,.call (.c (.fn 8 [] [])) [(.t 40),(.t 41),(.t 42)],none⟩,⟨some 44,.op (.buildSl 1 [.int .u8 0] 0 []),none⟩,⟨some 45,.op (.mv (.t 13)),none⟩,⟨some 46,.op (.append 1 1 (.t 44) (.t 45)),none⟩,⟨some 47,.op (.mv (.t 0)),none⟩,⟨some 48,.op (.append 1 1 (.t 46) (.t 47)),none⟩,⟨some 49,.op (.buildSl 1 [.nilsl] 4 [(0,(.t 38)),(1,(.t 39)),(2,(.t 43)),(3,(.t 48))]),none⟩,⟨some 50,.op (.len 1 (.t 49)),none⟩,⟨some 51,.op (.mv (.c (.int .i64 0))),none⟩]) (.block 0 (.loop [49,50,51] (.seq (.reg [49,50,51,52] [
 ⟨some 52,.op (.bin .lss (.t 51) (.t 50)),none⟩]) (.seq (.cond (.t 52) (.skip) (.exit 0)) (.seq (.block 1 (.seq (.reg [16,49,50,51] [
 ⟨some 53,.op (.idxAddr 1 (.t 49) (.t 51)),none⟩,⟨some 54,.op (.ld1 (.t 53)),none⟩,⟨some 16,.op (.mv (.t 54)),none⟩]) (.seq (.reg [16,17,18,49,50,51] [
 ⟨some 56,.op (.mv (.t 16)),none⟩,⟨some 57,.call (.c (.fn 9 [] [])) [(.t 56)],none⟩,⟨some 55,.op (.mv (.t 57)),none⟩,⟨some 58,.op (.extract (.t 55) 0),none⟩,⟨some 59,.op (.extract (.t 55) 1),none⟩,⟨some 17,.op (.alloc [.int .u64 0,.int .u64 0,.nilsl,.nilsl,.nilsl]),none⟩,⟨none,.op (.st 5 (.t 17) (.t 58)),none⟩,⟨some 18,.op (.mv (.t 59)),none⟩]) (.seq (.reg [17,18,19,20,49,50,51] [
 ⟨some 61,.op (.mv (.t 16)),none⟩,⟨some 62,.call (.c (.fn 10 [] [])) [(.t 61)],none⟩,⟨some 60,.op (.mv (.t 62)),none⟩,⟨some 63,.op (.extract (.t 60) 0),none⟩,⟨some 64,.op (.extract (.t 60) 1),none⟩,⟨some 19,.op (.alloc [.int .u64 0,.int .u64 0,.nilsl,.nilsl,.nilsl]),none⟩,⟨none,.op (.st 5 (.t 19) (.t 63)),none⟩,⟨some 20,.op (.mv (.t 64)),none⟩]) (.seq (.reg [49,50,51,73] [
 ⟨some 65,.op (.mv (.t 18)),none⟩,⟨some 66,.op (.mv (.t 20)),none⟩,⟨some 67,.op (.bin .neq (.t 65) (.t 66)),none⟩,⟨some 68,.op (.mv (.t 67)),none⟩,⟨some 69,.op (.ldn 5 (.t 17)),some (68,false)⟩,⟨some 70,.op (.ldn 5 (.t 19)),some (68,false)⟩,⟨some 71,.call (.c (.fn 11 [] [])) [(.t 69),(.t 70)],some (68,false)⟩,⟨some 72,.op (.un .not (.t 71)),some (68,false)⟩,⟨some 73,.pick (.t 68) (.c (.bool true)) (.t 72),none⟩]) (.cond (.t 73) (.seq (.reg [12] [
 ⟨some 12,.op (.mv (.c (.bool false))),none⟩]) (.ret)) (.skip))))))) (.reg [49,50,51] [
 ⟨some 74,.op (.bin .add (.t 51) (.c (.int .i64 1))),none⟩,⟨some 51,.op (.mv (.t 74)),none⟩]))))))) (.seq (.reg [12] [
 ⟨some 12,.op (.mv (.c (.bool true))),none⟩]) (.ret))))))
theorem cf3 : compF Tryz.prog Tryz.f3 h3 = some (ac3,rs3) := by kernel_rfl
/-! mailcoach/mailcoachlaw21.Awake params 0 -/
def h4 : Hints := ⟨[(4,[0]),(3,[1,2,3,4,6]),(2,[1,2,3,4]),(1,[1,2]),(0,[])],[],[(4,[(0,[]),(1,[]),(2,[]),(3,[]),(4,[]),(5,[]),(6,[]),(7,[]),(8,[]),(9,[]),(10,[]),(11,[]),(12,[]),(13,[]),(14,[]),(15,[]),(16,[]),(17,[]),(18,[]),(19,[]),(20,[]),(21,[]),(22,[]),(23,[]),(24,[])])]⟩
def rs4 : List ARes := [.t 0]
def ac4 : ACode :=
 .seq (.reg [] [
 ⟨some 0,.op (.mv (.c (.bool false))),none⟩]) (.seq (.reg [1,2] [
 ⟨some 8,.op (.build [.int .u64 0,.int .u64 0,.nilsl,.nilsl,.nilsl] []),none⟩,⟨some 9,.call (.c (.fn 12 [] [])) [(.t 8)],none⟩,⟨some 7,.op (.mv (.t 9)),none⟩,⟨some 10,.op (.extract (.t 7) 0),none⟩,⟨some 11,.op (.extract (.t 7) 1),none⟩,⟨some 1,.op (.mv (.t 10)),none⟩,⟨some 2,.op (.mv (.t 11)),none⟩]) (.seq (.reg [1,2,3,4] [
 ⟨some 13,.op (.build [.int .u8 0,.int .u8 0,.bool false,.int .i64 0,.int .u64 0,.int .u64 0,.int .u64 0,.int .u64 0,.int .u64 0,.int .u64 0,.int .u64 0,.str ⟨#[]⟩,.str ⟨#[]⟩,.nilsl,.nilsl] []),none⟩,⟨some 14,.call (.c (.fn 13 [] [])) [(.t 13)],none⟩,⟨some 12,.op (.mv (.t 14)),none⟩,⟨some 15,.op (.extract (.t 12) 0),none⟩,⟨some 16,.op (.extract (.t 12) 1),none⟩,⟨some 3,.op (.mv (.t 15)),none⟩,⟨some 4,.op (.mv (.t 16)),none⟩]) (.seq (.reg [1,2,3,4,6] [
 ⟨some 18,.op (.buildSl 1 [.int .u8 0] 1 [(0,(.c (.int .u8 1)))]),none⟩,⟨some 19,.call (.c (.fn 14 [] [])) [(.t 18)],none⟩,⟨some 17,.op (.mv (.t 19)),none⟩,⟨some 20,.op (.extract (.t 17) 0),none⟩,⟨some 21,.op (.extract (.t 17) 1),none⟩,⟨some 5,.op (.alloc [.int .u8 0,.int .u8 0,.bool false,.int .i64 0,.int .u64 0,.int .u64 0,.int .u64 0,.int .u64 0,.int .u64 0,.int .u64 0,.int .u64 0,.str ⟨#[]⟩,.str ⟨#[]⟩,.nilsl,.nilsl]),none⟩,⟨none,.op (.st 15 (.t 5) (.t 20)),none⟩,⟨some 6,.op (.mv (.t 21)),none⟩]) (.seq (.dreg [0] [
 (⟨some 22,.op (.mv (.t 2)),none⟩,[]),(⟨some 23,.op (.bin .eql (.t 22) (.c (.int .i64 0))),none⟩,[]),(⟨some 24,.op (.mv (.t 23)),none⟩,[]),(⟨some 25,.op (.mv (.t 4)),some (24,true)⟩,[]),(⟨some 26,.op (.bin .eql (.t 25) (.c (.int .i64 0))),some (24,true)⟩,[]),(⟨some 27,.pick (.t 24) (.t 26) (.c (.bool false)),none⟩,[]),(⟨some 28,.op (.mv (.t 27)),none⟩,[]),(⟨some 29,.op (.mv (.t 6)),some (28,true)⟩,[]),(⟨some 30,.op (.bin .eql (.t 29) (.c (.int .i64 4))),some (28,true)⟩,[]),(⟨some 31,.pick (.t 28) (.t 30) (.c (.bool false)),none⟩,[]),(⟨some 32,.op (.mv (.t 31)),none⟩,[]),(⟨some 33,.op (.mv (.t 1)),some (32,true)⟩,[]),(⟨some 34,.op (.bytesStr (.t 33)),some (32,true)⟩,[]),(⟨some 35,.op (.mkslice 1 1 [.int .u8 0] (.c (.int .i64 19)) (.c (.int .i64 19))),some (32,true)⟩,[]),(⟨some 36,.op (.bytesStr (.t 35)),some (32,true)⟩,[]),(⟨some 37,.op (.bin .eql (.t 34) (.t 36)),some (32,true)⟩,[]),(⟨some 38,.pick (.t 32) (.t 37) (.c (.bool false)),none⟩,[]),(⟨some 39,.op (.mv (.t 38)),none⟩,[]),(⟨some 40,.op (.mv (.t 3)),some (39,true)⟩,[]),(⟨some 41,.op (.bytesStr (.t 40)),some (39,true)⟩,[]),(⟨some 42,.op (.mkslice 1 1 [.int .u8 0] (.c (.int .i64 74)) (.c (.int .i64 74))),some (39,true)⟩,[]),(⟨some 43,.op (.bytesStr (.t 42)),some (39,true)⟩,[]),(⟨some 44,.op (.bin .eql (.t 41) (.t 43)),some (39,true)⟩,[]),(⟨some 45,.pick (.t 39) (.t 44) (.c (.bool false)),none⟩,[]),(⟨some 0,.op (.mv (.t 45)),none⟩,[])]) (.ret)))))
theorem cf4 : compF Tryz.prog Tryz.f4 h4 = some (ac4,rs4) := by kernel_rfl
/-! mailcoach/mailcoachlaw21.long params 1 -/
def h5 : Hints := ⟨[(21,[2]),(20,[58,59,60]),(19,[2]),(18,[58,59,60,67]),(17,[8,58,59,60]),(16,[58,59,60,61]),(15,[58,59,60]),(14,[1,26,27,28]),(13,[1,26,27,28,45,46,47]),(12,[2]),(11,[1,26,27,28,45,46,47,54]),(10,[1,6,26,27,28,45,46,47]),(9,[1,26,27,28,45,46,47,48]),(8,[1,26,27,28,45,46,47]),(7,[2]),(6,[1,4,26,27,28,42]),(5,[1,4,26,27,28]),(4,[1,26,27,28,29]),(3,[1,26,27,28]),(2,[2]),(1,[1,24]),(0,[1])],[(16,[58,59,60]),(9,[1,26,27,28,45,46,47]),(4,[1,26,27,28])],[]⟩
def rs5 : List ARes := [.t 2]
def ac5 : ACode :=
 .seq (.reg [1] [
 ⟨some 1,.op (.box (.t 0)),none⟩,⟨some 2,.op (.mv (.c (.bool false))),none⟩]) (.seq (.seq (.reg [1,24] [
 ⟨some 9,.op (.fieldAddr 2 (.t 1)),none⟩,⟨some 10,.op (.ld1 (.t 9)),none⟩,⟨some 11,.op (.len 1 (.t 10)),none⟩,⟨some 12,.op (.bin .gtr (.t 11) (.c (.int .i64 100))),none⟩,⟨some 13,.op (.mv (.t 12)),none⟩,⟨some 14,.op (.fieldAddr 3 (.t 1)),some (13,false)⟩,⟨some 15,.op (.ld1 (.t 14)),some (13,false)⟩,⟨some 16,.op (.len 1 (.t 15)),some (13,false)⟩,⟨some 17,.op (.bin .gtr (.t 16) (.c (.int .i64 10))),some (13,false)⟩,⟨some 18,.pick (.t 13) (.c (.bool true)) (.t 17),none⟩,⟨some 19,.op (.mv (.t 18)),none⟩,⟨some 20,.op (.fieldAddr 4 (.t 1)),some (19,false)⟩,⟨some 21,.op (.ld1 (.t 20)),some (19,false)⟩,⟨some 22,.op (.len 1 (.t 21)),some (19,false)⟩,⟨some 23,.op (.bin .gtr (.t 22) (.c (.int .i64 40))),some (19,false)⟩,⟨some 24,.pick (.t 19) (.c (.bool true)) (.t 23),none⟩]) (.cond (.t 24) (.seq (.reg [2] [
 ⟨some 2,.op (.mv (.c (.bool true))),none⟩]) (.ret)) (.skip))) (.seq (.seq (.reg [1,26,27,28] [
 ⟨some 25,.op (.fieldAddr 3 (.t 1)),none⟩,⟨some 26,.op (.ld1 (.t 25)),none⟩,⟨some 27,.op (.len 1 (.t 26)),none⟩,⟨some 28,.op (.mv (.c (.int .i64 0))),none⟩]) (.block 0 (.loop [1,26,27,28] (.seq (.reg [1,26,27,28,29] [
 ⟨some 29,.op (.bin .lss (.t 28) (.t 27)),none⟩]) (.seq (.cond (.t 29) (.skip) (.exit 0)) (.seq (.block 1 (.seq (.reg [1,4,26,27,28] [
 ⟨some 30,.op (.idxAddr 5 (.t 26) (.t 28)),none⟩,⟨some 31,.op (.ldn 5 (.t 30)),none⟩,⟨some 4,.op (.alloc [.str ⟨#[]⟩,.int .u8 0,.int .u64 0,.int .u64 0,.nilsl]),none⟩,⟨none,.op (.st 5 (.t 4) (.t 31)),none⟩]) (.seq (.seq (.reg [1,4,26,27,28,42] [
 ⟨some 32,.op (.fieldAddr 0 (.t 4)),none⟩,⟨some 33,.op (.ld1 (.t 32)),none⟩,⟨some 34,.op (.len 9 (.t 33)),none⟩,⟨some 35,.op (.bin .gtr (.t 34) (.c (.int .i64 200))),none⟩,⟨some 36,.op (.mv (.t 35)),none⟩,⟨some 37,.op (.fieldAddr 2 (.t 4)),some (36,false)⟩,⟨some 38,.op (.fieldAddr 2 (.t 37)),some (36,false)⟩,⟨some 39,.op (.ld1 (.t 38)),some (36,false)⟩,⟨some 40,.op (.len 1 (.t 39)),some (36,false)⟩,⟨some 41,.op (.bin .gtr (.t 40) (.c (.int .i64 40))),some (36,false)⟩,⟨some 42,.pick (.t 36) (.c (.bool true)) (.t 41),none⟩]) (.cond (.t 42) (.seq (.reg [2] [
 ⟨some 2,.op (.mv (.c (.bool true))),none⟩]) (.ret)) (.skip))) (.seq (.reg [1,26,27,28,45,46,47] [
 ⟨some 43,.op (.fieldAddr 2 (.t 4)),none⟩,⟨some 44,.op (.fieldAddr 2 (.t 43)),none⟩,⟨some 45,.op (.ld1 (.t 44)),none⟩,⟨some 46,.op (.len 1 (.t 45)),none⟩,⟨some 47,.op (.mv (.c (.int .i64 0))),none⟩]) (.block 2 (.loop [1,26,27,28,45,46,47] (.seq (.reg [1,26,27,28,45,46,47,48] [
 ⟨some 48,.op (.bin .lss (.t 47) (.t 46)),none⟩]) (.seq (.cond (.t 48) (.skip) (.exit 2)) (.seq (.block 3 (.seq (.reg [1,6,26,27,28,45,46,47] [
 ⟨some 49,.op (.idxAddr 2 (.t 45) (.t 47)),none⟩,⟨some 50,.op (.ldn 2 (.t 49)),none⟩,⟨some 6,.op (.alloc [.int .u64 0,.nilsl]),none⟩,⟨none,.op (.st 2 (.t 6) (.t 50)),none⟩]) (.seq (.reg [1,26,27,28,45,46,47,54] [
 ⟨some 51,.op (.fieldAddr 1 (.t 6)),none⟩,⟨some 52,.op (.ld1 (.t 51)),none⟩,⟨some 53,.op (.len 1 (.t 52)),none⟩,⟨some 54,.op (.bin .gtr (.t 53) (.c (.int .i64 40))),none⟩]) (.cond (.t 54) (.seq (.reg [2] [
 ⟨some 2,.op (.mv (.c (.bool true))),none⟩]) (.ret)) (.skip))))) (.reg [1,26,27,28,45,46,47] [
 ⟨some 55,.op (.bin .add (.t 47) (.c (.int .i64 1))),none⟩,⟨some 47,.op (.mv (.t 55)),none⟩])))))))))) (.reg [1,26,27,28] [
 ⟨some 56,.op (.bin .add (.t 28) (.c (.int .i64 1))),none⟩,⟨some 28,.op (.mv (.t 56)),none⟩]))))))) (.seq (.seq (.reg [58,59,60] [
 ⟨some 57,.op (.fieldAddr 4 (.t 1)),none⟩,⟨some 58,.op (.ld1 (.t 57)),none⟩,⟨some 59,.op (.len 1 (.t 58)),none⟩,⟨some 60,.op (.mv (.c (.int .i64 0))),none⟩]) (.block 4 (.loop [58,59,60] (.seq (.reg [58,59,60,61] [
 ⟨some 61,.op (.bin .lss (.t 60) (.t 59)),none⟩]) (.seq (.cond (.t 61) (.skip) (.exit 4)) (.seq (.block 5 (.seq (.reg [8,58,59,60] [
 ⟨some 62,.op (.idxAddr 5 (.t 58) (.t 60)),none⟩,⟨some 63,.op (.ldn 5 (.t 62)),none⟩,⟨some 8,.op (.alloc [.str ⟨#[]⟩,.int .u64 0,.int .u64 0,.int .u64 0,.int .u64 0]),none⟩,⟨none,.op (.st 5 (.t 8) (.t 63)),none⟩]) (.seq (.reg [58,59,60,67] [
 ⟨some 64,.op (.fieldAddr 0 (.t 8)),none⟩,⟨some 65,.op (.ld1 (.t 64)),none⟩,⟨some 66,.op (.len 9 (.t 65)),none⟩,⟨some 67,.op (.bin .gtr (.t 66) (.c (.int .i64 200))),none⟩]) (.cond (.t 67) (.seq (.reg [2] [
 ⟨some 2,.op (.mv (.c (.bool true))),none⟩]) (.ret)) (.skip))))) (.reg [58,59,60] [
 ⟨some 68,.op (.bin .add (.t 60) (.c (.int .i64 1))),none⟩,⟨some 60,.op (.mv (.t 68)),none⟩]))))))) (.seq (.reg [2] [
 ⟨some 2,.op (.mv (.c (.bool false))),none⟩]) (.ret)))))
theorem cf5 : compF Tryz.prog Tryz.f5 h5 = some (ac5,rs5) := by kernel_rfl
/-! mailcoach/mailcoachref21.Topic params 1 -/
def h6 : Hints := ⟨[(26,[2,3]),(25,[2,3]),(24,[6,143]),(23,[6]),(22,[6,11]),(19,[1,6,9]),(21,[1,6,9]),(20,[1,6,9,10]),(18,[1,6,9,114]),(17,[1,6,9]),(16,[1,6]),(13,[1,6,7]),(15,[1,6,7]),(14,[1,6,7,8]),(12,[1,6,7,85]),(11,[1,6,7]),(10,[1,6]),(9,[1,6]),(8,[2,3]),(7,[1,68]),(3,[1,4]),(6,[2,3]),(5,[1,4,65]),(4,[1,4,5]),(2,[1,4,16]),(1,[1,4]),(0,[1])],[(18,[1,6,9]),(12,[1,6,7]),(2,[1,4])],[(5,[(0,[]),(1,[]),(2,[]),(3,[]),(4,[]),(5,[]),(6,[]),(7,[]),(8,[]),(9,[]),(10,[]),(11,[]),(12,[]),(13,[]),(14,[]),(15,[]),(16,[]),(17,[]),(18,[]),(19,[]),(20,[]),(21,[]),(22,[]),(23,[]),(24,[]),(25,[]),(26,[]),(27,[]),(28,[]),(29,[]),(30,[]),(31,[]),(32,[]),(33,[]),(34,[]),(35,[]),(36,[]),(37,[]),(38,[]),(39,[]),(40,[]),(41,[])]),(9,[(0,[]),(1,[]),(3,[]),(4,[]),(2,[3]),(5,[]),(6,[])]),(15,[(0,[]),(1,[]),(2,[]),(4,[]),(5,[]),(8,[]),(9,[]),(3,[4,6]),(6,[6]),(7,[6]),(10,[]),(11,[])]),(21,[(0,[]),(1,[]),(2,[]),(3,[]),(5,[]),(6,[]),(7,[]),(9,[]),(10,[]),(4,[5,8]),(8,[8]),(11,[]),(12,[])])]⟩
def rs6 : List ARes := [.t 2,.t 3]
def ac6 : ACode :=
 .seq (.reg [1] [
 ⟨some 1,.op (.box (.t 0)),none⟩,⟨some 2,.op (.mv (.c (.nilsl))),none⟩,⟨some 3,.op (.mv (.c (.int .i64 0))),none⟩]) (.seq (.seq (.reg [1,4] [
 ⟨some 4,.op (.mv (.c (.int .i64 0))),none⟩]) (.block 0 (.loop [1,4] (.seq (.seq (.reg [1,4,16] [
 ⟨some 12,.op (.mv (.t 4)),none⟩,⟨some 13,.op (.fieldAddr 4 (.t 1)),none⟩,⟨some 14,.op (.ld1 (.t 13)),none⟩,⟨some 15,.op (.len 1 (.t 14)),none⟩,⟨some 16,.op (.bin .lss (.t 12) (.t 15)),none⟩]) (.cond (.t 16) (.skip) (.exit 0))) (.seq (.block 1 (.seq (.reg [1,4,5] [
 ⟨some 19,.op (.fieldAddr 4 (.t 1)),none⟩,⟨some 20,.op (.ld1 (.t 19)),none⟩,⟨some 21,.op (.mv (.t 4)),none⟩,⟨some 22,.op (.idxAddr 5 (.t 20) (.t 21)),none⟩,⟨some 23,.op (.ldn 5 (.t 22)),none⟩,⟨some 5,.op (.alloc [.str ⟨#[]⟩,.int .u64 0,.int .u64 0,.int .u64 0,.int .u64 0]),none⟩,⟨none,.op (.st 5 (.t 5) (.t 23)),none⟩]) (.seq (.dreg [1,4,65] [
 (⟨some 24,.op (.fieldAddr 0 (.t 5)),none⟩,[]),(⟨some 25,.op (.ld1 (.t 24)),none⟩,[]),(⟨some 26,.op (.len 9 (.t 25)),none⟩,[]),(⟨some 27,.op (.bin .lss (.t 26) (.c (.int .i64 1))),none⟩,[]),(⟨some 28,.op (.mv (.t 27)),none⟩,[]),(⟨some 29,.op (.fieldAddr 0 (.t 5)),some (28,false)⟩,[]),(⟨some 30,.op (.ld1 (.t 29)),some (28,false)⟩,[]),(⟨some 31,.op (.len 9 (.t 30)),some (28,false)⟩,[]),(⟨some 32,.op (.bin .gtr (.t 31) (.c (.int .i64 64))),some (28,false)⟩,[]),(⟨some 33,.pick (.t 28) (.c (.bool true)) (.t 32),none⟩,[]),(⟨some 34,.op (.mv (.t 33)),none⟩,[]),(⟨some 35,.op (.fieldAddr 2 (.t 5)),some (34,false)⟩,[]),(⟨some 36,.op (.ld1 (.t 35)),some (34,false)⟩,[]),(⟨some 37,.op (.bin .eql (.t 36) (.c (.int .u64 0))),some (34,false)⟩,[]),(⟨some 38,.pick (.t 34) (.c (.bool true)) (.t 37),none⟩,[]),(⟨some 39,.op (.mv (.t 38)),none⟩,[]),(⟨some 40,.op (.fieldAddr 1 (.t 5)),some (39,false)⟩,[]),(⟨some 41,.op (.ld1 (.t 40)),some (39,false)⟩,[]),(⟨some 42,.op (.fieldAddr 2 (.t 5)),some (39,false)⟩,[]),(⟨some 43,.op (.ld1 (.t 42)),some (39,false)⟩,[]),(⟨some 44,.op (.bin .neq (.t 41) (.t 43)),some (39,false)⟩,[]),(⟨some 45,.pick (.t 39) (.c (.bool true)) (.t 44),none⟩,[]),(⟨some 46,.op (.mv (.t 45)),none⟩,[]),(⟨some 47,.op (.mv (.t 4)),some (46,false)⟩,[]),(⟨some 48,.op (.bin .gtr (.t 47) (.c (.int .i64 0))),some (46,false)⟩,[]),(⟨some 49,.op (.mv (.t 48)),some (46,false)⟩,[]),(⟨some 50,.op (.fieldAddr 0 (.t 5)),some (49,true)⟩,[]),(⟨some 51,.op (.ld1 (.t 50)),some (49,true)⟩,[]),(⟨some 52,.op (.fieldAddr 4 (.t 1)),some (49,true)⟩,[]),(⟨some 53,.op (.ld1 (.t 52)),some (49,true)⟩,[]),(⟨some 54,.op (.mv (.t 4)),some (49,true)⟩,[]),(⟨some 55,.op (.bin .sub (.t 54) (.c (.int .i64 1))),some (49,true)⟩,[]),(⟨some 56,.op (.idxAddr 5 (.t 53) (.t 55)),some (49,true)⟩,[]),(⟨some 57,.op (.fieldAddr 0 (.t 56)),some (49,true)⟩,[]),(⟨some 58,.op (.ld1 (.t 57)),some (49,true)⟩,[]),(⟨some 59,.op (.bin .leq (.t 51) (.t 58)),some (49,true)⟩,[]),(⟨some 60,.pick (.t 49) (.t 59) (.c (.bool false)),some (46,false)⟩,[]),(⟨some 61,.pick (.t 46) (.c (.bool true)) (.t 60),none⟩,[]),(⟨some 62,.op (.mv (.t 61)),none⟩,[]),(⟨some 63,.op (.mv (.t 4)),some (62,false)⟩,[]),(⟨some 64,.op (.bin .eql (.t 63) (.c (.int .i64 16))),some (62,false)⟩,[]),(⟨some 65,.pick (.t 62) (.c (.bool true)) (.t 64),none⟩,[])]) (.cond (.t 65) (.seq (.reg [2,3] [
 ⟨some 2,.op (.mv (.c (.nilsl))),none⟩,⟨some 3,.op (.mv (.c (.int .i64 23))),none⟩]) (.ret)) (.skip))))) (.reg [1,4] [
 ⟨some 17,.op (.mv (.t 4)),none⟩,⟨some 18,.op (.bin .add (.t 17) (.c (.int .i64 1))),none⟩,⟨some 4,.op (.mv (.t 18)),none⟩])))))) (.seq (.seq (.reg [1,68] [
 ⟨some 66,.op (.ldn 5 (.t 1)),none⟩,⟨some 67,.call (.c (.fn 15 [] [])) [(.t 66)],none⟩,⟨some 68,.op (.un .not (.t 67)),none⟩]) (.cond (.t 68) (.seq (.reg [2,3] [
 ⟨some 2,.op (.mv (.c (.nilsl))),none⟩,⟨some 3,.op (.mv (.c (.int .i64 23))),none⟩]) (.ret)) (.skip))) (.seq (.dreg [1,6] [
 (⟨some 69,.op (.fieldAddr 0 (.t 1)),none⟩,[]),(⟨some 70,.op (.ld1 (.t 69)),none⟩,[]),(⟨some 72,.op (.fieldAddr 1 (.t 1)),none⟩,[]),(⟨some 73,.op (.ld1 (.t 72)),none⟩,[]),(⟨some 71,.call (.c (.fn 16 [] [])) [(.c (.nilsl)),(.t 70),(.c (.int .i64 8))],none⟩,[3]),(⟨some 74,.call (.c (.fn 16 [] [])) [(.t 71),(.t 73),(.c (.int .i64 8))],none⟩,[]),(⟨some 6,.op (.mv (.t 74)),none⟩,[])]) (.seq (.reg [1,6] [
 ⟨some 75,.op (.mv (.t 6)),none⟩,⟨some 76,.op (.fieldAddr 2 (.t 1)),none⟩,⟨some 77,.op (.ld1 (.t 76)),none⟩,⟨some 78,.op (.len 1 (.t 77)),none⟩,⟨some 79,.op (.toInt .u64 (.t 78)),none⟩,⟨some 80,.call (.c (.fn 16 [] [])) [(.t 75),(.t 79),(.c (.int .i64 1))],none⟩,⟨some 6,.op (.mv (.t 80)),none⟩]) (.seq (.seq (.reg [1,6,7] [
 ⟨some 7,.op (.mv (.c (.int .i64 0))),none⟩]) (.block 2 (.loop [1,6,7] (.seq (.seq (.reg [1,6,7,85] [
 ⟨some 81,.op (.mv (.t 7)),none⟩,⟨some 82,.op (.fieldAddr 2 (.t 1)),none⟩,⟨some 83,.op (.ld1 (.t 82)),none⟩,⟨some 84,.op (.len 1 (.t 83)),none⟩,⟨some 85,.op (.bin .lss (.t 81) (.t 84)),none⟩]) (.cond (.t 85) (.skip) (.exit 2))) (.seq (.block 3 (.seq (.reg [1,6,7,8] [
 ⟨some 88,.op (.fieldAddr 2 (.t 1)),none⟩,⟨some 89,.op (.ld1 (.t 88)),none⟩,⟨some 90,.op (.mv (.t 7)),none⟩,⟨some 91,.op (.idxAddr 3 (.t 89) (.t 90)),none⟩,⟨some 92,.op (.ldn 3 (.t 91)),none⟩,⟨some 8,.op (.alloc [.int .u64 0,.bool false,.int .u64 0]),none⟩,⟨none,.op (.st 3 (.t 8) (.t 92)),none⟩]) (.dreg [1,6,7] [
 (⟨some 93,.op (.mv (.t 6)),none⟩,[]),(⟨some 94,.op (.fieldAddr 0 (.t 8)),none⟩,[]),(⟨some 95,.op (.ld1 (.t 94)),none⟩,[]),(⟨some 97,.op (.fieldAddr 1 (.t 8)),none⟩,[]),(⟨some 98,.op (.ld1 (.t 97)),none⟩,[]),(⟨some 101,.op (.fieldAddr 2 (.t 8)),none⟩,[]),(⟨some 102,.op (.ld1 (.t 101)),none⟩,[]),(⟨some 96,.call (.c (.fn 16 [] [])) [(.t 93),(.t 95),(.c (.int .i64 8))],none⟩,[4,6]),(⟨some 99,.call (.c (.fn 17 [] [])) [(.t 98)],none⟩,[6]),(⟨some 100,.call (.c (.fn 16 [] [])) [(.t 96),(.t 99),(.c (.int .i64 1))],none⟩,[6]),(⟨some 103,.call (.c (.fn 16 [] [])) [(.t 100),(.t 102),(.c (.int .i64 8))],none⟩,[]),(⟨some 6,.op (.mv (.t 103)),none⟩,[])]))) (.reg [1,6,7] [
 ⟨some 86,.op (.mv (.t 7)),none⟩,⟨some 87,.op (.bin .add (.t 86) (.c (.int .i64 1))),none⟩,⟨some 7,.op (.mv (.t 87)),none⟩])))))) (.seq (.reg [1,6] [
 ⟨some 104,.op (.mv (.t 6)),none⟩,⟨some 105,.op (.fieldAddr 3 (.t 1)),none⟩,⟨some 106,.op (.ld1 (.t 105)),none⟩,⟨some 107,.op (.len 1 (.t 106)),none⟩,⟨some 108,.op (.toInt .u64 (.t 107)),none⟩,⟨some 109,.call (.c (.fn 16 [] [])) [(.t 104),(.t 108),(.c (.int .i64 1))],none⟩,⟨some 6,.op (.mv (.t 109)),none⟩]) (.seq (.seq (.reg [1,6,9] [
 ⟨some 9,.op (.mv (.c (.int .i64 0))),none⟩]) (.block 4 (.loop [1,6,9] (.seq (.seq (.reg [1,6,9,114] [
 ⟨some 110,.op (.mv (.t 9)),none⟩,⟨some 111,.op (.fieldAddr 3 (.t 1)),none⟩,⟨some 112,.op (.ld1 (.t 111)),none⟩,⟨some 113,.op (.len 1 (.t 112)),none⟩,⟨some 114,.op (.bin .lss (.t 110) (.t 113)),none⟩]) (.cond (.t 114) (.skip) (.exit 4))) (.seq (.block 5 (.seq (.reg [1,6,9,10] [
 ⟨some 117,.op (.fieldAddr 3 (.t 1)),none⟩,⟨some 118,.op (.ld1 (.t 117)),none⟩,⟨some 119,.op (.mv (.t 9)),none⟩,⟨some 120,.op (.idxAddr 5 (.t 118) (.t 119)),none⟩,⟨some 121,.op (.ldn 5 (.t 120)),none⟩,⟨some 10,.op (.alloc [.str ⟨#[]⟩,.int .u8 0,.int .u64 0,.int .u64 0,.nilsl]),none⟩,⟨none,.op (.st 5 (.t 10) (.t 121)),none⟩]) (.dreg [1,6,9] [
 (⟨some 122,.op (.mv (.t 6)),none⟩,[]),(⟨some 123,.op (.fieldAddr 0 (.t 10)),none⟩,[]),(⟨some 124,.op (.ld1 (.t 123)),none⟩,[]),(⟨some 125,.op (.strBytes (.t 124)),none⟩,[]),(⟨some 127,.op (.fieldAddr 1 (.t 10)),none⟩,[]),(⟨some 128,.op (.ld1 (.t 127)),none⟩,[]),(⟨some 129,.op (.toInt .u64 (.t 128)),none⟩,[]),(⟨some 131,.op (.fieldAddr 2 (.t 10)),none⟩,[]),(⟨some 132,.op (.ldn 3 (.t 131)),none⟩,[]),(⟨some 126,.call (.c (.fn 19 [] [])) [(.t 122),(.t 125)],none⟩,[5,8]),(⟨some 130,.call (.c (.fn 16 [] [])) [(.t 126),(.t 129),(.c (.int .i64 1))],none⟩,[8]),(⟨some 133,.call (.c (.fn 18 [] [])) [(.t 130),(.t 132)],none⟩,[]),(⟨some 6,.op (.mv (.t 133)),none⟩,[])]))) (.reg [1,6,9] [
 ⟨some 115,.op (.mv (.t 9)),none⟩,⟨some 116,.op (.bin .add (.t 115) (.c (.int .i64 1))),none⟩,⟨some 9,.op (.mv (.t 116)),none⟩])))))) (.seq (.reg [6,11] [
 ⟨some 134,.op (.fieldAddr 4 (.t 1)),none⟩,⟨some 135,.op (.ld1 (.t 134)),none⟩,⟨some 136,.op (.build [.nilsl] [(0,1,(.t 135))]),none⟩,⟨some 137,.op (.box (.t 136)),none⟩,⟨some 11,.op (.mv (.t 137)),none⟩]) (.seq (.reg [6] [
 ⟨some 138,.op (.mv (.t 11)),none⟩,⟨some 139,.op (.mv (.t 6)),none⟩,⟨some 140,.call (.c (.fn 20 [] [])) [(.t 138),(.t 139)],none⟩,⟨some 6,.op (.mv (.t 140)),none⟩]) (.seq (.seq (.reg [6,143] [
 ⟨some 141,.op (.mv (.t 6)),none⟩,⟨some 142,.op (.len 1 (.t 141)),none⟩,⟨some 143,.op (.bin .gtr (.t 142) (.c (.int .i64 3840))),none⟩]) (.cond (.t 143) (.seq (.reg [2,3] [
 ⟨some 2,.op (.mv (.c (.nilsl))),none⟩,⟨some 3,.op (.mv (.c (.int .i64 3))),none⟩]) (.ret)) (.skip))) (.seq (.reg [2,3] [
 ⟨some 144,.op (.mv (.t 6)),none⟩,⟨some 2,.op (.mv (.t 144)),none⟩,⟨some 3,.op (.mv (.c (.int .i64 0))),none⟩]) (.ret))))))))))))
theorem cf6 : compF Tryz.prog Tryz.f6 h6 = some (ac6,rs6) := by kernel_rfl
/-! mailcoach/mailcoachlaw21.Made params 3 -/
def h7 : Hints := ⟨[(21,[6]),(20,[3,6]),(19,[3,6,8,11,63,64,65]),(18,[3,6,8,11,63,64,65]),(17,[3,6,8,11,12,13,14,63,64,65]),(16,[3,6,8,11,12,13,63,64,65,71]),(15,[3,6,8,11,12,13,63,64,65]),(14,[3,6,8,11,63,64,65,66]),(13,[3,6,8,11,63,64,65]),(12,[3,6,8,11]),(11,[3,6,8,36,37,38]),(10,[3,6,8,36,37,38]),(9,[3,6,8,9,10,36,37,38,44]),(8,[3,6,8,9,10,36,37,38]),(7,[3,6,8,36,37,38,39]),(6,[3,6,8,36,37,38]),(5,[3,6,8]),(4,[3,6]),(3,[3,6,7,23]),(2,[3,6,7]),(1,[3,6]),(0,[1,2,3,6])],[(14,[3,6,8,11,63,64,65]),(7,[3,6,8,36,37,38])],[(4,[(0,[]),(1,[]),(2,[]),(3,[]),(4,[]),(5,[]),(6,[]),(7,[]),(8,[]),(9,[]),(10,[]),(11,[])]),(10,[(0,[]),(1,[]),(2,[]),(3,[]),(4,[]),(5,[]),(6,[]),(7,[]),(8,[]),(9,[]),(10,[]),(11,[]),(12,[5,7]),(13,[]),(14,[]),(15,[]),(16,[])])]⟩
def rs7 : List ARes := [.cn 6 5]
def ac7 : ACode :=
 .seq (.reg [1,2,3,6] [
 ⟨some 3,.op (.box (.t 0)),none⟩,⟨some 6,.op (.alloc [.int .u64 0,.int .u64 0,.nilsl,.nilsl,.nilsl]),none⟩]) (.seq (.reg [3,6] [
 ⟨some 15,.op (.mv (.t 1)),none⟩,⟨some 16,.op (.mv (.t 2)),none⟩,⟨some 17,.call (.c (.fn 21 [] [])) [(.t 15),(.t 16)],none⟩,⟨some 18,.op (.fieldAddr 2 (.t 3)),none⟩,⟨none,.op (.st 1 (.t 18) (.t 17)),none⟩]) (.seq (.seq (.reg [3,6,7] [
 ⟨some 19,.op (.fieldAddr 2 (.t 3)),none⟩,⟨some 20,.op (.ld1 (.t 19)),none⟩,⟨some 21,.op (.len 1 (.t 20)),none⟩,⟨some 7,.op (.mv (.t 21)),none⟩]) (.seq (.reg [3,6,7,23] [
 ⟨some 22,.op (.mv (.t 7)),none⟩,⟨some 23,.op (.bin .gtr (.t 22) (.c (.int .i64 0))),none⟩]) (.cond (.t 23) (.dreg [3,6] [
 (⟨some 24,.op (.fieldAddr 1 (.t 3)),none⟩,[]),(⟨some 25,.op (.ld1 (.t 24)),none⟩,[]),(⟨some 26,.op (.fieldAddr 2 (.t 3)),none⟩,[]),(⟨some 27,.op (.ld1 (.t 26)),none⟩,[]),(⟨some 28,.op (.mv (.t 7)),none⟩,[]),(⟨some 29,.op (.bin .sub (.t 28) (.c (.int .i64 1))),none⟩,[]),(⟨some 30,.op (.idxAddr 3 (.t 27) (.t 29)),none⟩,[]),(⟨some 31,.op (.fieldAddr 0 (.t 30)),none⟩,[]),(⟨some 32,.op (.ld1 (.t 31)),none⟩,[]),(⟨some 33,.op (.minmax true (.t 25) (.t 32)),none⟩,[]),(⟨some 34,.op (.fieldAddr 1 (.t 3)),none⟩,[]),(⟨none,.op (.st 1 (.t 34) (.t 33)),none⟩,[])]) (.skip)))) (.seq (.reg [3,6,8] [
 ⟨some 8,.op (.mv (.c (.nilsl))),none⟩]) (.seq (.seq (.reg [3,6,8,36,37,38] [
 ⟨some 35,.op (.fieldAddr 3 (.t 3)),none⟩,⟨some 36,.op (.ld1 (.t 35)),none⟩,⟨some 37,.op (.len 1 (.t 36)),none⟩,⟨some 38,.op (.mv (.c (.int .i64 0))),none⟩]) (.block 0 (.loop [3,6,8,36,37,38] (.seq (.reg [3,6,8,36,37,38,39] [
 ⟨some 39,.op (.bin .lss (.t 38) (.t 37)),none⟩]) (.seq (.cond (.t 39) (.skip) (.exit 0)) (.seq (.block 1 (.seq (.reg [3,6,8,9,10,36,37,38] [
 ⟨some 40,.op (.mv (.t 38)),none⟩,⟨some 41,.op (.idxAddr 5 (.t 36) (.t 38)),none⟩,⟨some 42,.op (.ldn 5 (.t 41)),none⟩,⟨some 10,.op (.alloc [.str ⟨#[]⟩,.int .u8 0,.int .u64 0,.int .u64 0,.nilsl]),none⟩,⟨some 9,.op (.mv (.t 40)),none⟩,⟨none,.op (.st 5 (.t 10) (.t 42)),none⟩]) (.seq (.reg [3,6,8,9,10,36,37,38,44] [
 ⟨some 43,.op (.mv (.t 9)),none⟩,⟨some 44,.op (.bin .lss (.t 43) (.c (.int .i64 2))),none⟩]) (.cond (.t 44) (.dreg [3,6,8,36,37,38] [
 (⟨some 45,.op (.mv (.t 8)),none⟩,[]),(⟨some 46,.op (.mv (.t 9)),none⟩,[]),(⟨some 47,.op (.bin .add (.c (.int .i64 97)) (.t 46)),none⟩,[]),(⟨some 48,.op (.toInt .u8 (.t 47)),none⟩,[]),(⟨some 49,.op (.buildSl 1 [.int .u8 0] 1 [(0,(.t 48))]),none⟩,[]),(⟨some 50,.op (.bytesStr (.t 49)),none⟩,[]),(⟨some 51,.op (.fieldAddr 1 (.t 10)),none⟩,[]),(⟨some 52,.op (.ld1 (.t 51)),none⟩,[]),(⟨some 53,.op (.bin .rem (.t 52) (.c (.int .u8 4))),none⟩,[]),(⟨some 54,.op (.bin .add (.c (.int .u8 1)) (.t 53)),none⟩,[]),(⟨some 55,.op (.fieldAddr 2 (.t 10)),none⟩,[]),(⟨some 56,.op (.ldn 3 (.t 55)),none⟩,[]),(⟨some 57,.call (.c (.fn 22 [] [])) [(.t 56),(.c (.bool false))],none⟩,[5,7]),(⟨some 58,.op (.build [.str ⟨#[]⟩,.int .u8 0,.int .u64 0,.int .u64 0,.nilsl] [(0,1,(.t 50)),(1,1,(.t 54)),(2,3,(.t 57))]),none⟩,[]),(⟨some 59,.op (.buildSl 5 [.str ⟨#[]⟩,.int .u8 0,.int .u64 0,.int .u64 0,.nilsl] 1 [(0,(.t 58))]),none⟩,[]),(⟨some 60,.op (.append 5 64 (.t 45) (.t 59)),none⟩,[]),(⟨some 8,.op (.mv (.t 60)),none⟩,[])]) (.skip))))) (.reg [3,6,8,36,37,38] [
 ⟨some 61,.op (.bin .add (.t 38) (.c (.int .i64 1))),none⟩,⟨some 38,.op (.mv (.t 61)),none⟩]))))))) (.seq (.reg [3,6,8,11] [
 ⟨some 11,.op (.mv (.c (.nilsl))),none⟩]) (.seq (.seq (.reg [3,6,8,11,63,64,65] [
 ⟨some 62,.op (.fieldAddr 4 (.t 3)),none⟩,⟨some 63,.op (.ld1 (.t 62)),none⟩,⟨some 64,.op (.len 1 (.t 63)),none⟩,⟨some 65,.op (.mv (.c (.int .i64 0))),none⟩]) (.block 2 (.loop [3,6,8,11,63,64,65] (.seq (.reg [3,6,8,11,63,64,65,66] [
 ⟨some 66,.op (.bin .lss (.t 65) (.t 64)),none⟩]) (.seq (.cond (.t 66) (.skip) (.exit 2)) (.seq (.block 3 (.seq (.reg [3,6,8,11,12,13,63,64,65] [
 ⟨some 67,.op (.mv (.t 65)),none⟩,⟨some 68,.op (.idxAddr 5 (.t 63) (.t 65)),none⟩,⟨some 69,.op (.ldn 5 (.t 68)),none⟩,⟨some 13,.op (.alloc [.str ⟨#[]⟩,.int .u64 0,.int .u64 0,.int .u64 0,.int .u64 0]),none⟩,⟨some 12,.op (.mv (.t 67)),none⟩,⟨none,.op (.st 5 (.t 13) (.t 69)),none⟩]) (.seq (.reg [3,6,8,11,12,13,63,64,65,71] [
 ⟨some 70,.op (.mv (.t 12)),none⟩,⟨some 71,.op (.bin .lss (.t 70) (.c (.int .i64 16))),none⟩]) (.cond (.t 71) (.seq (.reg [3,6,8,11,12,13,14,63,64,65] [
 ⟨some 72,.op (.fieldAddr 2 (.t 13)),none⟩,⟨some 73,.op (.ld1 (.t 72)),none⟩,⟨some 74,.op (.bin .rem (.t 73) (.c (.int .u64 100))),none⟩,⟨some 75,.op (.bin .add (.c (.int .u64 1)) (.t 74)),none⟩,⟨some 14,.op (.mv (.t 75)),none⟩]) (.reg [3,6,8,11,63,64,65] [
 ⟨some 76,.op (.mv (.t 11)),none⟩,⟨some 77,.op (.mv (.t 12)),none⟩,⟨some 78,.op (.bin .add (.c (.int .i64 97)) (.t 77)),none⟩,⟨some 79,.op (.toInt .u8 (.t 78)),none⟩,⟨some 80,.op (.buildSl 1 [.int .u8 0] 1 [(0,(.t 79))]),none⟩,⟨some 81,.op (.bytesStr (.t 80)),none⟩,⟨some 82,.op (.bin .add (.c (.str ⟨#[112]⟩)) (.t 81)),none⟩,⟨some 83,.op (.mv (.t 14)),none⟩,⟨some 84,.op (.mv (.t 14)),none⟩,⟨some 85,.op (.fieldAddr 3 (.t 13)),none⟩,⟨some 86,.op (.ldn 2 (.t 85)),none⟩,⟨some 87,.op (.build [.str ⟨#[]⟩,.int .u64 0,.int .u64 0,.int .u64 0,.int .u64 0] [(0,1,(.t 82)),(1,1,(.t 83)),(2,1,(.t 84)),(3,2,(.t 86))]),none⟩,⟨some 88,.op (.buildSl 5 [.str ⟨#[]⟩,.int .u64 0,.int .u64 0,.int .u64 0,.int .u64 0] 1 [(0,(.t 87))]),none⟩,⟨some 89,.op (.append 5 48 (.t 76) (.t 88)),none⟩,⟨some 11,.op (.mv (.t 89)),none⟩])) (.skip))))) (.reg [3,6,8,11,63,64,65] [
 ⟨some 90,.op (.bin .add (.t 65) (.c (.int .i64 1))),none⟩,⟨some 65,.op (.mv (.t 90)),none⟩]))))))) (.seq (.reg [3,6] [
 ⟨some 91,.op (.mv (.t 8)),none⟩,⟨some 92,.op (.mv (.t 11)),none⟩,⟨some 93,.op (.fieldAddr 3 (.t 3)),none⟩,⟨none,.op (.st 1 (.t 93) (.t 91)),none⟩,⟨some 94,.op (.fieldAddr 4 (.t 3)),none⟩,⟨none,.op (.st 1 (.t 94) (.t 92)),none⟩]) (.seq (.reg [6] [
 ⟨some 95,.op (.ldn 5 (.t 3)),none⟩,⟨none,.op (.st 5 (.t 6) (.t 95)),none⟩]) (.ret)))))))))
theorem cf7 : compF Tryz.prog Tryz.f7 h7 = some (ac7,rs7) := by kernel_rfl
/-! mailcoach/mailcoachlaw21.turned params 3 -/
def h8 : Hints := ⟨[(9,[6]),(4,[1,2,7,8]),(7,[1,2,7,8]),(8,[1,2,7,8]),(6,[1,2,7,8,9,49]),(5,[1,2,7,8,9]),(3,[1,2,7,8,31]),(2,[1,2,7,8]),(1,[1,2,7]),(0,[0,1,2])],[(3,[1,2,7,8])],[(7,[(0,[]),(1,[]),(2,[]),(3,[]),(4,[]),(5,[]),(6,[]),(7,[]),(8,[]),(9,[])]),(8,[(0,[]),(1,[]),(2,[]),(3,[]),(4,[]),(5,[]),(6,[]),(7,[]),(8,[]),(9,[]),(10,[]),(11,[]),(12,[])])]⟩
def rs8 : List ARes := [.t 6]
def ac8 : ACode :=
 .seq (.reg [0,1,2] [
 ⟨some 6,.op (.mv (.c (.nilsl))),none⟩]) (.seq (.reg [1,2,7] [
 ⟨some 10,.op (.buildSl 1 [.int .u8 0] 0 []),none⟩,⟨some 11,.op (.mv (.t 0)),none⟩,⟨some 12,.op (.append 1 1 (.t 10) (.t 11)),none⟩,⟨some 7,.op (.mv (.t 12)),none⟩]) (.seq (.seq (.reg [1,2,7,8] [
 ⟨some 8,.op (.mv (.c (.int .i64 0))),none⟩]) (.block 0 (.loop [1,2,7,8] (.seq (.seq (.reg [1,2,7,8,31] [
 ⟨some 13,.op (.mv (.t 8)),none⟩,⟨some 14,.op (.mv (.t 1)),none⟩,⟨some 15,.op (.len 1 (.t 14)),none⟩,⟨some 16,.op (.bin .lss (.t 13) (.t 15)),none⟩,⟨some 17,.op (.mv (.t 16)),none⟩,⟨some 18,.op (.mv (.t 8)),some (17,true)⟩,⟨some 19,.op (.mv (.t 2)),some (17,true)⟩,⟨some 20,.op (.len 1 (.t 19)),some (17,true)⟩,⟨some 21,.op (.bin .lss (.t 18) (.t 20)),some (17,true)⟩,⟨some 22,.pick (.t 17) (.t 21) (.c (.bool false)),none⟩,⟨some 23,.op (.mv (.t 22)),none⟩,⟨some 24,.op (.mv (.t 8)),some (23,true)⟩,⟨some 25,.op (.bin .lss (.t 24) (.c (.int .i64 4))),some (23,true)⟩,⟨some 26,.pick (.t 23) (.t 25) (.c (.bool false)),none⟩,⟨some 27,.op (.mv (.t 26)),none⟩,⟨some 28,.op (.mv (.t 7)),some (27,true)⟩,⟨some 29,.op (.len 1 (.t 28)),some (27,true)⟩,⟨some 30,.op (.bin .gtr (.t 29) (.c (.int .i64 0))),some (27,true)⟩,⟨some 31,.pick (.t 27) (.t 30) (.c (.bool false)),none⟩]) (.cond (.t 31) (.skip) (.exit 0))) (.seq (.block 1 (.seq (.reg [1,2,7,8,9] [
 ⟨some 34,.op (.mv (.t 1)),none⟩,⟨some 35,.op (.mv (.t 8)),none⟩,⟨some 36,.op (.idxAddr 1 (.t 34) (.t 35)),none⟩,⟨some 37,.op (.ld1 (.t 36)),none⟩,⟨some 38,.op (.toInt .u64 (.t 37)),none⟩,⟨some 39,.op (.mv (.t 7)),none⟩,⟨some 40,.op (.len 1 (.t 39)),none⟩,⟨some 41,.op (.toInt .u64 (.t 40)),none⟩,⟨some 42,.op (.bin .rem (.t 38) (.t 41)),none⟩,⟨some 43,.op (.toInt .i64 (.t 42)),none⟩,⟨some 9,.op (.mv (.t 43)),none⟩]) (.seq (.reg [1,2,7,8,9,49] [
 ⟨some 44,.op (.mv (.t 2)),none⟩,⟨some 45,.op (.mv (.t 8)),none⟩,⟨some 46,.op (.idxAddr 1 (.t 44) (.t 45)),none⟩,⟨some 47,.op (.ld1 (.t 46)),none⟩,⟨some 48,.op (.bin .rem (.t 47) (.c (.int .u8 9))),none⟩,⟨some 49,.op (.bin .eql (.t 48) (.c (.int .u8 8))),none⟩]) (.cond (.t 49) (.dreg [1,2,7,8] [
 (⟨some 50,.op (.mv (.t 7)),none⟩,[]),(⟨some 51,.op (.mv (.t 9)),none⟩,[]),(⟨some 52,.op (.mv (.t 9)),none⟩,[]),(⟨some 53,.op (.slice 1 (.t 50) none (some (.t 51)) (some (.t 52))),none⟩,[]),(⟨some 54,.op (.mv (.t 7)),none⟩,[]),(⟨some 55,.op (.mv (.t 9)),none⟩,[]),(⟨some 56,.op (.bin .add (.t 55) (.c (.int .i64 1))),none⟩,[]),(⟨some 57,.op (.slice 1 (.t 54) (some (.t 56)) none none),none⟩,[]),(⟨some 58,.op (.append 1 1 (.t 53) (.t 57)),none⟩,[]),(⟨some 7,.op (.mv (.t 58)),none⟩,[])]) (.dreg [1,2,7,8] [
 (⟨some 59,.op (.mv (.t 7)),none⟩,[]),(⟨some 60,.op (.mv (.t 9)),none⟩,[]),(⟨some 61,.op (.idxAddr 1 (.t 59) (.t 60)),none⟩,[]),(⟨some 62,.op (.ld1 (.t 61)),none⟩,[]),(⟨some 63,.op (.mv (.t 2)),none⟩,[]),(⟨some 64,.op (.mv (.t 8)),none⟩,[]),(⟨some 65,.op (.idxAddr 1 (.t 63) (.t 64)),none⟩,[]),(⟨some 66,.op (.ld1 (.t 65)),none⟩,[]),(⟨some 67,.op (.bin .rem (.t 66) (.c (.int .u8 9))),none⟩,[]),(⟨some 68,.op (.bin .shl (.c (.int .u8 1)) (.t 67)),none⟩,[]),(⟨some 69,.op (.bin .xor (.t 62) (.t 68)),none⟩,[]),(⟨some 70,.op (.idxAddr 1 (.t 59) (.t 60)),none⟩,[]),(⟨none,.op (.st 1 (.t 70) (.t 69)),none⟩,[])]))))) (.reg [1,2,7,8] [
 ⟨some 32,.op (.mv (.t 8)),none⟩,⟨some 33,.op (.bin .add (.t 32) (.c (.int .i64 1))),none⟩,⟨some 8,.op (.mv (.t 33)),none⟩])))))) (.seq (.reg [6] [
 ⟨some 71,.op (.mv (.t 7)),none⟩,⟨some 6,.op (.mv (.t 71)),none⟩]) (.ret))))
theorem cf8 : compF Tryz.prog Tryz.f8 h8 = some (ac8,rs8) := by kernel_rfl
/-! mailcoach/codec.Decode params 1 -/
def h9 : Hints := ⟨[(5,[2,3]),(4,[2,3]),(3,[2,4,5,10]),(2,[2,4,5]),(1,[0,2,4]),(0,[0,2])],[],[]⟩
def rs9 : List ARes := [.cn 2 5,.t 3]
def ac9 : ACode :=
 .seq (.reg [0,2] [
 ⟨some 2,.op (.alloc [.int .u64 0,.int .u64 0,.nilsl,.nilsl,.nilsl]),none⟩,⟨some 3,.op (.mv (.c (.int .i64 0))),none⟩]) (.seq (.reg [0,2,4] [
 ⟨some 4,.op (.alloc [.int .u64 0,.int .u64 0,.nilsl,.nilsl,.nilsl]),none⟩]) (.seq (.reg [2,4,5] [
 ⟨some 6,.op (.mv (.t 0)),none⟩,⟨some 7,.op (.mkfn 24 [] [(.t 4)]),none⟩,⟨some 8,.call (.c (.fn 23 [] [])) [(.t 6),(.t 7)],none⟩,⟨some 5,.op (.mv (.t 8)),none⟩]) (.seq (.seq (.reg [2,4,5,10] [
 ⟨some 9,.op (.mv (.t 5)),none⟩,⟨some 10,.op (.bin .neq (.t 9) (.c (.int .i64 0))),none⟩]) (.cond (.t 10) (.seq (.reg [2,3] [
 ⟨some 11,.op (.build [.int .u64 0,.int .u64 0,.nilsl,.nilsl,.nilsl] []),none⟩,⟨some 12,.op (.mv (.t 5)),none⟩,⟨none,.op (.st 5 (.t 2) (.t 11)),none⟩,⟨some 3,.op (.mv (.t 12)),none⟩]) (.ret)) (.skip))) (.seq (.reg [2,3] [
 ⟨some 13,.op (.ldn 5 (.t 4)),none⟩,⟨none,.op (.st 5 (.t 2) (.t 13)),none⟩,⟨some 3,.op (.mv (.c (.int .i64 0))),none⟩]) (.ret)))))
theorem cf9 : compF Tryz.prog Tryz.f9 h9 = some (ac9,rs9) := by kernel_rfl
/-! mailcoach/mailcoachref21.Read params 1 -/
def h10 : Hints := ⟨[(28,[2,3]),(27,[2,3]),(26,[2,5,11,102]),(25,[2,5,11]),(24,[2,4,5]),(23,[2,4,5,96]),(22,[2,4,5]),(17,[2,4,5,6,9]),(21,[2,4,5,6,9]),(20,[2,4,5,6,9,10]),(19,[2,4,5,6,9,10]),(18,[2,4,5,6,9,10]),(16,[2,4,5,6,9,65]),(15,[2,4,5,6,9]),(14,[2,4,5,6]),(8,[2,4,5,6,7]),(13,[2,4,5,6,7]),(12,[2,4,5,6,7,8]),(11,[2,4,5,6,7,8]),(10,[2,4,5,6,7,8]),(9,[2,4,5,6,7,8]),(7,[2,4,5,6,7,34]),(6,[2,4,5,6,7]),(5,[2,4,5,6]),(4,[2,4,5]),(3,[2,4,5]),(2,[2,4,5]),(1,[2,4]),(0,[0,2])],[(16,[2,4,5,6,9]),(7,[2,4,5,6,7])],[]⟩
def rs10 : List ARes := [.cn 2 5,.t 3]
def ac10 : ACode :=
 .seq (.reg [0,2] [
 ⟨some 2,.op (.alloc [.int .u64 0,.int .u64 0,.nilsl,.nilsl,.nilsl]),none⟩,⟨some 3,.op (.mv (.c (.int .i64 0))),none⟩]) (.seq (.reg [2,4] [
 ⟨some 12,.op (.mv (.t 0)),none⟩,⟨some 13,.op (.build [.nilsl,.int .i64 0] [(0,1,(.t 12))]),none⟩,⟨some 14,.op (.box (.t 13)),none⟩,⟨some 4,.op (.mv (.t 14)),none⟩]) (.seq (.reg [2,4,5] [
 ⟨some 15,.op (.build [.int .u64 0,.int .u64 0,.nilsl,.nilsl,.nilsl] []),none⟩,⟨some 5,.op (.alloc [.int .u64 0,.int .u64 0,.nilsl,.nilsl,.nilsl]),none⟩,⟨none,.op (.st 5 (.t 5) (.t 15)),none⟩]) (.seq (.reg [2,4,5] [
 ⟨some 16,.op (.mv (.t 4)),none⟩,⟨some 17,.call (.c (.fn 34 [] [])) [(.t 16),(.c (.int .i64 8))],none⟩,⟨some 18,.op (.fieldAddr 0 (.t 5)),none⟩,⟨none,.op (.st 1 (.t 18) (.t 17)),none⟩]) (.seq (.reg [2,4,5] [
 ⟨some 19,.op (.mv (.t 4)),none⟩,⟨some 20,.call (.c (.fn 34 [] [])) [(.t 19),(.c (.int .i64 8))],none⟩,⟨some 21,.op (.fieldAddr 1 (.t 5)),none⟩,⟨none,.op (.st 1 (.t 21) (.t 20)),none⟩]) (.seq (.reg [2,4,5,6] [
 ⟨some 22,.op (.mv (.t 4)),none⟩,⟨some 23,.call (.c (.fn 34 [] [])) [(.t 22),(.c (.int .i64 1))],none⟩,⟨some 24,.op (.toInt .i64 (.t 23)),none⟩,⟨some 6,.op (.mv (.t 24)),none⟩]) (.seq (.seq (.reg [2,4,5,6,7] [
 ⟨some 7,.op (.mv (.c (.int .i64 0))),none⟩]) (.block 0 (.loop [2,4,5,6,7] (.seq (.seq (.reg [2,4,5,6,7,34] [
 ⟨some 25,.op (.mv (.t 7)),none⟩,⟨some 26,.op (.mv (.t 6)),none⟩,⟨some 27,.op (.bin .lss (.t 25) (.t 26)),none⟩,⟨some 28,.op (.mv (.t 27)),none⟩,⟨some 29,.op (.mv (.t 4)),some (28,true)⟩,⟨some 30,.op (.nilCheck (.t 29)),some (28,true)⟩,⟨some 31,.op (.fieldAddr 1 (.t 30)),some (28,true)⟩,⟨some 32,.op (.ld1 (.t 31)),some (28,true)⟩,⟨some 33,.op (.bin .eql (.t 32) (.c (.int .i64 0))),some (28,true)⟩,⟨some 34,.pick (.t 28) (.t 33) (.c (.bool false)),none⟩]) (.cond (.t 34) (.skip) (.exit 0))) (.seq (.block 1 (.seq (.reg [2,4,5,6,7,8] [
 ⟨some 37,.op (.build [.int .u64 0,.bool false,.int .u64 0] []),none⟩,⟨some 8,.op (.alloc [.int .u64 0,.bool false,.int .u64 0]),none⟩,⟨none,.op (.st 3 (.t 8) (.t 37)),none⟩]) (.seq (.reg [2,4,5,6,7,8] [
 ⟨some 38,.op (.mv (.t 4)),none⟩,⟨some 39,.call (.c (.fn 34 [] [])) [(.t 38),(.c (.int .i64 8))],none⟩,⟨some 40,.op (.fieldAddr 0 (.t 8)),none⟩,⟨none,.op (.st 1 (.t 40) (.t 39)),none⟩]) (.seq (.reg [2,4,5,6,7,8] [
 ⟨some 41,.op (.mv (.t 4)),none⟩,⟨some 42,.call (.c (.fn 35 [] [])) [(.t 41)],none⟩,⟨some 43,.op (.fieldAddr 1 (.t 8)),none⟩,⟨none,.op (.st 1 (.t 43) (.t 42)),none⟩]) (.seq (.reg [2,4,5,6,7,8] [
 ⟨some 44,.op (.mv (.t 4)),none⟩,⟨some 45,.call (.c (.fn 34 [] [])) [(.t 44),(.c (.int .i64 8))],none⟩,⟨some 46,.op (.fieldAddr 2 (.t 8)),none⟩,⟨none,.op (.st 1 (.t 46) (.t 45)),none⟩]) (.reg [2,4,5,6,7] [
 ⟨some 47,.op (.fieldAddr 2 (.t 5)),none⟩,⟨some 48,.op (.ld1 (.t 47)),none⟩,⟨some 49,.op (.ldn 3 (.t 8)),none⟩,⟨some 50,.op (.buildSl 3 [.int .u64 0,.bool false,.int .u64 0] 1 [(0,(.t 49))]),none⟩,⟨some 51,.op (.append 3 24 (.t 48) (.t 50)),none⟩,⟨some 52,.op (.fieldAddr 2 (.t 5)),none⟩,⟨none,.op (.st 1 (.t 52) (.t 51)),none⟩])))))) (.reg [2,4,5,6,7] [
 ⟨some 35,.op (.mv (.t 7)),none⟩,⟨some 36,.op (.bin .add (.t 35) (.c (.int .i64 1))),none⟩,⟨some 7,.op (.mv (.t 36)),none⟩])))))) (.seq (.reg [2,4,5,6] [
 ⟨some 53,.op (.mv (.t 4)),none⟩,⟨some 54,.call (.c (.fn 34 [] [])) [(.t 53),(.c (.int .i64 1))],none⟩,⟨some 55,.op (.toInt .i64 (.t 54)),none⟩,⟨some 6,.op (.mv (.t 55)),none⟩]) (.seq (.seq (.reg [2,4,5,6,9] [
 ⟨some 9,.op (.mv (.c (.int .i64 0))),none⟩]) (.block 2 (.loop [2,4,5,6,9] (.seq (.seq (.reg [2,4,5,6,9,65] [
 ⟨some 56,.op (.mv (.t 9)),none⟩,⟨some 57,.op (.mv (.t 6)),none⟩,⟨some 58,.op (.bin .lss (.t 56) (.t 57)),none⟩,⟨some 59,.op (.mv (.t 58)),none⟩,⟨some 60,.op (.mv (.t 4)),some (59,true)⟩,⟨some 61,.op (.nilCheck (.t 60)),some (59,true)⟩,⟨some 62,.op (.fieldAddr 1 (.t 61)),some (59,true)⟩,⟨some 63,.op (.ld1 (.t 62)),some (59,true)⟩,⟨some 64,.op (.bin .eql (.t 63) (.c (.int .i64 0))),some (59,true)⟩,⟨some 65,.pick (.t 59) (.t 64) (.c (.bool false)),none⟩]) (.cond (.t 65) (.skip) (.exit 2))) (.seq (.block 3 (.seq (.reg [2,4,5,6,9,10] [
 ⟨some 68,.op (.mv (.t 4)),none⟩,⟨some 69,.call (.c (.fn 36 [] [])) [(.t 68)],none⟩,⟨some 70,.op (.build [.str ⟨#[]⟩,.int .u8 0,.int .u64 0,.int .u64 0,.nilsl] [(0,1,(.t 69))]),none⟩,⟨some 10,.op (.alloc [.str ⟨#[]⟩,.int .u8 0,.int .u64 0,.int .u64 0,.nilsl]),none⟩,⟨none,.op (.st 5 (.t 10) (.t 70)),none⟩]) (.seq (.reg [2,4,5,6,9,10] [
 ⟨some 71,.op (.mv (.t 4)),none⟩,⟨some 72,.call (.c (.fn 34 [] [])) [(.t 71),(.c (.int .i64 1))],none⟩,⟨some 73,.op (.toInt .u8 (.t 72)),none⟩,⟨some 74,.op (.fieldAddr 1 (.t 10)),none⟩,⟨none,.op (.st 1 (.t 74) (.t 73)),none⟩]) (.seq (.reg [2,4,5,6,9,10] [
 ⟨some 75,.op (.mv (.t 4)),none⟩,⟨some 76,.call (.c (.fn 37 [] [])) [(.t 75)],none⟩,⟨some 77,.op (.fieldAddr 2 (.t 10)),none⟩,⟨none,.op (.st 3 (.t 77) (.t 76)),none⟩]) (.reg [2,4,5,6,9] [
 ⟨some 78,.op (.fieldAddr 3 (.t 5)),none⟩,⟨some 79,.op (.ld1 (.t 78)),none⟩,⟨some 80,.op (.ldn 5 (.t 10)),none⟩,⟨some 81,.op (.buildSl 5 [.str ⟨#[]⟩,.int .u8 0,.int .u64 0,.int .u64 0,.nilsl] 1 [(0,(.t 80))]),none⟩,⟨some 82,.op (.append 5 64 (.t 79) (.t 81)),none⟩,⟨some 83,.op (.fieldAddr 3 (.t 5)),none⟩,⟨none,.op (.st 1 (.t 83) (.t 82)),none⟩]))))) (.reg [2,4,5,6,9] [
 ⟨some 66,.op (.mv (.t 9)),none⟩,⟨some 67,.op (.bin .add (.t 66) (.c (.int .i64 1))),none⟩,⟨some 9,.op (.mv (.t 67)),none⟩])))))) (.seq (.reg [2,4,5] [
 ⟨some 84,.op (.mv (.t 4)),none⟩,⟨some 85,.call (.c (.fn 38 [] [])) [(.t 84)],none⟩,⟨some 86,.op (.fieldAddr 4 (.t 5)),none⟩,⟨none,.op (.st 1 (.t 86) (.t 85)),none⟩]) (.seq (.seq (.reg [2,4,5,96] [
 ⟨some 87,.op (.mv (.t 4)),none⟩,⟨some 88,.op (.nilCheck (.t 87)),none⟩,⟨some 89,.op (.fieldAddr 1 (.t 88)),none⟩,⟨some 90,.op (.ld1 (.t 89)),none⟩,⟨some 91,.op (.bin .eql (.t 90) (.c (.int .i64 0))),none⟩,⟨some 92,.op (.mv (.t 91)),none⟩,⟨some 93,.op (.ldn 5 (.t 5)),some (92,true)⟩,⟨some 94,.call (.c (.fn 15 [] [])) [(.t 93)],some (92,true)⟩,⟨some 95,.op (.un .not (.t 94)),some (92,true)⟩,⟨some 96,.pick (.t 92) (.t 95) (.c (.bool false)),none⟩]) (.cond (.t 96) (.reg [2,4,5] [
 ⟨some 97,.op (.mv (.t 4)),none⟩,⟨some 98,.call (.c (.fn 39 [] [])) [(.t 97),(.c (.int .i64 23))],none⟩]) (.skip))) (.seq (.seq (.reg [2,5,11] [
 ⟨some 99,.op (.mv (.t 4)),none⟩,⟨some 100,.call (.c (.fn 40 [] [])) [(.t 99)],none⟩,⟨some 11,.op (.mv (.t 100)),none⟩]) (.seq (.reg [2,5,11,102] [
 ⟨some 101,.op (.mv (.t 11)),none⟩,⟨some 102,.op (.bin .neq (.t 101) (.c (.int .i64 0))),none⟩]) (.cond (.t 102) (.seq (.reg [2,3] [
 ⟨some 103,.op (.build [.int .u64 0,.int .u64 0,.nilsl,.nilsl,.nilsl] []),none⟩,⟨some 104,.op (.mv (.t 11)),none⟩,⟨none,.op (.st 5 (.t 2) (.t 103)),none⟩,⟨some 3,.op (.mv (.t 104)),none⟩]) (.ret)) (.skip)))) (.seq (.reg [2,3] [
 ⟨some 105,.op (.ldn 5 (.t 5)),none⟩,⟨none,.op (.st 5 (.t 2) (.t 105)),none⟩,⟨some 3,.op (.mv (.c (.int .i64 0))),none⟩]) (.ret)))))))))))))
theorem cf10 : compF Tryz.prog Tryz.f10 h10 = some (ac10,rs10) := by kernel_rfl
/-! mailcoach/mailcoachref21.Same params 2 -/
def h11 : Hints := ⟨[(8,[4]),(5,[2,3,5]),(7,[4]),(6,[2,3,5,93]),(4,[2,3,5,47]),(3,[2,3,5]),(2,[4]),(1,[2,3,42]),(0,[2,3])],[(4,[2,3,5])],[(6,[(0,[]),(1,[]),(2,[]),(3,[]),(4,[]),(5,[]),(6,[]),(7,[]),(8,[]),(9,[]),(10,[]),(11,[]),(12,[]),(13,[]),(14,[]),(15,[]),(16,[]),(17,[]),(18,[]),(19,[]),(20,[]),(21,[]),(22,[]),(23,[]),(24,[]),(25,[]),(26,[]),(27,[]),(28,[]),(29,[]),(30,[]),(31,[]),(32,[]),(33,[]),(34,[]),(35,[]),(36,[]),(37,[]),(38,[]),(39,[]),(40,[]),(41,[]),(42,[]),(43,[])])]⟩
def rs11 : List ARes := [.t 4]
def ac11 : ACode :=
 .seq (.reg [2,3] [
 ⟨some 2,.op (.box (.t 0)),none⟩,⟨some 3,.op (.box (.t 1)),none⟩,⟨some 4,.op (.mv (.c (.bool false))),none⟩]) (.seq (.seq (.reg [2,3,42] [
 ⟨some 6,.op (.fieldAddr 0 (.t 2)),none⟩,⟨some 7,.op (.ld1 (.t 6)),none⟩,⟨some 8,.op (.fieldAddr 0 (.t 3)),none⟩,⟨some 9,.op (.ld1 (.t 8)),none⟩,⟨some 10,.op (.bin .neq (.t 7) (.t 9)),none⟩,⟨some 11,.op (.mv (.t 10)),none⟩,⟨some 12,.op (.fieldAddr 1 (.t 2)),some (11,false)⟩,⟨some 13,.op (.ld1 (.t 12)),some (11,false)⟩,⟨some 14,.op (.fieldAddr 1 (.t 3)),some (11,false)⟩,⟨some 15,.op (.ld1 (.t 14)),some (11,false)⟩,⟨some 16,.op (.bin .neq (.t 13) (.t 15)),some (11,false)⟩,⟨some 17,.pick (.t 11) (.c (.bool true)) (.t 16),none⟩,⟨some 18,.op (.mv (.t 17)),none⟩,⟨some 19,.op (.fieldAddr 2 (.t 2)),some (18,false)⟩,⟨some 20,.op (.ld1 (.t 19)),some (18,false)⟩,⟨some 21,.op (.fieldAddr 2 (.t 3)),some (18,false)⟩,⟨some 22,.op (.ld1 (.t 21)),some (18,false)⟩,⟨some 23,.call (.c (.fn 41 [] [])) [(.t 20),(.t 22)],some (18,false)⟩,⟨some 24,.op (.un .not (.t 23)),some (18,false)⟩,⟨some 25,.pick (.t 18) (.c (.bool true)) (.t 24),none⟩,⟨some 26,.op (.mv (.t 25)),none⟩,⟨some 27,.op (.fieldAddr 3 (.t 2)),some (26,false)⟩,⟨some 28,.op (.ld1 (.t 27)),some (26,false)⟩,⟨some 29,.op (.len 1 (.t 28)),some (26,false)⟩,⟨some 30,.op (.fieldAddr 3 (.t 3)),some (26,false)⟩,⟨some 31,.op (.ld1 (.t 30)),some (26,false)⟩,⟨some 32,.op (.len 1 (.t 31)),some (26,false)⟩,⟨some 33,.op (.bin .neq (.t 29) (.t 32)),some (26,false)⟩,⟨some 34,.pick (.t 26) (.c (.bool true)) (.t 33),none⟩,⟨some 35,.op (.mv (.t 34)),none⟩,⟨some 36,.op (.fieldAddr 4 (.t 2)),some (35,false)⟩,⟨some 37,.op (.ld1 (.t 36)),some (35,false)⟩,⟨some 38,.op (.fieldAddr 4 (.t 3)),some (35,false)⟩,⟨some 39,.op (.ld1 (.t 38)),some (35,false)⟩,⟨some 40,.call (.c (.fn 42 [] [])) [(.t 37),(.t 39)],some (35,false)⟩,⟨some 41,.op (.un .not (.t 40)),some (35,false)⟩,⟨some 42,.pick (.t 35) (.c (.bool true)) (.t 41),none⟩]) (.cond (.t 42) (.seq (.reg [4] [
 ⟨some 4,.op (.mv (.c (.bool false))),none⟩]) (.ret)) (.skip))) (.seq (.seq (.reg [2,3,5] [
 ⟨some 5,.op (.mv (.c (.int .i64 0))),none⟩]) (.block 0 (.loop [2,3,5] (.seq (.seq (.reg [2,3,5,47] [
 ⟨some 43,.op (.mv (.t 5)),none⟩,⟨some 44,.op (.fieldAddr 3 (.t 2)),none⟩,⟨some 45,.op (.ld1 (.t 44)),none⟩,⟨some 46,.op (.len 1 (.t 45)),none⟩,⟨some 47,.op (.bin .lss (.t 43) (.t 46)),none⟩]) (.cond (.t 47) (.skip) (.exit 0))) (.seq (.block 1 (.seq (.dreg [2,3,5,93] [
 (⟨some 50,.op (.fieldAddr 3 (.t 2)),none⟩,[]),(⟨some 51,.op (.ld1 (.t 50)),none⟩,[]),(⟨some 52,.op (.mv (.t 5)),none⟩,[]),(⟨some 53,.op (.idxAddr 5 (.t 51) (.t 52)),none⟩,[]),(⟨some 54,.op (.fieldAddr 0 (.t 53)),none⟩,[]),(⟨some 55,.op (.ld1 (.t 54)),none⟩,[]),(⟨some 56,.op (.fieldAddr 3 (.t 3)),none⟩,[]),(⟨some 57,.op (.ld1 (.t 56)),none⟩,[]),(⟨some 58,.op (.mv (.t 5)),none⟩,[]),(⟨some 59,.op (.idxAddr 5 (.t 57) (.t 58)),none⟩,[]),(⟨some 60,.op (.fieldAddr 0 (.t 59)),none⟩,[]),(⟨some 61,.op (.ld1 (.t 60)),none⟩,[]),(⟨some 62,.op (.bin .neq (.t 55) (.t 61)),none⟩,[]),(⟨some 63,.op (.mv (.t 62)),none⟩,[]),(⟨some 64,.op (.fieldAddr 3 (.t 2)),some (63,false)⟩,[]),(⟨some 65,.op (.ld1 (.t 64)),some (63,false)⟩,[]),(⟨some 66,.op (.mv (.t 5)),some (63,false)⟩,[]),(⟨some 67,.op (.idxAddr 5 (.t 65) (.t 66)),some (63,false)⟩,[]),(⟨some 68,.op (.fieldAddr 1 (.t 67)),some (63,false)⟩,[]),(⟨some 69,.op (.ld1 (.t 68)),some (63,false)⟩,[]),(⟨some 70,.op (.fieldAddr 3 (.t 3)),some (63,false)⟩,[]),(⟨some 71,.op (.ld1 (.t 70)),some (63,false)⟩,[]),(⟨some 72,.op (.mv (.t 5)),some (63,false)⟩,[]),(⟨some 73,.op (.idxAddr 5 (.t 71) (.t 72)),some (63,false)⟩,[]),(⟨some 74,.op (.fieldAddr 1 (.t 73)),some (63,false)⟩,[]),(⟨some 75,.op (.ld1 (.t 74)),some (63,false)⟩,[]),(⟨some 76,.op (.bin .neq (.t 69) (.t 75)),some (63,false)⟩,[]),(⟨some 77,.pick (.t 63) (.c (.bool true)) (.t 76),none⟩,[]),(⟨some 78,.op (.mv (.t 77)),none⟩,[]),(⟨some 79,.op (.fieldAddr 3 (.t 2)),some (78,false)⟩,[]),(⟨some 80,.op (.ld1 (.t 79)),some (78,false)⟩,[]),(⟨some 81,.op (.mv (.t 5)),some (78,false)⟩,[]),(⟨some 82,.op (.idxAddr 5 (.t 80) (.t 81)),some (78,false)⟩,[]),(⟨some 83,.op (.fieldAddr 2 (.t 82)),some (78,false)⟩,[]),(⟨some 84,.op (.ldn 3 (.t 83)),some (78,false)⟩,[]),(⟨some 85,.op (.fieldAddr 3 (.t 3)),some (78,false)⟩,[]),(⟨some 86,.op (.ld1 (.t 85)),some (78,false)⟩,[]),(⟨some 87,.op (.mv (.t 5)),some (78,false)⟩,[]),(⟨some 88,.op (.idxAddr 5 (.t 86) (.t 87)),some (78,false)⟩,[]),(⟨some 89,.op (.fieldAddr 2 (.t 88)),some (78,false)⟩,[]),(⟨some 90,.op (.ldn 3 (.t 89)),some (78,false)⟩,[]),(⟨some 91,.call (.c (.fn 43 [] [])) [(.t 84),(.t 90)],some (78,false)⟩,[]),(⟨some 92,.op (.un .not (.t 91)),some (78,false)⟩,[]),(⟨some 93,.pick (.t 78) (.c (.bool true)) (.t 92),none⟩,[])]) (.cond (.t 93) (.seq (.reg [4] [
 ⟨some 4,.op (.mv (.c (.bool false))),none⟩]) (.ret)) (.skip)))) (.reg [2,3,5] [
 ⟨some 48,.op (.mv (.t 5)),none⟩,⟨some 49,.op (.bin .add (.t 48) (.c (.int .i64 1))),none⟩,⟨some 5,.op (.mv (.t 49)),none⟩])))))) (.seq (.reg [4] [
 ⟨some 4,.op (.mv (.c (.bool true))),none⟩]) (.ret))))
theorem cf11 : compF Tryz.prog Tryz.f11 h11 = some (ac11,rs11) := by kernel_rfl
/-! mailcoach/codec.Encode params 1 -/
def h12 : Hints := ⟨[(26,[2,3]),(25,[2,3]),(24,[11,94]),(23,[11]),(22,[6]),(21,[4,6,68,69,70]),(20,[4,6,68,69,70]),(19,[4,6,10,68,69,70]),(18,[4,6,10,68,69,70]),(17,[4,6,10,68,69,70]),(16,[4,6,68,69,70,71]),(15,[4,6,68,69,70]),(14,[1,4,6]),(13,[1,4,6,41,42,43]),(12,[1,4,6,41,42,43]),(11,[1,4,6,8,41,42,43]),(10,[1,4,6,8,41,42,43]),(9,[1,4,6,8,41,42,43]),(8,[1,4,6,41,42,43,44]),(7,[1,4,6,41,42,43]),(6,[1,4,6]),(5,[1,4,6]),(4,[1,4,6]),(3,[2,3]),(2,[1,4,24]),(1,[1,4,5]),(0,[1])],[(16,[4,6,68,69,70]),(8,[1,4,6,41,42,43])],[]⟩
def rs12 : List ARes := [.t 2,.t 3]
def ac12 : ACode :=
 .seq (.reg [1] [
 ⟨some 1,.op (.box (.t 0)),none⟩,⟨some 2,.op (.mv (.c (.nilsl))),none⟩,⟨some 3,.op (.mv (.c (.int .i64 0))),none⟩]) (.seq (.reg [1,4,5] [
 ⟨some 13,.op (.fieldAddr 4 (.t 1)),none⟩,⟨some 14,.op (.ld1 (.t 13)),none⟩,⟨some 15,.call (.c (.fn 44 [] [])) [(.t 14)],none⟩,⟨some 12,.op (.mv (.t 15)),none⟩,⟨some 16,.op (.extract (.t 12) 0),none⟩,⟨some 17,.op (.extract (.t 12) 1),none⟩,⟨some 4,.op (.mv (.t 16)),none⟩,⟨some 5,.op (.mv (.t 17)),none⟩]) (.seq (.seq (.reg [1,4,24] [
 ⟨some 18,.op (.mv (.t 5)),none⟩,⟨some 19,.op (.un .not (.t 18)),none⟩,⟨some 20,.op (.mv (.t 19)),none⟩,⟨some 21,.op (.ldn 5 (.t 1)),some (20,false)⟩,⟨some 22,.call (.c (.fn 32 [] [])) [(.t 21)],some (20,false)⟩,⟨some 23,.op (.un .not (.t 22)),some (20,false)⟩,⟨some 24,.pick (.t 20) (.c (.bool true)) (.t 23),none⟩]) (.cond (.t 24) (.seq (.reg [2,3] [
 ⟨some 2,.op (.mv (.c (.nilsl))),none⟩,⟨some 3,.op (.mv (.c (.int .i64 23))),none⟩]) (.ret)) (.skip))) (.seq (.reg [1,4,6] [
 ⟨some 25,.op (.build [.nilsl] []),none⟩,⟨some 26,.op (.box (.t 25)),none⟩,⟨some 6,.op (.mv (.t 26)),none⟩]) (.seq (.reg [1,4,6] [
 ⟨some 27,.op (.mv (.t 6)),none⟩,⟨some 28,.op (.fieldAddr 0 (.t 1)),none⟩,⟨some 29,.op (.ld1 (.t 28)),none⟩,⟨some 30,.op (.fieldAddr 1 (.t 1)),none⟩,⟨some 31,.op (.ld1 (.t 30)),none⟩,⟨some 32,.op (.buildSl 1 [.int .u64 0] 2 [(0,(.t 29)),(1,(.t 31))]),none⟩,⟨some 33,.call (.c (.fn 45 [] [])) [(.t 27),(.t 32)],none⟩]) (.seq (.reg [1,4,6] [
 ⟨some 34,.op (.mv (.t 6)),none⟩,⟨some 35,.op (.fieldAddr 2 (.t 1)),none⟩,⟨some 36,.op (.ld1 (.t 35)),none⟩,⟨some 37,.op (.len 1 (.t 36)),none⟩,⟨some 38,.op (.toInt .u8 (.t 37)),none⟩,⟨some 39,.call (.c (.fn 46 [] [])) [(.t 34),(.t 38)],none⟩]) (.seq (.seq (.reg [1,4,6,41,42,43] [
 ⟨some 40,.op (.fieldAddr 2 (.t 1)),none⟩,⟨some 41,.op (.ld1 (.t 40)),none⟩,⟨some 42,.op (.len 1 (.t 41)),none⟩,⟨some 43,.op (.mv (.c (.int .i64 0))),none⟩]) (.block 0 (.loop [1,4,6,41,42,43] (.seq (.reg [1,4,6,41,42,43,44] [
 ⟨some 44,.op (.bin .lss (.t 43) (.t 42)),none⟩]) (.seq (.cond (.t 44) (.skip) (.exit 0)) (.seq (.block 1 (.seq (.reg [1,4,6,8,41,42,43] [
 ⟨some 45,.op (.idxAddr 3 (.t 41) (.t 43)),none⟩,⟨some 46,.op (.ldn 3 (.t 45)),none⟩,⟨some 8,.op (.alloc [.int .u64 0,.bool false,.int .u64 0]),none⟩,⟨none,.op (.st 3 (.t 8) (.t 46)),none⟩]) (.seq (.reg [1,4,6,8,41,42,43] [
 ⟨some 47,.op (.mv (.t 6)),none⟩,⟨some 48,.op (.fieldAddr 0 (.t 8)),none⟩,⟨some 49,.op (.ld1 (.t 48)),none⟩,⟨some 50,.call (.c (.fn 47 [] [])) [(.t 47),(.t 49)],none⟩]) (.seq (.reg [1,4,6,8,41,42,43] [
 ⟨some 51,.op (.mv (.t 6)),none⟩,⟨some 52,.op (.fieldAddr 1 (.t 8)),none⟩,⟨some 53,.op (.ld1 (.t 52)),none⟩,⟨some 54,.call (.c (.fn 48 [] [])) [(.t 53)],none⟩,⟨some 55,.call (.c (.fn 46 [] [])) [(.t 51),(.t 54)],none⟩]) (.reg [1,4,6,41,42,43] [
 ⟨some 56,.op (.mv (.t 6)),none⟩,⟨some 57,.op (.fieldAddr 2 (.t 8)),none⟩,⟨some 58,.op (.ld1 (.t 57)),none⟩,⟨some 59,.call (.c (.fn 47 [] [])) [(.t 56),(.t 58)],none⟩]))))) (.reg [1,4,6,41,42,43] [
 ⟨some 60,.op (.bin .add (.t 43) (.c (.int .i64 1))),none⟩,⟨some 43,.op (.mv (.t 60)),none⟩]))))))) (.seq (.reg [1,4,6] [
 ⟨some 61,.op (.mv (.t 6)),none⟩,⟨some 62,.op (.fieldAddr 3 (.t 1)),none⟩,⟨some 63,.op (.ld1 (.t 62)),none⟩,⟨some 64,.op (.len 1 (.t 63)),none⟩,⟨some 65,.op (.toInt .u8 (.t 64)),none⟩,⟨some 66,.call (.c (.fn 46 [] [])) [(.t 61),(.t 65)],none⟩]) (.seq (.seq (.reg [4,6,68,69,70] [
 ⟨some 67,.op (.fieldAddr 3 (.t 1)),none⟩,⟨some 68,.op (.ld1 (.t 67)),none⟩,⟨some 69,.op (.len 1 (.t 68)),none⟩,⟨some 70,.op (.mv (.c (.int .i64 0))),none⟩]) (.block 2 (.loop [4,6,68,69,70] (.seq (.reg [4,6,68,69,70,71] [
 ⟨some 71,.op (.bin .lss (.t 70) (.t 69)),none⟩]) (.seq (.cond (.t 71) (.skip) (.exit 2)) (.seq (.block 3 (.seq (.reg [4,6,10,68,69,70] [
 ⟨some 72,.op (.idxAddr 5 (.t 68) (.t 70)),none⟩,⟨some 73,.op (.ldn 5 (.t 72)),none⟩,⟨some 10,.op (.alloc [.str ⟨#[]⟩,.int .u8 0,.int .u64 0,.int .u64 0,.nilsl]),none⟩,⟨none,.op (.st 5 (.t 10) (.t 73)),none⟩]) (.seq (.reg [4,6,10,68,69,70] [
 ⟨some 74,.op (.mv (.t 6)),none⟩,⟨some 75,.op (.fieldAddr 0 (.t 10)),none⟩,⟨some 76,.op (.ld1 (.t 75)),none⟩,⟨some 77,.call (.c (.fn 49 [] [])) [(.t 74),(.t 76)],none⟩]) (.seq (.reg [4,6,10,68,69,70] [
 ⟨some 78,.op (.mv (.t 6)),none⟩,⟨some 79,.op (.fieldAddr 1 (.t 10)),none⟩,⟨some 80,.op (.ld1 (.t 79)),none⟩,⟨some 81,.call (.c (.fn 46 [] [])) [(.t 78),(.t 80)],none⟩]) (.reg [4,6,68,69,70] [
 ⟨some 82,.op (.mv (.t 6)),none⟩,⟨some 83,.op (.fieldAddr 2 (.t 10)),none⟩,⟨some 84,.op (.ldn 3 (.t 83)),none⟩,⟨some 85,.call (.c (.fn 50 [] [])) [(.t 82),(.t 84)],none⟩]))))) (.reg [4,6,68,69,70] [
 ⟨some 86,.op (.bin .add (.t 70) (.c (.int .i64 1))),none⟩,⟨some 70,.op (.mv (.t 86)),none⟩]))))))) (.seq (.reg [6] [
 ⟨some 87,.op (.mv (.t 4)),none⟩,⟨some 88,.op (.mv (.t 6)),none⟩,⟨some 89,.call (.c (.fn 51 [] [])) [(.t 87),(.t 88)],none⟩]) (.seq (.seq (.reg [11] [
 ⟨some 90,.op (.mv (.t 6)),none⟩,⟨some 91,.call (.c (.fn 52 [] [])) [(.t 90)],none⟩,⟨some 11,.op (.mv (.t 91)),none⟩]) (.seq (.reg [11,94] [
 ⟨some 92,.op (.mv (.t 11)),none⟩,⟨some 93,.op (.len 1 (.t 92)),none⟩,⟨some 94,.op (.bin .leq (.t 93) (.c (.int .i64 3840))),none⟩]) (.cond (.t 94) (.seq (.reg [2,3] [
 ⟨some 95,.op (.mv (.t 11)),none⟩,⟨some 2,.op (.mv (.t 95)),none⟩,⟨some 3,.op (.mv (.c (.int .i64 0))),none⟩]) (.ret)) (.skip)))) (.seq (.reg [2,3] [
 ⟨some 2,.op (.mv (.c (.nilsl))),none⟩,⟨some 3,.op (.mv (.c (.int .i64 3))),none⟩]) (.ret))))))))))))
theorem cf12 : compF Tryz.prog Tryz.f12 h12 = some (ac12,rs12) := by kernel_rfl
/-! mailcoach/codec.Tell params 1 -/
def h13 : Hints := ⟨[(28,[2,3]),(30,[2,3]),(26,[2,3]),(29,[12,105]),(27,[12,90]),(25,[1,12]),(24,[1,4,5,72,73,74]),(23,[1,4,5,72,73,74]),(22,[1,4,5,11,72,73,74]),(21,[1,4,5,11,72,73,74]),(20,[1,4,5,72,73,74,75]),(19,[1,4,5,72,73,74]),(18,[1,4,5]),(17,[1,4,5]),(16,[1,4,5,51,52,53]),(15,[1,4,5,51,52,53]),(14,[1,4,5,9,51,52,53]),(13,[1,4,5,51,52,53,54]),(12,[1,4,5,51,52,53]),(11,[1,4,5,35,36,37]),(10,[1,4,5,35,36,37]),(9,[1,4,5,7,35,36,37]),(8,[1,4,5,35,36,37,38]),(7,[1,4,5,35,36,37]),(6,[1,4,5]),(5,[1,4,5]),(4,[1,4,5]),(3,[1,4,5]),(2,[1,4,5]),(1,[1,4]),(0,[1])],[(20,[1,4,5,72,73,74]),(13,[1,4,5,51,52,53]),(8,[1,4,5,35,36,37])],[]⟩
def rs13 : List ARes := [.t 2,.t 3]
def ac13 : ACode :=
 .seq (.reg [1] [
 ⟨some 1,.op (.box (.t 0)),none⟩,⟨some 2,.op (.mv (.c (.nilsl))),none⟩,⟨some 3,.op (.mv (.c (.int .i64 0))),none⟩]) (.seq (.reg [1,4] [
 ⟨some 13,.op (.build [.nilsl] []),none⟩,⟨some 14,.op (.box (.t 13)),none⟩,⟨some 4,.op (.mv (.t 14)),none⟩]) (.seq (.reg [1,4,5] [
 ⟨some 15,.op (.mv (.t 4)),none⟩,⟨some 16,.op (.mkfn 47 [(.t 15)] []),none⟩,⟨some 5,.op (.mv (.t 16)),none⟩]) (.seq (.reg [1,4,5] [
 ⟨some 17,.op (.mv (.t 4)),none⟩,⟨some 18,.op (.fieldAddr 0 (.t 1)),none⟩,⟨some 19,.op (.ld1 (.t 18)),none⟩,⟨some 20,.call (.c (.fn 46 [] [])) [(.t 17),(.t 19)],none⟩]) (.seq (.reg [1,4,5] [
 ⟨some 21,.op (.mv (.t 4)),none⟩,⟨some 22,.op (.fieldAddr 1 (.t 1)),none⟩,⟨some 23,.op (.ld1 (.t 22)),none⟩,⟨some 24,.call (.c (.fn 46 [] [])) [(.t 21),(.t 23)],none⟩]) (.seq (.reg [1,4,5] [
 ⟨some 25,.op (.mv (.t 4)),none⟩,⟨some 26,.op (.fieldAddr 2 (.t 1)),none⟩,⟨some 27,.op (.ld1 (.t 26)),none⟩,⟨some 28,.call (.c (.fn 48 [] [])) [(.t 27)],none⟩,⟨some 29,.call (.c (.fn 46 [] [])) [(.t 25),(.t 28)],none⟩]) (.seq (.reg [1,4,5] [
 ⟨some 30,.op (.mv (.t 4)),none⟩,⟨some 31,.op (.fieldAddr 3 (.t 1)),none⟩,⟨some 32,.op (.ld1 (.t 31)),none⟩,⟨some 33,.op (.toInt .u8 (.t 32)),none⟩,⟨some 34,.call (.c (.fn 46 [] [])) [(.t 30),(.t 33)],none⟩]) (.seq (.seq (.reg [1,4,5,35,36,37] [
 ⟨some 35,.call (.c (.fn 53 [] [])) [(.t 1)],none⟩,⟨some 36,.op (.len 1 (.t 35)),none⟩,⟨some 37,.op (.mv (.c (.int .i64 0))),none⟩]) (.block 0 (.loop [1,4,5,35,36,37] (.seq (.reg [1,4,5,35,36,37,38] [
 ⟨some 38,.op (.bin .lss (.t 37) (.t 36)),none⟩]) (.seq (.cond (.t 38) (.skip) (.exit 0)) (.seq (.block 1 (.seq (.reg [1,4,5,7,35,36,37] [
 ⟨some 39,.op (.idxAddr 1 (.t 35) (.t 37)),none⟩,⟨some 40,.op (.ld1 (.t 39)),none⟩,⟨some 7,.op (.mv (.t 40)),none⟩]) (.reg [1,4,5,35,36,37] [
 ⟨some 41,.op (.mv (.t 5)),none⟩,⟨some 42,.op (.mv (.t 7)),none⟩,⟨some 43,.op (.nilCheck (.t 42)),none⟩,⟨some 44,.op (.ld1 (.t 43)),none⟩,⟨some 45,.call (.t 41) [(.t 44)],none⟩]))) (.reg [1,4,5,35,36,37] [
 ⟨some 46,.op (.bin .add (.t 37) (.c (.int .i64 1))),none⟩,⟨some 37,.op (.mv (.t 46)),none⟩]))))))) (.seq (.seq (.reg [1,4,5,51,52,53] [
 ⟨some 47,.op (.fieldAddr 11 (.t 1)),none⟩,⟨some 48,.op (.ld1 (.t 47)),none⟩,⟨some 49,.op (.fieldAddr 12 (.t 1)),none⟩,⟨some 50,.op (.ld1 (.t 49)),none⟩,⟨some 51,.op (.buildSl 1 [.str ⟨#[]⟩] 2 [(0,(.t 48)),(1,(.t 50))]),none⟩,⟨some 52,.op (.len 1 (.t 51)),none⟩,⟨some 53,.op (.mv (.c (.int .i64 0))),none⟩]) (.block 2 (.loop [1,4,5,51,52,53] (.seq (.reg [1,4,5,51,52,53,54] [
 ⟨some 54,.op (.bin .lss (.t 53) (.t 52)),none⟩]) (.seq (.cond (.t 54) (.skip) (.exit 2)) (.seq (.block 3 (.seq (.reg [1,4,5,9,51,52,53] [
 ⟨some 55,.op (.idxAddr 1 (.t 51) (.t 53)),none⟩,⟨some 56,.op (.ld1 (.t 55)),none⟩,⟨some 9,.op (.mv (.t 56)),none⟩]) (.reg [1,4,5,51,52,53] [
 ⟨some 57,.op (.mv (.t 4)),none⟩,⟨some 58,.op (.mv (.t 9)),none⟩,⟨some 59,.call (.c (.fn 49 [] [])) [(.t 57),(.t 58)],none⟩]))) (.reg [1,4,5,51,52,53] [
 ⟨some 60,.op (.bin .add (.t 53) (.c (.int .i64 1))),none⟩,⟨some 53,.op (.mv (.t 60)),none⟩]))))))) (.seq (.reg [1,4,5] [
 ⟨some 61,.op (.mv (.t 4)),none⟩,⟨some 62,.op (.fieldAddr 13 (.t 1)),none⟩,⟨some 63,.op (.ld1 (.t 62)),none⟩,⟨some 64,.call (.c (.fn 54 [] [])) [(.t 61),(.t 63)],none⟩]) (.seq (.reg [1,4,5] [
 ⟨some 65,.op (.mv (.t 4)),none⟩,⟨some 66,.op (.fieldAddr 14 (.t 1)),none⟩,⟨some 67,.op (.ld1 (.t 66)),none⟩,⟨some 68,.op (.len 1 (.t 67)),none⟩,⟨some 69,.op (.toInt .u16 (.t 68)),none⟩,⟨some 70,.call (.c (.fn 55 [] [])) [(.t 65),(.t 69)],none⟩]) (.seq (.seq (.reg [1,4,5,72,73,74] [
 ⟨some 71,.op (.fieldAddr 14 (.t 1)),none⟩,⟨some 72,.op (.ld1 (.t 71)),none⟩,⟨some 73,.op (.len 1 (.t 72)),none⟩,⟨some 74,.op (.mv (.c (.int .i64 0))),none⟩]) (.block 4 (.loop [1,4,5,72,73,74] (.seq (.reg [1,4,5,72,73,74,75] [
 ⟨some 75,.op (.bin .lss (.t 74) (.t 73)),none⟩]) (.seq (.cond (.t 75) (.skip) (.exit 4)) (.seq (.block 5 (.seq (.reg [1,4,5,11,72,73,74] [
 ⟨some 76,.op (.idxAddr 2 (.t 72) (.t 74)),none⟩,⟨some 77,.op (.ldn 2 (.t 76)),none⟩,⟨some 11,.op (.alloc [.int .u64 0,.nilsl]),none⟩,⟨none,.op (.st 2 (.t 11) (.t 77)),none⟩]) (.seq (.reg [1,4,5,11,72,73,74] [
 ⟨some 78,.op (.mv (.t 5)),none⟩,⟨some 79,.op (.fieldAddr 0 (.t 11)),none⟩,⟨some 80,.op (.ld1 (.t 79)),none⟩,⟨some 81,.call (.t 78) [(.t 80)],none⟩]) (.reg [1,4,5,72,73,74] [
 ⟨some 82,.op (.mv (.t 4)),none⟩,⟨some 83,.op (.fieldAddr 1 (.t 11)),none⟩,⟨some 84,.op (.ld1 (.t 83)),none⟩,⟨some 85,.call (.c (.fn 54 [] [])) [(.t 82),(.t 84)],none⟩])))) (.reg [1,4,5,72,73,74] [
 ⟨some 86,.op (.bin .add (.t 74) (.c (.int .i64 1))),none⟩,⟨some 74,.op (.mv (.t 86)),none⟩]))))))) (.seq (.reg [1,12] [
 ⟨some 87,.op (.mv (.t 4)),none⟩,⟨some 88,.call (.c (.fn 52 [] [])) [(.t 87)],none⟩,⟨some 12,.op (.mv (.t 88)),none⟩]) (.block 6 (.seq (.reg [12,90] [
 ⟨some 91,.op (.fieldAddr 3 (.t 1)),none⟩,⟨some 92,.op (.ld1 (.t 91)),none⟩,⟨some 93,.op (.bin .lss (.t 92) (.c (.int .i64 0))),none⟩,⟨some 94,.op (.mv (.t 93)),none⟩,⟨some 95,.op (.fieldAddr 3 (.t 1)),some (94,false)⟩,⟨some 96,.op (.ld1 (.t 95)),some (94,false)⟩,⟨some 97,.op (.bin .gtr (.t 96) (.c (.int .i64 255))),some (94,false)⟩,⟨some 98,.pick (.t 94) (.c (.bool true)) (.t 97),none⟩,⟨some 99,.op (.mv (.t 98)),none⟩,⟨some 100,.op (.fieldAddr 14 (.t 1)),some (99,false)⟩,⟨some 101,.op (.ld1 (.t 100)),some (99,false)⟩,⟨some 102,.op (.len 1 (.t 101)),some (99,false)⟩,⟨some 103,.op (.bin .gtr (.t 102) (.c (.int .i64 65535))),some (99,false)⟩,⟨some 104,.pick (.t 99) (.c (.bool true)) (.t 103),none⟩,⟨some 90,.op (.mv (.t 104)),none⟩]) (.cond (.t 90) (.seq (.reg [2,3] [
 ⟨some 2,.op (.mv (.c (.nilsl))),none⟩,⟨some 3,.op (.mv (.c (.int .i64 2))),none⟩]) (.ret)) (.seq (.reg [12,105] [
 ⟨some 106,.op (.mv (.t 12)),none⟩,⟨some 107,.op (.len 1 (.t 106)),none⟩,⟨some 108,.op (.bin .gtr (.t 107) (.c (.int .i64 4096))),none⟩,⟨some 105,.op (.mv (.t 108)),none⟩]) (.cond (.t 105) (.seq (.reg [2,3] [
 ⟨some 2,.op (.mv (.c (.nilsl))),none⟩,⟨some 3,.op (.mv (.c (.int .i64 3))),none⟩]) (.ret)) (.seq (.reg [2,3] [
 ⟨some 89,.op (.mv (.t 12)),none⟩,⟨some 2,.op (.mv (.t 89)),none⟩,⟨some 3,.op (.mv (.c (.int .i64 0))),none⟩]) (.ret)))))))))))))))))))
theorem cf13 : compF Tryz.prog Tryz.f13 h13 = some (ac13,rs13) := by kernel_rfl
/-! mailcoach/codec.Hear params 1 -/
def h14 : Hints := ⟨[(5,[2,3]),(4,[2,3]),(3,[2,4,5,10]),(2,[2,4,5]),(1,[0,2,4]),(0,[0,2])],[],[]⟩
def rs14 : List ARes := [.cn 2 15,.t 3]
def ac14 : ACode :=
 .seq (.reg [0,2] [
 ⟨some 2,.op (.alloc [.int .u8 0,.int .u8 0,.bool false,.int .i64 0,.int .u64 0,.int .u64 0,.int .u64 0,.int .u64 0,.int .u64 0,.int .u64 0,.int .u64 0,.str ⟨#[]⟩,.str ⟨#[]⟩,.nilsl,.nilsl]),none⟩,⟨some 3,.op (.mv (.c (.int .i64 0))),none⟩]) (.seq (.reg [0,2,4] [
 ⟨some 4,.op (.alloc [.int .u8 0,.int .u8 0,.bool false,.int .i64 0,.int .u64 0,.int .u64 0,.int .u64 0,.int .u64 0,.int .u64 0,.int .u64 0,.int .u64 0,.str ⟨#[]⟩,.str ⟨#[]⟩,.nilsl,.nilsl]),none⟩]) (.seq (.reg [2,4,5] [
 ⟨some 6,.op (.mv (.t 0)),none⟩,⟨some 7,.op (.mkfn 56 [] [(.t 4)]),none⟩,⟨some 8,.call (.c (.fn 23 [] [])) [(.t 6),(.t 7)],none⟩,⟨some 5,.op (.mv (.t 8)),none⟩]) (.seq (.seq (.reg [2,4,5,10] [
 ⟨some 9,.op (.mv (.t 5)),none⟩,⟨some 10,.op (.bin .neq (.t 9) (.c (.int .i64 0))),none⟩]) (.cond (.t 10) (.seq (.reg [2,3] [
 ⟨some 11,.op (.build [.int .u8 0,.int .u8 0,.bool false,.int .i64 0,.int .u64 0,.int .u64 0,.int .u64 0,.int .u64 0,.int .u64 0,.int .u64 0,.int .u64 0,.str ⟨#[]⟩,.str ⟨#[]⟩,.nilsl,.nilsl] []),none⟩,⟨some 12,.op (.mv (.t 5)),none⟩,⟨none,.op (.st 15 (.t 2) (.t 11)),none⟩,⟨some 3,.op (.mv (.t 12)),none⟩]) (.ret)) (.skip))) (.seq (.reg [2,3] [
 ⟨some 13,.op (.ldn 15 (.t 4)),none⟩,⟨none,.op (.st 15 (.t 2) (.t 13)),none⟩,⟨some 3,.op (.mv (.c (.int .i64 0))),none⟩]) (.ret)))))
theorem cf14 : compF Tryz.prog Tryz.f14 h14 = some (ac14,rs14) := by kernel_rfl
/-! mailcoach/mailcoachref21.Right params 1 -/
def h15 : Hints := ⟨[(12,[2]),(6,[1,4]),(11,[2]),(10,[1,4,86]),(9,[2]),(8,[1,4,5,72]),(7,[1,4,5]),(5,[1,4,39]),(4,[1,4]),(3,[2]),(2,[1,34]),(1,[1,3]),(0,[1])],[(5,[1,4])],[(2,[(0,[]),(1,[]),(2,[]),(3,[]),(4,[]),(5,[]),(6,[]),(7,[]),(8,[]),(9,[]),(10,[]),(11,[]),(12,[]),(13,[]),(14,[]),(15,[]),(16,[]),(17,[]),(18,[]),(19,[]),(20,[]),(21,[]),(22,[]),(23,[]),(24,[]),(25,[])]),(10,[(0,[]),(1,[]),(2,[]),(3,[]),(4,[]),(5,[]),(6,[]),(7,[]),(8,[]),(9,[]),(10,[]),(11,[]),(12,[]),(13,[])])]⟩
def rs15 : List ARes := [.t 2]
def ac15 : ACode :=
 .seq (.reg [1] [
 ⟨some 1,.op (.box (.t 0)),none⟩,⟨some 2,.op (.mv (.c (.bool false))),none⟩]) (.seq (.reg [1,3] [
 ⟨some 6,.op (.fieldAddr 2 (.t 1)),none⟩,⟨some 7,.op (.ld1 (.t 6)),none⟩,⟨some 8,.op (.len 1 (.t 7)),none⟩,⟨some 3,.op (.mv (.t 8)),none⟩]) (.seq (.seq (.dreg [1,34] [
 (⟨some 9,.op (.fieldAddr 2 (.t 1)),none⟩,[]),(⟨some 10,.op (.ld1 (.t 9)),none⟩,[]),(⟨some 11,.call (.c (.fn 59 [] [])) [(.t 10)],none⟩,[]),(⟨some 12,.op (.un .not (.t 11)),none⟩,[]),(⟨some 13,.op (.mv (.t 12)),none⟩,[]),(⟨some 14,.op (.mv (.t 3)),some (13,false)⟩,[]),(⟨some 15,.op (.bin .gtr (.t 14) (.c (.int .i64 0))),some (13,false)⟩,[]),(⟨some 16,.op (.mv (.t 15)),some (13,false)⟩,[]),(⟨some 17,.op (.fieldAddr 2 (.t 1)),some (16,true)⟩,[]),(⟨some 18,.op (.ld1 (.t 17)),some (16,true)⟩,[]),(⟨some 19,.op (.mv (.t 3)),some (16,true)⟩,[]),(⟨some 20,.op (.bin .sub (.t 19) (.c (.int .i64 1))),some (16,true)⟩,[]),(⟨some 21,.op (.idxAddr 3 (.t 18) (.t 20)),some (16,true)⟩,[]),(⟨some 22,.op (.fieldAddr 0 (.t 21)),some (16,true)⟩,[]),(⟨some 23,.op (.ld1 (.t 22)),some (16,true)⟩,[]),(⟨some 24,.op (.fieldAddr 1 (.t 1)),some (16,true)⟩,[]),(⟨some 25,.op (.ld1 (.t 24)),some (16,true)⟩,[]),(⟨some 26,.op (.bin .gtr (.t 23) (.t 25)),some (16,true)⟩,[]),(⟨some 27,.pick (.t 16) (.t 26) (.c (.bool false)),some (13,false)⟩,[]),(⟨some 28,.pick (.t 13) (.c (.bool true)) (.t 27),none⟩,[]),(⟨some 29,.op (.mv (.t 28)),none⟩,[]),(⟨some 30,.op (.fieldAddr 3 (.t 1)),some (29,false)⟩,[]),(⟨some 31,.op (.ld1 (.t 30)),some (29,false)⟩,[]),(⟨some 32,.op (.len 1 (.t 31)),some (29,false)⟩,[]),(⟨some 33,.op (.bin .gtr (.t 32) (.c (.int .i64 2))),some (29,false)⟩,[]),(⟨some 34,.pick (.t 29) (.c (.bool true)) (.t 33),none⟩,[])]) (.cond (.t 34) (.seq (.reg [2] [
 ⟨some 2,.op (.mv (.c (.bool false))),none⟩]) (.ret)) (.skip))) (.seq (.seq (.reg [1,4] [
 ⟨some 4,.op (.mv (.c (.int .i64 0))),none⟩]) (.block 0 (.loop [1,4] (.seq (.seq (.reg [1,4,39] [
 ⟨some 35,.op (.mv (.t 4)),none⟩,⟨some 36,.op (.fieldAddr 3 (.t 1)),none⟩,⟨some 37,.op (.ld1 (.t 36)),none⟩,⟨some 38,.op (.len 1 (.t 37)),none⟩,⟨some 39,.op (.bin .lss (.t 35) (.t 38)),none⟩]) (.cond (.t 39) (.skip) (.exit 0))) (.seq (.block 1 (.seq (.reg [1,4,5] [
 ⟨some 42,.op (.fieldAddr 3 (.t 1)),none⟩,⟨some 43,.op (.ld1 (.t 42)),none⟩,⟨some 44,.op (.mv (.t 4)),none⟩,⟨some 45,.op (.idxAddr 5 (.t 43) (.t 44)),none⟩,⟨some 46,.op (.ldn 5 (.t 45)),none⟩,⟨some 5,.op (.alloc [.str ⟨#[]⟩,.int .u8 0,.int .u64 0,.int .u64 0,.nilsl]),none⟩,⟨none,.op (.st 5 (.t 5) (.t 46)),none⟩]) (.seq (.seq (.reg [1,4,5,72] [
 ⟨some 47,.op (.fieldAddr 0 (.t 5)),none⟩,⟨some 48,.op (.ld1 (.t 47)),none⟩,⟨some 49,.op (.len 9 (.t 48)),none⟩,⟨some 50,.op (.bin .lss (.t 49) (.c (.int .i64 1))),none⟩,⟨some 51,.op (.mv (.t 50)),none⟩,⟨some 52,.op (.fieldAddr 0 (.t 5)),some (51,false)⟩,⟨some 53,.op (.ld1 (.t 52)),some (51,false)⟩,⟨some 54,.op (.len 9 (.t 53)),some (51,false)⟩,⟨some 55,.op (.bin .gtr (.t 54) (.c (.int .i64 64))),some (51,false)⟩,⟨some 56,.pick (.t 51) (.c (.bool true)) (.t 55),none⟩,⟨some 57,.op (.mv (.t 56)),none⟩,⟨some 58,.op (.fieldAddr 1 (.t 5)),some (57,false)⟩,⟨some 59,.op (.ld1 (.t 58)),some (57,false)⟩,⟨some 60,.op (.bin .lss (.t 59) (.c (.int .u8 1))),some (57,false)⟩,⟨some 61,.pick (.t 57) (.c (.bool true)) (.t 60),none⟩,⟨some 62,.op (.mv (.t 61)),none⟩,⟨some 63,.op (.fieldAddr 1 (.t 5)),some (62,false)⟩,⟨some 64,.op (.ld1 (.t 63)),some (62,false)⟩,⟨some 65,.op (.bin .gtr (.t 64) (.c (.int .u8 4))),some (62,false)⟩,⟨some 66,.pick (.t 62) (.c (.bool true)) (.t 65),none⟩,⟨some 67,.op (.mv (.t 66)),none⟩,⟨some 68,.op (.fieldAddr 2 (.t 5)),some (67,false)⟩,⟨some 69,.op (.ldn 3 (.t 68)),some (67,false)⟩,⟨some 70,.call (.c (.fn 60 [] [])) [(.t 69)],some (67,false)⟩,⟨some 71,.op (.un .not (.t 70)),some (67,false)⟩,⟨some 72,.pick (.t 67) (.c (.bool true)) (.t 71),none⟩]) (.cond (.t 72) (.seq (.reg [2] [
 ⟨some 2,.op (.mv (.c (.bool false))),none⟩]) (.ret)) (.skip))) (.seq (.dreg [1,4,86] [
 (⟨some 73,.op (.mv (.t 4)),none⟩,[]),(⟨some 74,.op (.bin .gtr (.t 73) (.c (.int .i64 0))),none⟩,[]),(⟨some 75,.op (.mv (.t 74)),none⟩,[]),(⟨some 76,.op (.fieldAddr 0 (.t 5)),some (75,true)⟩,[]),(⟨some 77,.op (.ld1 (.t 76)),some (75,true)⟩,[]),(⟨some 78,.op (.fieldAddr 3 (.t 1)),some (75,true)⟩,[]),(⟨some 79,.op (.ld1 (.t 78)),some (75,true)⟩,[]),(⟨some 80,.op (.mv (.t 4)),some (75,true)⟩,[]),(⟨some 81,.op (.bin .sub (.t 80) (.c (.int .i64 1))),some (75,true)⟩,[]),(⟨some 82,.op (.idxAddr 5 (.t 79) (.t 81)),some (75,true)⟩,[]),(⟨some 83,.op (.fieldAddr 0 (.t 82)),some (75,true)⟩,[]),(⟨some 84,.op (.ld1 (.t 83)),some (75,true)⟩,[]),(⟨some 85,.op (.bin .leq (.t 77) (.t 84)),some (75,true)⟩,[]),(⟨some 86,.pick (.t 75) (.t 85) (.c (.bool false)),none⟩,[])]) (.cond (.t 86) (.seq (.reg [2] [
 ⟨some 2,.op (.mv (.c (.bool false))),none⟩]) (.ret)) (.skip)))))) (.reg [1,4] [
 ⟨some 40,.op (.mv (.t 4)),none⟩,⟨some 41,.op (.bin .add (.t 40) (.c (.int .i64 1))),none⟩,⟨some 4,.op (.mv (.t 41)),none⟩])))))) (.seq (.reg [2] [
 ⟨some 2,.op (.mv (.c (.bool true))),none⟩]) (.ret)))))
theorem cf15 : compF Tryz.prog Tryz.f15 h15 = some (ac15,rs15) := by kernel_rfl
/-! mailcoach/mailcoachref01.Put params 3 -/
def h16 : Hints := ⟨[(10,[6]),(3,[0,1,7]),(9,[0,1,7]),(7,[0,1,7,8,9]),(8,[0,1,7,8,9]),(6,[0,1,7,8,9,19]),(5,[0,1,7,8,9]),(4,[0,1,7,8]),(2,[0,1,7,13]),(1,[0,1,7]),(0,[0,1,2])],[(6,[0,1,7,8,9]),(2,[0,1,7])],[]⟩
def rs16 : List ARes := [.t 6]
def ac16 : ACode :=
 .seq (.reg [0,1,2] [
 ⟨some 6,.op (.mv (.c (.nilsl))),none⟩]) (.seq (.seq (.reg [0,1,7] [
 ⟨some 10,.op (.mv (.t 2)),none⟩,⟨some 11,.op (.bin .sub (.t 10) (.c (.int .i64 1))),none⟩,⟨some 7,.op (.mv (.t 11)),none⟩]) (.block 0 (.loop [0,1,7] (.seq (.seq (.reg [0,1,7,13] [
 ⟨some 12,.op (.mv (.t 7)),none⟩,⟨some 13,.op (.bin .geq (.t 12) (.c (.int .i64 0))),none⟩]) (.cond (.t 13) (.skip) (.exit 0))) (.seq (.block 1 (.seq (.reg [0,1,7,8] [
 ⟨some 16,.op (.mv (.t 1)),none⟩,⟨some 8,.op (.mv (.t 16)),none⟩]) (.seq (.seq (.reg [0,1,7,8,9] [
 ⟨some 9,.op (.mv (.c (.int .i64 0))),none⟩]) (.block 2 (.loop [0,1,7,8,9] (.seq (.seq (.reg [0,1,7,8,9,19] [
 ⟨some 17,.op (.mv (.t 9)),none⟩,⟨some 18,.op (.mv (.t 7)),none⟩,⟨some 19,.op (.bin .lss (.t 17) (.t 18)),none⟩]) (.cond (.t 19) (.skip) (.exit 2))) (.seq (.block 3 (.reg [0,1,7,8,9] [
 ⟨some 22,.op (.mv (.t 8)),none⟩,⟨some 23,.op (.bin .quo (.t 22) (.c (.int .u64 256))),none⟩,⟨some 8,.op (.mv (.t 23)),none⟩])) (.reg [0,1,7,8,9] [
 ⟨some 20,.op (.mv (.t 9)),none⟩,⟨some 21,.op (.bin .add (.t 20) (.c (.int .i64 1))),none⟩,⟨some 9,.op (.mv (.t 21)),none⟩])))))) (.reg [0,1,7] [
 ⟨some 24,.op (.mv (.t 0)),none⟩,⟨some 25,.op (.mv (.t 8)),none⟩,⟨some 26,.op (.bin .rem (.t 25) (.c (.int .u64 256))),none⟩,⟨some 27,.op (.toInt .u8 (.t 26)),none⟩,⟨some 28,.op (.buildSl 1 [.int .u8 0] 1 [(0,(.t 27))]),none⟩,⟨some 29,.op (.append 1 1 (.t 24) (.t 28)),none⟩,⟨some 0,.op (.mv (.t 29)),none⟩])))) (.reg [0,1,7] [
 ⟨some 14,.op (.mv (.t 7)),none⟩,⟨some 15,.op (.bin .sub (.t 14) (.c (.int .i64 1))),none⟩,⟨some 7,.op (.mv (.t 15)),none⟩])))))) (.seq (.reg [6] [
 ⟨some 30,.op (.mv (.t 0)),none⟩,⟨some 6,.op (.mv (.t 30)),none⟩]) (.ret)))
theorem cf16 : compF Tryz.prog Tryz.f16 h16 = some (ac16,rs16) := by kernel_rfl
/-! mailcoach/mailcoachref21.yes params 1 -/
def h17 : Hints := ⟨[(3,[2]),(2,[2]),(1,[3]),(0,[0])],[],[]⟩
def rs17 : List ARes := [.t 2]
def ac17 : ACode :=
 .seq (.reg [0] [
 ⟨some 2,.op (.mv (.c (.int .u64 0))),none⟩]) (.seq (.seq (.reg [3] [
 ⟨some 3,.op (.mv (.t 0)),none⟩]) (.cond (.t 3) (.seq (.reg [2] [
 ⟨some 2,.op (.mv (.c (.int .u64 1))),none⟩]) (.ret)) (.skip))) (.seq (.reg [2] [
 ⟨some 2,.op (.mv (.c (.int .u64 0))),none⟩]) (.ret)))
theorem cf17 : compF Tryz.prog Tryz.f17 h17 = some (ac17,rs17) := by kernel_rfl
/-! mailcoach/mailcoachref13.Bytes params 2 -/
def h18 : Hints := ⟨[(13,[4]),(5,[0,3,5]),(11,[0,3,5,6,7]),(12,[0,3,5,6,7]),(10,[0,3,5,6,7,52]),(9,[0,3,5,6,7]),(8,[0,3,5,6]),(7,[0,3,5,6]),(6,[0,3,5]),(4,[0,3,5,27]),(3,[0,3,5]),(2,[0,3]),(1,[0,3]),(0,[0,3])],[(10,[0,3,5,6,7]),(4,[0,3,5])],[(1,[(0,[]),(1,[]),(2,[]),(3,[]),(5,[]),(6,[]),(7,[]),(4,[6]),(8,[]),(9,[])]),(12,[(0,[]),(1,[]),(2,[]),(3,[]),(4,[]),(5,[]),(7,[]),(8,[]),(9,[]),(10,[]),(11,[]),(6,[10]),(12,[]),(13,[])])]⟩
def rs18 : List ARes := [.t 4]
def ac18 : ACode :=
 .seq (.reg [0,3] [
 ⟨some 3,.op (.box (.t 1)),none⟩,⟨some 4,.op (.mv (.c (.nilsl))),none⟩]) (.seq (.dreg [0,3] [
 (⟨some 8,.op (.mv (.t 0)),none⟩,[]),(⟨some 9,.op (.fieldAddr 0 (.t 3)),none⟩,[]),(⟨some 10,.op (.fieldAddr 0 (.t 9)),none⟩,[]),(⟨some 11,.op (.ld1 (.t 10)),none⟩,[]),(⟨some 13,.op (.fieldAddr 0 (.t 3)),none⟩,[]),(⟨some 14,.op (.fieldAddr 1 (.t 13)),none⟩,[]),(⟨some 15,.op (.ld1 (.t 14)),none⟩,[]),(⟨some 12,.call (.c (.fn 16 [] [])) [(.t 8),(.t 11),(.c (.int .i64 8))],none⟩,[6]),(⟨some 16,.call (.c (.fn 16 [] [])) [(.t 12),(.t 15),(.c (.int .i64 8))],none⟩,[]),(⟨some 0,.op (.mv (.t 16)),none⟩,[])]) (.seq (.reg [0,3] [
 ⟨some 17,.op (.mv (.t 0)),none⟩,⟨some 18,.op (.fieldAddr 2 (.t 3)),none⟩,⟨some 19,.op (.ld1 (.t 18)),none⟩,⟨some 20,.op (.len 1 (.t 19)),none⟩,⟨some 21,.op (.toInt .u64 (.t 20)),none⟩,⟨some 22,.call (.c (.fn 16 [] [])) [(.t 17),(.t 21),(.c (.int .i64 2))],none⟩,⟨some 0,.op (.mv (.t 22)),none⟩]) (.seq (.seq (.reg [0,3,5] [
 ⟨some 5,.op (.mv (.c (.int .i64 0))),none⟩]) (.block 0 (.loop [0,3,5] (.seq (.seq (.reg [0,3,5,27] [
 ⟨some 23,.op (.mv (.t 5)),none⟩,⟨some 24,.op (.fieldAddr 2 (.t 3)),none⟩,⟨some 25,.op (.ld1 (.t 24)),none⟩,⟨some 26,.op (.len 1 (.t 25)),none⟩,⟨some 27,.op (.bin .lss (.t 23) (.t 26)),none⟩]) (.cond (.t 27) (.skip) (.exit 0))) (.seq (.block 1 (.seq (.reg [0,3,5] [
 ⟨some 30,.op (.mv (.t 0)),none⟩,⟨some 31,.op (.fieldAddr 2 (.t 3)),none⟩,⟨some 32,.op (.ld1 (.t 31)),none⟩,⟨some 33,.op (.mv (.t 5)),none⟩,⟨some 34,.op (.idxAddr 2 (.t 32) (.t 33)),none⟩,⟨some 35,.op (.fieldAddr 0 (.t 34)),none⟩,⟨some 36,.op (.ld1 (.t 35)),none⟩,⟨some 37,.call (.c (.fn 16 [] [])) [(.t 30),(.t 36),(.c (.int .i64 8))],none⟩,⟨some 0,.op (.mv (.t 37)),none⟩]) (.seq (.reg [0,3,5,6] [
 ⟨some 38,.op (.fieldAddr 2 (.t 3)),none⟩,⟨some 39,.op (.ld1 (.t 38)),none⟩,⟨some 40,.op (.mv (.t 5)),none⟩,⟨some 41,.op (.idxAddr 2 (.t 39) (.t 40)),none⟩,⟨some 42,.op (.fieldAddr 1 (.t 41)),none⟩,⟨some 43,.op (.ld1 (.t 42)),none⟩,⟨some 6,.op (.mv (.t 43)),none⟩]) (.seq (.reg [0,3,5,6] [
 ⟨some 44,.op (.mv (.t 0)),none⟩,⟨some 45,.op (.mv (.t 6)),none⟩,⟨some 46,.op (.len 1 (.t 45)),none⟩,⟨some 47,.op (.toInt .u64 (.t 46)),none⟩,⟨some 48,.call (.c (.fn 16 [] [])) [(.t 44),(.t 47),(.c (.int .i64 2))],none⟩,⟨some 0,.op (.mv (.t 48)),none⟩]) (.seq (.reg [0,3,5,6,7] [
 ⟨some 7,.op (.mv (.c (.int .i64 0))),none⟩]) (.block 2 (.loop [0,3,5,6,7] (.seq (.seq (.reg [0,3,5,6,7,52] [
 ⟨some 49,.op (.mv (.t 7)),none⟩,⟨some 50,.op (.mv (.t 6)),none⟩,⟨some 51,.op (.len 1 (.t 50)),none⟩,⟨some 52,.op (.bin .lss (.t 49) (.t 51)),none⟩]) (.cond (.t 52) (.skip) (.exit 2))) (.seq (.block 3 (.dreg [0,3,5,6,7] [
 (⟨some 55,.op (.mv (.t 0)),none⟩,[]),(⟨some 56,.op (.mv (.t 6)),none⟩,[]),(⟨some 57,.op (.mv (.t 7)),none⟩,[]),(⟨some 58,.op (.idxAddr 2 (.t 56) (.t 57)),none⟩,[]),(⟨some 59,.op (.fieldAddr 0 (.t 58)),none⟩,[]),(⟨some 60,.op (.ld1 (.t 59)),none⟩,[]),(⟨some 62,.op (.mv (.t 6)),none⟩,[]),(⟨some 63,.op (.mv (.t 7)),none⟩,[]),(⟨some 64,.op (.idxAddr 2 (.t 62) (.t 63)),none⟩,[]),(⟨some 65,.op (.fieldAddr 1 (.t 64)),none⟩,[]),(⟨some 66,.op (.ld1 (.t 65)),none⟩,[]),(⟨some 61,.call (.c (.fn 16 [] [])) [(.t 55),(.t 60),(.c (.int .i64 8))],none⟩,[10]),(⟨some 67,.call (.c (.fn 16 [] [])) [(.t 61),(.t 66),(.c (.int .i64 8))],none⟩,[]),(⟨some 0,.op (.mv (.t 67)),none⟩,[])])) (.reg [0,3,5,6,7] [
 ⟨some 53,.op (.mv (.t 7)),none⟩,⟨some 54,.op (.bin .add (.t 53) (.c (.int .i64 1))),none⟩,⟨some 7,.op (.mv (.t 54)),none⟩])))))))))) (.reg [0,3,5] [
 ⟨some 28,.op (.mv (.t 5)),none⟩,⟨some 29,.op (.bin .add (.t 28) (.c (.int .i64 1))),none⟩,⟨some 5,.op (.mv (.t 29)),none⟩])))))) (.seq (.reg [4] [
 ⟨some 68,.op (.mv (.t 0)),none⟩,⟨some 4,.op (.mv (.t 68)),none⟩]) (.ret)))))
theorem cf18 : compF Tryz.prog Tryz.f18 h18 = some (ac18,rs18) := by kernel_rfl
/-! mailcoach/mailcoachref01.PutBytes params 2 -/
def h19 : Hints := ⟨[(1,[4]),(0,[0,1])],[],[]⟩
def rs19 : List ARes := [.t 4]
def ac19 : ACode :=
 .seq (.reg [0,1] [
 ⟨some 4,.op (.mv (.c (.nilsl))),none⟩]) (.seq (.reg [4] [
 ⟨some 5,.op (.mv (.t 0)),none⟩,⟨some 6,.op (.mv (.t 1)),none⟩,⟨some 7,.op (.len 1 (.t 6)),none⟩,⟨some 8,.op (.toInt .u64 (.t 7)),none⟩,⟨some 9,.call (.c (.fn 16 [] [])) [(.t 5),(.t 8),(.c (.int .i64 4))],none⟩,⟨some 10,.op (.mv (.t 1)),none⟩,⟨some 11,.op (.append 1 1 (.t 9) (.t 10)),none⟩,⟨some 4,.op (.mv (.t 11)),none⟩]) (.ret))
theorem cf19 : compF Tryz.prog Tryz.f19 h19 = some (ac19,rs19) := by kernel_rfl
/-! (*mailcoach/mailcoachref15.Table).Bytes params 2 -/
def h20 : Hints := ⟨[(14,[4]),(11,[1,5,8]),(13,[1,5,8]),(12,[1,5,8]),(10,[1,5,8,38]),(9,[1,5,8]),(8,[1,5]),(5,[1,5,6,7]),(7,[1,5,6,7]),(6,[1,5,6,7,22]),(4,[1,5,6,7,14]),(3,[1,5,6,7]),(2,[1,5,6]),(1,[0,1,5]),(0,[0,1])],[(10,[1,5,8]),(4,[1,5,6,7])],[(13,[(0,[]),(1,[]),(2,[]),(3,[]),(4,[]),(5,[]),(7,[]),(8,[]),(9,[]),(10,[]),(11,[]),(12,[]),(14,[]),(15,[]),(16,[]),(17,[]),(18,[]),(19,[]),(6,[11,17]),(13,[17]),(20,[]),(21,[])])]⟩
def rs20 : List ARes := [.t 4]
def ac20 : ACode :=
 .seq (.reg [0,1] [
 ⟨some 4,.op (.mv (.c (.nilsl))),none⟩]) (.seq (.reg [0,1,5] [
 ⟨some 5,.op (.mv (.c (.nilsl))),none⟩]) (.seq (.reg [1,5,6] [
 ⟨some 9,.op (.mv (.t 0)),none⟩,⟨some 10,.call (.c (.fn 61 [] [])) [(.t 9)],none⟩,⟨some 6,.op (.mv (.t 10)),none⟩]) (.seq (.seq (.reg [1,5,6,7] [
 ⟨some 7,.op (.mv (.c (.int .i64 0))),none⟩]) (.block 0 (.loop [1,5,6,7] (.seq (.seq (.reg [1,5,6,7,14] [
 ⟨some 11,.op (.mv (.t 7)),none⟩,⟨some 12,.op (.mv (.t 6)),none⟩,⟨some 13,.op (.len 1 (.t 12)),none⟩,⟨some 14,.op (.bin .lss (.t 11) (.t 13)),none⟩]) (.cond (.t 14) (.skip) (.exit 0))) (.seq (.block 1 (.seq (.reg [1,5,6,7,22] [
 ⟨some 17,.op (.mv (.t 6)),none⟩,⟨some 18,.op (.mv (.t 7)),none⟩,⟨some 19,.op (.idxAddr 5 (.t 17) (.t 18)),none⟩,⟨some 20,.op (.fieldAddr 2 (.t 19)),none⟩,⟨some 21,.op (.ld1 (.t 20)),none⟩,⟨some 22,.op (.bin .gtr (.t 21) (.c (.int .u64 0))),none⟩]) (.cond (.t 22) (.reg [1,5,6,7] [
 ⟨some 23,.op (.mv (.t 5)),none⟩,⟨some 24,.op (.mv (.t 6)),none⟩,⟨some 25,.op (.mv (.t 7)),none⟩,⟨some 26,.op (.idxAddr 5 (.t 24) (.t 25)),none⟩,⟨some 27,.op (.ldn 5 (.t 26)),none⟩,⟨some 28,.op (.buildSl 5 [.str ⟨#[]⟩,.int .u64 0,.int .u64 0,.int .u64 0,.int .u64 0] 1 [(0,(.t 27))]),none⟩,⟨some 29,.op (.append 5 48 (.t 23) (.t 28)),none⟩,⟨some 5,.op (.mv (.t 29)),none⟩]) (.skip)))) (.reg [1,5,6,7] [
 ⟨some 15,.op (.mv (.t 7)),none⟩,⟨some 16,.op (.bin .add (.t 15) (.c (.int .i64 1))),none⟩,⟨some 7,.op (.mv (.t 16)),none⟩])))))) (.seq (.reg [1,5] [
 ⟨some 30,.op (.mv (.t 1)),none⟩,⟨some 31,.op (.mv (.t 5)),none⟩,⟨some 32,.op (.len 1 (.t 31)),none⟩,⟨some 33,.op (.toInt .u64 (.t 32)),none⟩,⟨some 34,.call (.c (.fn 16 [] [])) [(.t 30),(.t 33),(.c (.int .i64 1))],none⟩,⟨some 1,.op (.mv (.t 34)),none⟩]) (.seq (.seq (.reg [1,5,8] [
 ⟨some 8,.op (.mv (.c (.int .i64 0))),none⟩]) (.block 2 (.loop [1,5,8] (.seq (.seq (.reg [1,5,8,38] [
 ⟨some 35,.op (.mv (.t 8)),none⟩,⟨some 36,.op (.mv (.t 5)),none⟩,⟨some 37,.op (.len 1 (.t 36)),none⟩,⟨some 38,.op (.bin .lss (.t 35) (.t 37)),none⟩]) (.cond (.t 38) (.skip) (.exit 2))) (.seq (.block 3 (.seq (.reg [1,5,8] [
 ⟨some 41,.op (.mv (.t 1)),none⟩,⟨some 42,.op (.mv (.t 5)),none⟩,⟨some 43,.op (.mv (.t 8)),none⟩,⟨some 44,.op (.idxAddr 5 (.t 42) (.t 43)),none⟩,⟨some 45,.op (.fieldAddr 0 (.t 44)),none⟩,⟨some 46,.op (.ld1 (.t 45)),none⟩,⟨some 47,.op (.strBytes (.t 46)),none⟩,⟨some 48,.call (.c (.fn 19 [] [])) [(.t 41),(.t 47)],none⟩,⟨some 1,.op (.mv (.t 48)),none⟩]) (.dreg [1,5,8] [
 (⟨some 49,.op (.mv (.t 1)),none⟩,[]),(⟨some 50,.op (.mv (.t 5)),none⟩,[]),(⟨some 51,.op (.mv (.t 8)),none⟩,[]),(⟨some 52,.op (.idxAddr 5 (.t 50) (.t 51)),none⟩,[]),(⟨some 53,.op (.fieldAddr 2 (.t 52)),none⟩,[]),(⟨some 54,.op (.ld1 (.t 53)),none⟩,[]),(⟨some 56,.op (.mv (.t 5)),none⟩,[]),(⟨some 57,.op (.mv (.t 8)),none⟩,[]),(⟨some 58,.op (.idxAddr 5 (.t 56) (.t 57)),none⟩,[]),(⟨some 59,.op (.fieldAddr 3 (.t 58)),none⟩,[]),(⟨some 60,.op (.fieldAddr 0 (.t 59)),none⟩,[]),(⟨some 61,.op (.ld1 (.t 60)),none⟩,[]),(⟨some 63,.op (.mv (.t 5)),none⟩,[]),(⟨some 64,.op (.mv (.t 8)),none⟩,[]),(⟨some 65,.op (.idxAddr 5 (.t 63) (.t 64)),none⟩,[]),(⟨some 66,.op (.fieldAddr 3 (.t 65)),none⟩,[]),(⟨some 67,.op (.fieldAddr 1 (.t 66)),none⟩,[]),(⟨some 68,.op (.ld1 (.t 67)),none⟩,[]),(⟨some 55,.call (.c (.fn 16 [] [])) [(.t 49),(.t 54),(.c (.int .i64 8))],none⟩,[11,17]),(⟨some 62,.call (.c (.fn 16 [] [])) [(.t 55),(.t 61),(.c (.int .i64 8))],none⟩,[17]),(⟨some 69,.call (.c (.fn 16 [] [])) [(.t 62),(.t 68),(.c (.int .i64 8))],none⟩,[]),(⟨some 1,.op (.mv (.t 69)),none⟩,[])]))) (.reg [1,5,8] [
 ⟨some 39,.op (.mv (.t 8)),none⟩,⟨some 40,.op (.bin .add (.t 39) (.c (.int .i64 1))),none⟩,⟨some 8,.op (.mv (.t 40)),none⟩])))))) (.seq (.reg [4] [
 ⟨some 70,.op (.mv (.t 1)),none⟩,⟨some 4,.op (.mv (.t 70)),none⟩]) (.ret)))))))
theorem cf20 : compF Tryz.prog Tryz.f20 h20 = some (ac20,rs20) := by kernel_rfl
/-! mailcoach/mailcoachlaw13.Made params 2 -/
def h21 : Hints := ⟨[(13,[4]),(12,[5]),(11,[5,9,40]),(10,[1,5,9]),(9,[1,5,6,10,11,12]),(8,[1,5,6,10,11,12]),(7,[1,5,6,8,10,11,12]),(6,[1,5,6,8,10,11,12,18]),(5,[1,5,6,7,8,10,11,12]),(4,[1,5,6,10,11,12,13]),(3,[1,5,6,10,11,12]),(2,[0,1,5,6]),(1,[0,1,5]),(0,[0,1])],[(4,[1,5,6,10,11,12])],[]⟩
def rs21 : List ARes := [.t 4]
def ac21 : ACode :=
 .seq (.reg [0,1] [
 ⟨some 4,.op (.mv (.c (.nilsl))),none⟩]) (.seq (.reg [0,1,5] [
 ⟨some 5,.op (.mv (.c (.nilsl))),none⟩]) (.seq (.reg [0,1,5,6] [
 ⟨some 6,.op (.mv (.c (.int .u64 0))),none⟩]) (.seq (.seq (.reg [1,5,6,10,11,12] [
 ⟨some 10,.op (.mv (.t 0)),none⟩,⟨some 11,.op (.len 1 (.t 10)),none⟩,⟨some 12,.op (.mv (.c (.int .i64 0))),none⟩]) (.block 0 (.loop [1,5,6,10,11,12] (.seq (.reg [1,5,6,10,11,12,13] [
 ⟨some 13,.op (.bin .lss (.t 12) (.t 11)),none⟩]) (.seq (.cond (.t 13) (.skip) (.exit 0)) (.seq (.block 1 (.seq (.reg [1,5,6,7,8,10,11,12] [
 ⟨some 14,.op (.mv (.t 12)),none⟩,⟨some 15,.op (.idxAddr 1 (.t 10) (.t 12)),none⟩,⟨some 16,.op (.ld1 (.t 15)),none⟩,⟨some 7,.op (.mv (.t 14)),none⟩,⟨some 8,.op (.mv (.t 16)),none⟩]) (.seq (.seq (.reg [1,5,6,8,10,11,12,18] [
 ⟨some 17,.op (.mv (.t 7)),none⟩,⟨some 18,.op (.bin .gtr (.t 17) (.c (.int .i64 12))),none⟩]) (.cond (.t 18) (.exit 0) (.skip))) (.seq (.reg [1,5,6,8,10,11,12] [
 ⟨some 19,.op (.mv (.t 6)),none⟩,⟨some 20,.op (.mv (.t 8)),none⟩,⟨some 21,.op (.bin .quo (.t 20) (.c (.int .u8 64))),none⟩,⟨some 22,.op (.toInt .u64 (.t 21)),none⟩,⟨some 23,.op (.bin .add (.c (.int .u64 1)) (.t 22)),none⟩,⟨some 24,.op (.bin .add (.t 19) (.t 23)),none⟩,⟨some 6,.op (.mv (.t 24)),none⟩]) (.reg [1,5,6,10,11,12] [
 ⟨some 25,.op (.mv (.t 5)),none⟩,⟨some 26,.op (.mv (.t 6)),none⟩,⟨some 27,.op (.mv (.t 8)),none⟩,⟨some 28,.op (.bin .rem (.t 27) (.c (.int .u8 6))),none⟩,⟨some 29,.op (.toInt .u64 (.t 28)),none⟩,⟨some 30,.op (.build [.int .u64 0,.bool false,.int .u64 0] [(0,1,(.t 26)),(1,1,(.c (.bool true))),(2,1,(.t 29))]),none⟩,⟨some 31,.op (.buildSl 3 [.int .u64 0,.bool false,.int .u64 0] 1 [(0,(.t 30))]),none⟩,⟨some 32,.op (.append 3 24 (.t 25) (.t 31)),none⟩,⟨some 5,.op (.mv (.t 32)),none⟩]))))) (.reg [1,5,6,10,11,12] [
 ⟨some 33,.op (.bin .add (.t 12) (.c (.int .i64 1))),none⟩,⟨some 12,.op (.mv (.t 33)),none⟩]))))))) (.seq (.seq (.reg [1,5,9] [
 ⟨some 34,.op (.mv (.t 5)),none⟩,⟨some 35,.op (.len 1 (.t 34)),none⟩,⟨some 9,.op (.mv (.t 35)),none⟩]) (.seq (.reg [5,9,40] [
 ⟨some 36,.op (.mv (.t 1)),none⟩,⟨some 37,.op (.mv (.t 36)),none⟩,⟨some 38,.op (.mv (.t 9)),some (37,true)⟩,⟨some 39,.op (.bin .gtr (.t 38) (.c (.int .i64 0))),some (37,true)⟩,⟨some 40,.pick (.t 37) (.t 39) (.c (.bool false)),none⟩]) (.cond (.t 40) (.reg [5] [
 ⟨some 41,.op (.mv (.t 5)),none⟩,⟨some 42,.op (.mv (.t 9)),none⟩,⟨some 43,.op (.bin .sub (.t 42) (.c (.int .i64 1))),none⟩,⟨some 44,.op (.mv (.t 5)),none⟩,⟨some 45,.op (.mv (.t 9)),none⟩,⟨some 46,.op (.bin .sub (.t 45) (.c (.int .i64 1))),none⟩,⟨some 47,.op (.idxAddr 3 (.t 41) (.t 43)),none⟩,⟨some 48,.op (.fieldAddr 1 (.t 47)),none⟩,⟨none,.op (.st 1 (.t 48) (.c (.bool false))),none⟩,⟨some 49,.op (.idxAddr 3 (.t 44) (.t 46)),none⟩,⟨some 50,.op (.fieldAddr 2 (.t 49)),none⟩,⟨none,.op (.st 1 (.t 50) (.c (.int .u64 0))),none⟩]) (.skip)))) (.seq (.reg [4] [
 ⟨some 51,.op (.mv (.t 5)),none⟩,⟨some 4,.op (.mv (.t 51)),none⟩]) (.ret))))))
theorem cf21 : compF Tryz.prog Tryz.f21 h21 = some (ac21,rs21) := by kernel_rfl
/-! mailcoach/mailcoachlaw14.Right params 2 -/
def h22 : Hints := ⟨[(27,[4]),(26,[1,4,5,6,19,20,21]),(25,[1,4,5,6,19,20,21]),(24,[1,4,5,8,19,20,21]),(23,[1,4,5,6,8,9,19,20,21,96]),(22,[1,4,5,6,8,9,19,20,21]),(21,[1,4,5,6,8,9,12,19,20,21]),(20,[1,4,5,6,8,9,12,19,20,21,90]),(19,[1,4,5,6,8,9,12,19,20,21]),(18,[1,4,5,6,8,9,19,20,21,57,58,59]),(17,[1,4,5,6,8,9,19,20,21,57,58,59]),(16,[1,4,5,6,8,9,11,19,20,21,57,58,59,74]),(15,[1,4,5,6,8,9,10,11,19,20,21,57,58,59]),(14,[1,4,5,6,8,9,10,11,19,20,21,57,58,59,65]),(13,[1,4,5,6,8,9,10,11,19,20,21,57,58,59]),(12,[1,4,5,6,8,9,19,20,21,57,58,59,60]),(11,[1,4,5,6,8,9,19,20,21,57,58,59]),(10,[1,4,5,6,8,9,19,20,21]),(9,[1,4,5,6,8,19,20,21,55]),(8,[1,4,5,6,7,8,19,20,21]),(7,[1,4,5,6,7,8,19,20,21,29]),(6,[1,4,5,6,7,8,19,20,21,27]),(5,[1,4,5,6,7,8,19,20,21]),(4,[1,4,5,6,19,20,21,22]),(3,[1,4,5,6,19,20,21]),(2,[1,2,4,5,6]),(1,[1,2,4,5]),(0,[1,2,4])],[(12,[1,4,5,6,8,9,19,20,21,57,58,59]),(4,[1,4,5,6,19,20,21])],[]⟩
def rs22 : List ARes := [.cn 4 3]
def ac22 : ACode :=
 .seq (.reg [1,2,4] [
 ⟨some 2,.op (.box (.t 0)),none⟩,⟨some 4,.op (.alloc [.int .u64 0,.int .u64 0,.nilsl]),none⟩]) (.seq (.reg [1,2,4,5] [
 ⟨some 13,.op (.fieldAddr 0 (.t 2)),none⟩,⟨some 14,.op (.ldn 2 (.t 13)),none⟩,⟨some 15,.op (.mv (.t 1)),none⟩,⟨some 16,.call (.c (.fn 62 [] [])) [(.t 14),(.t 15)],none⟩,⟨some 17,.op (.build [.int .u64 0,.int .u64 0,.nilsl] [(0,2,(.t 16))]),none⟩,⟨some 5,.op (.alloc [.int .u64 0,.int .u64 0,.nilsl]),none⟩,⟨none,.op (.st 3 (.t 5) (.t 17)),none⟩]) (.seq (.reg [1,2,4,5,6] [
 ⟨some 6,.op (.mv (.c (.int .u64 0))),none⟩]) (.seq (.seq (.reg [1,4,5,6,19,20,21] [
 ⟨some 18,.op (.fieldAddr 2 (.t 2)),none⟩,⟨some 19,.op (.ld1 (.t 18)),none⟩,⟨some 20,.op (.len 1 (.t 19)),none⟩,⟨some 21,.op (.mv (.c (.int .i64 0))),none⟩]) (.block 0 (.loop [1,4,5,6,19,20,21] (.seq (.reg [1,4,5,6,19,20,21,22] [
 ⟨some 22,.op (.bin .lss (.t 21) (.t 20)),none⟩]) (.seq (.cond (.t 22) (.skip) (.exit 0)) (.seq (.block 1 (.seq (.reg [1,4,5,6,7,8,19,20,21] [
 ⟨some 23,.op (.mv (.t 21)),none⟩,⟨some 24,.op (.idxAddr 2 (.t 19) (.t 21)),none⟩,⟨some 25,.op (.ldn 2 (.t 24)),none⟩,⟨some 8,.op (.alloc [.int .u64 0,.nilsl]),none⟩,⟨some 7,.op (.mv (.t 23)),none⟩,⟨none,.op (.st 2 (.t 8) (.t 25)),none⟩]) (.seq (.seq (.reg [1,4,5,6,7,8,19,20,21,27] [
 ⟨some 26,.op (.mv (.t 7)),none⟩,⟨some 27,.op (.bin .gtr (.t 26) (.c (.int .i64 6))),none⟩]) (.cond (.t 27) (.exit 0) (.skip))) (.seq (.seq (.reg [1,4,5,6,7,8,19,20,21,29] [
 ⟨some 28,.op (.mv (.t 1)),none⟩,⟨some 29,.op (.un .not (.t 28)),none⟩]) (.cond (.t 29) (.reg [1,4,5,6,7,8,19,20,21] [
 ⟨some 30,.op (.fieldAddr 0 (.t 8)),none⟩,⟨some 31,.op (.ld1 (.t 30)),none⟩,⟨some 32,.op (.bin .rem (.t 31) (.c (.int .u64 16))),none⟩,⟨some 33,.op (.fieldAddr 0 (.t 8)),none⟩,⟨none,.op (.st 1 (.t 33) (.t 32)),none⟩]) (.skip))) (.seq (.seq (.reg [1,4,5,6,8,19,20,21,55] [
 ⟨some 34,.op (.fieldAddr 0 (.t 8)),none⟩,⟨some 35,.op (.ld1 (.t 34)),none⟩,⟨some 36,.op (.fieldAddr 0 (.t 5)),none⟩,⟨some 37,.op (.fieldAddr 0 (.t 36)),none⟩,⟨some 38,.op (.ld1 (.t 37)),none⟩,⟨some 39,.op (.bin .lss (.t 35) (.t 38)),none⟩,⟨some 40,.op (.mv (.t 39)),none⟩,⟨some 41,.op (.fieldAddr 0 (.t 8)),some (40,false)⟩,⟨some 42,.op (.ld1 (.t 41)),some (40,false)⟩,⟨some 43,.op (.mv (.t 6)),some (40,false)⟩,⟨some 44,.op (.bin .leq (.t 42) (.t 43)),some (40,false)⟩,⟨some 45,.op (.mv (.t 44)),some (40,false)⟩,⟨some 46,.op (.mv (.t 7)),some (45,true)⟩,⟨some 47,.op (.bin .gtr (.t 46) (.c (.int .i64 0))),some (45,true)⟩,⟨some 48,.pick (.t 45) (.t 47) (.c (.bool false)),some (40,false)⟩,⟨some 49,.op (.mv (.t 48)),some (40,false)⟩,⟨some 50,.op (.fieldAddr 2 (.t 5)),some (49,true)⟩,⟨some 51,.op (.ld1 (.t 50)),some (49,true)⟩,⟨some 52,.op (.len 1 (.t 51)),some (49,true)⟩,⟨some 53,.op (.bin .gtr (.t 52) (.c (.int .i64 0))),some (49,true)⟩,⟨some 54,.pick (.t 49) (.t 53) (.c (.bool false)),some (40,false)⟩,⟨some 55,.pick (.t 40) (.c (.bool true)) (.t 54),none⟩]) (.cond (.t 55) (.exit 1) (.skip))) (.seq (.reg [1,4,5,6,8,9,19,20,21] [
 ⟨some 9,.op (.mv (.c (.nilsl))),none⟩]) (.seq (.seq (.reg [1,4,5,6,8,9,19,20,21,57,58,59] [
 ⟨some 56,.op (.fieldAddr 1 (.t 8)),none⟩,⟨some 57,.op (.ld1 (.t 56)),none⟩,⟨some 58,.op (.len 1 (.t 57)),none⟩,⟨some 59,.op (.mv (.c (.int .i64 0))),none⟩]) (.block 2 (.loop [1,4,5,6,8,9,19,20,21,57,58,59] (.seq (.reg [1,4,5,6,8,9,19,20,21,57,58,59,60] [
 ⟨some 60,.op (.bin .lss (.t 59) (.t 58)),none⟩]) (.seq (.cond (.t 60) (.skip) (.exit 2)) (.seq (.block 3 (.seq (.reg [1,4,5,6,8,9,10,11,19,20,21,57,58,59] [
 ⟨some 61,.op (.mv (.t 59)),none⟩,⟨some 62,.op (.idxAddr 2 (.t 57) (.t 59)),none⟩,⟨some 63,.op (.ldn 2 (.t 62)),none⟩,⟨some 11,.op (.alloc [.int .u64 0,.int .u64 0]),none⟩,⟨some 10,.op (.mv (.t 61)),none⟩,⟨none,.op (.st 2 (.t 11) (.t 63)),none⟩]) (.seq (.seq (.reg [1,4,5,6,8,9,10,11,19,20,21,57,58,59,65] [
 ⟨some 64,.op (.mv (.t 1)),none⟩,⟨some 65,.op (.un .not (.t 64)),none⟩]) (.cond (.t 65) (.reg [1,4,5,6,8,9,10,11,19,20,21,57,58,59] [
 ⟨some 66,.op (.fieldAddr 0 (.t 11)),none⟩,⟨some 67,.op (.ld1 (.t 66)),none⟩,⟨some 68,.op (.bin .rem (.t 67) (.c (.int .u64 8))),none⟩,⟨some 69,.op (.fieldAddr 1 (.t 11)),none⟩,⟨some 70,.op (.ld1 (.t 69)),none⟩,⟨some 71,.op (.bin .rem (.t 70) (.c (.int .u64 9))),none⟩,⟨some 72,.op (.build [.int .u64 0,.int .u64 0] [(0,1,(.t 68)),(1,1,(.t 71))]),none⟩,⟨none,.op (.st 2 (.t 11) (.t 72)),none⟩]) (.skip))) (.seq (.reg [1,4,5,6,8,9,11,19,20,21,57,58,59,74] [
 ⟨some 73,.op (.mv (.t 10)),none⟩,⟨some 74,.op (.bin .lss (.t 73) (.c (.int .i64 6))),none⟩]) (.cond (.t 74) (.reg [1,4,5,6,8,9,19,20,21,57,58,59] [
 ⟨some 75,.op (.mv (.t 9)),none⟩,⟨some 76,.op (.ldn 2 (.t 11)),none⟩,⟨some 77,.op (.buildSl 2 [.int .u64 0,.int .u64 0] 1 [(0,(.t 76))]),none⟩,⟨some 78,.op (.append 2 16 (.t 75) (.t 77)),none⟩,⟨some 9,.op (.mv (.t 78)),none⟩]) (.skip)))))) (.reg [1,4,5,6,8,9,19,20,21,57,58,59] [
 ⟨some 79,.op (.bin .add (.t 59) (.c (.int .i64 1))),none⟩,⟨some 59,.op (.mv (.t 79)),none⟩]))))))) (.seq (.reg [1,4,5,6,8,9,12,19,20,21] [
 ⟨some 80,.op (.fieldAddr 0 (.t 5)),none⟩,⟨some 81,.op (.fieldAddr 1 (.t 80)),none⟩,⟨some 82,.op (.ld1 (.t 81)),none⟩,⟨some 83,.op (.build [.int .u64 0,.int .u64 0] [(0,1,(.c (.int .u64 0))),(1,1,(.t 82))]),none⟩,⟨some 84,.op (.buildSl 2 [.int .u64 0,.int .u64 0] 1 [(0,(.t 83))]),none⟩,⟨some 12,.op (.mv (.t 84)),none⟩]) (.seq (.seq (.reg [1,4,5,6,8,9,12,19,20,21,90] [
 ⟨some 85,.op (.fieldAddr 0 (.t 8)),none⟩,⟨some 86,.op (.ld1 (.t 85)),none⟩,⟨some 87,.op (.fieldAddr 0 (.t 5)),none⟩,⟨some 88,.op (.fieldAddr 0 (.t 87)),none⟩,⟨some 89,.op (.ld1 (.t 88)),none⟩,⟨some 90,.op (.bin .gtr (.t 86) (.t 89)),none⟩]) (.cond (.t 90) (.reg [1,4,5,6,8,9,12,19,20,21] [
 ⟨some 12,.op (.mv (.c (.nilsl))),none⟩]) (.skip))) (.seq (.reg [1,4,5,6,8,9,19,20,21] [
 ⟨some 91,.op (.mv (.t 9)),none⟩,⟨some 92,.op (.mv (.t 12)),none⟩,⟨some 93,.call (.c (.fn 63 [] [])) [(.t 91),(.t 92)],none⟩,⟨some 9,.op (.mv (.t 93)),none⟩]) (.seq (.reg [1,4,5,6,8,9,19,20,21,96] [
 ⟨some 94,.op (.mv (.t 9)),none⟩,⟨some 95,.op (.len 1 (.t 94)),none⟩,⟨some 96,.op (.bin .gtr (.t 95) (.c (.int .i64 0))),none⟩]) (.cond (.t 96) (.seq (.reg [1,4,5,8,19,20,21] [
 ⟨some 97,.op (.fieldAddr 2 (.t 5)),none⟩,⟨some 98,.op (.ld1 (.t 97)),none⟩,⟨some 99,.op (.fieldAddr 0 (.t 8)),none⟩,⟨some 100,.op (.ld1 (.t 99)),none⟩,⟨some 101,.op (.mv (.t 9)),none⟩,⟨some 102,.op (.build [.int .u64 0,.nilsl] [(0,1,(.t 100)),(1,1,(.t 101))]),none⟩,⟨some 103,.op (.buildSl 2 [.int .u64 0,.nilsl] 1 [(0,(.t 102))]),none⟩,⟨some 104,.op (.append 2 32 (.t 98) (.t 103)),none⟩,⟨some 105,.op (.fieldAddr 2 (.t 5)),none⟩,⟨none,.op (.st 1 (.t 105) (.t 104)),none⟩]) (.reg [1,4,5,6,19,20,21] [
 ⟨some 106,.op (.fieldAddr 0 (.t 8)),none⟩,⟨some 107,.op (.ld1 (.t 106)),none⟩,⟨some 6,.op (.mv (.t 107)),none⟩])) (.skip))))))))))))) (.reg [1,4,5,6,19,20,21] [
 ⟨some 108,.op (.bin .add (.t 21) (.c (.int .i64 1))),none⟩,⟨some 21,.op (.mv (.t 108)),none⟩]))))))) (.seq (.reg [4] [
 ⟨some 109,.op (.ldn 3 (.t 5)),none⟩,⟨none,.op (.st 3 (.t 4) (.t 109)),none⟩]) (.ret)))))
theorem cf22 : compF Tryz.prog Tryz.f22 h22 = some (ac22,rs22) := by kernel_rfl
/-! mailcoach/pack.Read params 2 -/
def h23 : Hints := ⟨[(6,[4]),(5,[4]),(4,[4,18]),(3,[4,5]),(2,[1,4,5]),(1,[0,1,4]),(0,[0,1,4])],[],[]⟩
def rs23 : List ARes := [.c1 4]
def ac23 : ACode :=
 .seq (.reg [0,1,4] [
 ⟨some 4,.op (.alloc [.int .i64 0]),none⟩]) (.seq (.reg [0,1,4] [
 ⟨some 6,.op (.mkfn 64 [] [(.t 4)]),none⟩,⟨none,.op (.stuck),none⟩]) (.seq (.reg [1,4,5] [
 ⟨some 7,.op (.mv (.t 0)),none⟩,⟨some 8,.op (.build [.nilsl] [(0,1,(.t 7))]),none⟩,⟨some 9,.op (.box (.t 8)),none⟩,⟨some 5,.op (.mv (.t 9)),none⟩]) (.seq (.reg [4,5] [
 ⟨some 10,.op (.mv (.t 1)),none⟩,⟨some 11,.op (.mv (.t 5)),none⟩,⟨some 12,.call (.t 10) [(.t 11)],none⟩]) (.seq (.seq (.reg [4,18] [
 ⟨some 13,.op (.mv (.t 5)),none⟩,⟨some 14,.op (.nilCheck (.t 13)),none⟩,⟨some 15,.op (.fieldAddr 0 (.t 14)),none⟩,⟨some 16,.op (.ld1 (.t 15)),none⟩,⟨some 17,.op (.len 1 (.t 16)),none⟩,⟨some 18,.op (.bin .gtr (.t 17) (.c (.int .i64 0))),none⟩]) (.cond (.t 18) (.seq (.reg [4] [
 ⟨none,.op (.st 1 (.t 4) (.c (.int .i64 5))),none⟩]) (.ret)) (.skip))) (.seq (.reg [4] [
 ⟨none,.op (.st 1 (.t 4) (.c (.int .i64 0))),none⟩]) (.ret))))))
theorem cf23 : compF Tryz.prog Tryz.f23 h23 = some (ac23,rs23) := by kernel_rfl
/-! mailcoach/codec.Decode$1 params 2 -/
def h24 : Hints := ⟨[(11,[]),(10,[0,49]),(9,[0,1]),(8,[0,1,27,28]),(7,[0,1,27,28]),(6,[0,1,27,28,29]),(5,[0,1,27,28]),(4,[0,1,10,11]),(3,[0,1,10,11]),(2,[0,1,10,11,12]),(1,[0,1,10,11]),(0,[0,1])],[(6,[0,1,27,28]),(2,[0,1,10,11])],[(3,[(0,[]),(1,[]),(2,[]),(4,[]),(6,[]),(3,[1]),(5,[1]),(7,[1]),(8,[]),(9,[]),(10,[]),(11,[]),(12,[])]),(7,[(0,[]),(1,[]),(2,[]),(4,[]),(6,[]),(3,[1]),(5,[1]),(7,[1]),(8,[]),(9,[]),(10,[]),(11,[]),(12,[])])]⟩
def rs24 : List ARes := []
def ac24 : ACode :=
 .seq (.reg [0,1] [
 ⟨some 3,.op (.mv (.t 0)),none⟩,⟨some 4,.call (.c (.fn 25 [] [])) [(.t 3)],none⟩,⟨some 5,.op (.mv (.t 0)),none⟩,⟨some 6,.call (.c (.fn 25 [] [])) [(.t 5)],none⟩,⟨some 7,.op (.fieldAddr 0 (.t 1)),none⟩,⟨none,.op (.st 1 (.t 7) (.t 4)),none⟩,⟨some 8,.op (.fieldAddr 1 (.t 1)),none⟩,⟨none,.op (.st 1 (.t 8) (.t 6)),none⟩]) (.seq (.seq (.reg [0,1,10,11] [
 ⟨some 9,.op (.mv (.t 0)),none⟩,⟨some 10,.call (.c (.fn 26 [] [])) [(.t 9)],none⟩,⟨some 11,.op (.mv (.c (.int .u8 0))),none⟩]) (.block 0 (.loop [0,1,10,11] (.seq (.reg [0,1,10,11,12] [
 ⟨some 12,.op (.bin .lss (.t 11) (.t 10)),none⟩]) (.seq (.cond (.t 12) (.skip) (.exit 0)) (.seq (.block 1 (.dreg [0,1,10,11] [
 (⟨some 13,.op (.fieldAddr 2 (.t 1)),none⟩,[]),(⟨some 14,.op (.ld1 (.t 13)),none⟩,[]),(⟨some 15,.op (.mv (.t 0)),none⟩,[]),(⟨some 17,.op (.mv (.t 0)),none⟩,[]),(⟨some 19,.op (.mv (.t 0)),none⟩,[]),(⟨some 16,.call (.c (.fn 25 [] [])) [(.t 15)],none⟩,[1]),(⟨some 18,.call (.c (.fn 27 [] [])) [(.t 17)],none⟩,[1]),(⟨some 20,.call (.c (.fn 25 [] [])) [(.t 19)],none⟩,[1]),(⟨some 21,.op (.build [.int .u64 0,.bool false,.int .u64 0] [(0,1,(.t 16)),(1,1,(.t 18)),(2,1,(.t 20))]),none⟩,[]),(⟨some 22,.op (.buildSl 3 [.int .u64 0,.bool false,.int .u64 0] 1 [(0,(.t 21))]),none⟩,[]),(⟨some 23,.op (.append 3 24 (.t 14) (.t 22)),none⟩,[]),(⟨some 24,.op (.fieldAddr 2 (.t 1)),none⟩,[]),(⟨none,.op (.st 1 (.t 24) (.t 23)),none⟩,[])])) (.reg [0,1,10,11] [
 ⟨some 25,.op (.bin .add (.t 11) (.c (.int .u8 1))),none⟩,⟨some 11,.op (.mv (.t 25)),none⟩]))))))) (.seq (.seq (.reg [0,1,27,28] [
 ⟨some 26,.op (.mv (.t 0)),none⟩,⟨some 27,.call (.c (.fn 26 [] [])) [(.t 26)],none⟩,⟨some 28,.op (.mv (.c (.int .u8 0))),none⟩]) (.block 2 (.loop [0,1,27,28] (.seq (.reg [0,1,27,28,29] [
 ⟨some 29,.op (.bin .lss (.t 28) (.t 27)),none⟩]) (.seq (.cond (.t 29) (.skip) (.exit 2)) (.seq (.block 3 (.dreg [0,1,27,28] [
 (⟨some 30,.op (.fieldAddr 3 (.t 1)),none⟩,[]),(⟨some 31,.op (.ld1 (.t 30)),none⟩,[]),(⟨some 32,.op (.mv (.t 0)),none⟩,[]),(⟨some 34,.op (.mv (.t 0)),none⟩,[]),(⟨some 36,.op (.mv (.t 0)),none⟩,[]),(⟨some 33,.call (.c (.fn 28 [] [])) [(.t 32)],none⟩,[1]),(⟨some 35,.call (.c (.fn 26 [] [])) [(.t 34)],none⟩,[1]),(⟨some 37,.call (.c (.fn 29 [] [])) [(.t 36)],none⟩,[1]),(⟨some 38,.op (.build [.str ⟨#[]⟩,.int .u8 0,.int .u64 0,.int .u64 0,.nilsl] [(0,1,(.t 33)),(1,1,(.t 35)),(2,3,(.t 37))]),none⟩,[]),(⟨some 39,.op (.buildSl 5 [.str ⟨#[]⟩,.int .u8 0,.int .u64 0,.int .u64 0,.nilsl] 1 [(0,(.t 38))]),none⟩,[]),(⟨some 40,.op (.append 5 64 (.t 31) (.t 39)),none⟩,[]),(⟨some 41,.op (.fieldAddr 3 (.t 1)),none⟩,[]),(⟨none,.op (.st 1 (.t 41) (.t 40)),none⟩,[])])) (.reg [0,1,27,28] [
 ⟨some 42,.op (.bin .add (.t 28) (.c (.int .u8 1))),none⟩,⟨some 28,.op (.mv (.t 42)),none⟩]))))))) (.seq (.reg [0,1] [
 ⟨some 43,.op (.mv (.t 0)),none⟩,⟨some 44,.call (.c (.fn 30 [] [])) [(.t 43)],none⟩,⟨some 45,.call (.c (.fn 31 [] [])) [(.t 44)],none⟩,⟨some 46,.op (.fieldAddr 4 (.t 1)),none⟩,⟨none,.op (.st 1 (.t 46) (.t 45)),none⟩]) (.seq (.reg [0,49] [
 ⟨some 47,.op (.ldn 5 (.t 1)),none⟩,⟨some 48,.call (.c (.fn 32 [] [])) [(.t 47)],none⟩,⟨some 49,.op (.un .not (.t 48)),none⟩]) (.cond (.t 49) (.reg [] [
 ⟨some 50,.op (.mv (.t 0)),none⟩,⟨some 51,.call (.c (.fn 33 [] [])) [(.t 50),(.c (.int .i64 23))],none⟩]) (.skip))))))
theorem cf24 : compF Tryz.prog Tryz.f24 h24 = some (ac24,rs24) := by kernel_rfl
/-! (*mailcoach/pack.Reader).U64 params 1 -/
def h25 : Hints := ⟨[(1,[2]),(0,[0])],[],[]⟩
def rs25 : List ARes := [.t 2]
def ac25 : ACode :=
 .seq (.reg [0] [
 ⟨some 2,.op (.mv (.c (.int .u64 0))),none⟩]) (.seq (.reg [2] [
 ⟨some 3,.op (.mv (.t 0)),none⟩,⟨some 4,.call (.c (.fn 65 [] [])) [(.t 3),(.c (.int .u64 8))],none⟩,⟨some 2,.op (.mv (.t 4)),none⟩]) (.ret))
theorem cf25 : compF Tryz.prog Tryz.f25 h25 = some (ac25,rs25) := by kernel_rfl
/-! (*mailcoach/pack.Reader).U8 params 1 -/
def h26 : Hints := ⟨[(1,[2]),(0,[0])],[],[]⟩
def rs26 : List ARes := [.t 2]
def ac26 : ACode :=
 .seq (.reg [0] [
 ⟨some 2,.op (.mv (.c (.int .u8 0))),none⟩]) (.seq (.reg [2] [
 ⟨some 3,.op (.mv (.t 0)),none⟩,⟨some 4,.call (.c (.fn 65 [] [])) [(.t 3),(.c (.int .u64 1))],none⟩,⟨some 5,.op (.toInt .u8 (.t 4)),none⟩,⟨some 2,.op (.mv (.t 5)),none⟩]) (.ret))
theorem cf26 : compF Tryz.prog Tryz.f26 h26 = some (ac26,rs26) := by kernel_rfl
/-! mailcoach/codec.yes params 1 -/
def h27 : Hints := ⟨[(4,[2]),(3,[3]),(2,[0,3,7]),(1,[0,3]),(0,[0])],[],[]⟩
def rs27 : List ARes := [.t 2]
def ac27 : ACode :=
 .seq (.reg [0] [
 ⟨some 2,.op (.mv (.c (.bool false))),none⟩]) (.seq (.reg [0,3] [
 ⟨some 4,.op (.mv (.t 0)),none⟩,⟨some 5,.call (.c (.fn 26 [] [])) [(.t 4)],none⟩,⟨some 3,.op (.mv (.t 5)),none⟩]) (.seq (.seq (.reg [0,3,7] [
 ⟨some 6,.op (.mv (.t 3)),none⟩,⟨some 7,.op (.bin .gtr (.t 6) (.c (.int .u8 1))),none⟩]) (.cond (.t 7) (.reg [3] [
 ⟨some 8,.op (.mv (.t 0)),none⟩,⟨some 9,.call (.c (.fn 33 [] [])) [(.t 8),(.c (.int .i64 16))],none⟩]) (.skip))) (.seq (.reg [2] [
 ⟨some 10,.op (.mv (.t 3)),none⟩,⟨some 11,.op (.bin .eql (.t 10) (.c (.int .u8 1))),none⟩,⟨some 2,.op (.mv (.t 11)),none⟩]) (.ret))))
theorem cf27 : compF Tryz.prog Tryz.f27 h27 = some (ac27,rs27) := by kernel_rfl
/-! (*mailcoach/pack.Reader).Text params 1 -/
def h28 : Hints := ⟨[(4,[2]),(3,[3]),(2,[3,8]),(1,[3]),(0,[0])],[],[]⟩
def rs28 : List ARes := [.t 2]
def ac28 : ACode :=
 .seq (.reg [0] [
 ⟨some 2,.op (.mv (.c (.str ⟨#[]⟩))),none⟩]) (.seq (.reg [3] [
 ⟨some 4,.op (.mv (.t 0)),none⟩,⟨some 5,.call (.c (.fn 57 [] [])) [(.t 4)],none⟩,⟨some 3,.op (.mv (.t 5)),none⟩]) (.seq (.seq (.reg [3,8] [
 ⟨some 6,.op (.mv (.t 3)),none⟩,⟨some 7,.call (.c (.fn 66 [] [])) [(.t 6)],none⟩,⟨some 8,.op (.un .not (.t 7)),none⟩]) (.cond (.t 8) (.reg [3] [
 ⟨some 9,.op (.build [.int .i64 0] [(0,1,(.c (.int .i64 6)))]),none⟩,⟨some 10,.op (.mkIface 138 (.t 9)),none⟩,⟨none,.panic (.t 10),none⟩]) (.skip))) (.seq (.reg [2] [
 ⟨some 11,.op (.mv (.t 3)),none⟩,⟨some 12,.op (.bytesStr (.t 11)),none⟩,⟨some 2,.op (.mv (.t 12)),none⟩]) (.ret))))
theorem cf28 : compF Tryz.prog Tryz.f28 h28 = some (ac28,rs28) := by kernel_rfl
/-! mailcoach/cursor.Take params 1 -/
def h29 : Hints := ⟨[(13,[2]),(12,[2,3]),(11,[0,2,3,42]),(10,[0,2,3,12,13]),(9,[0,2,3,12,13]),(8,[0,2,3,4,12,13,19,20]),(7,[0,2,3,4,12,13,19,20]),(6,[0,2,3,4,12,13,19,20,21]),(5,[0,2,3,4,12,13,19,20]),(4,[0,2,3,4,12,13]),(3,[0,2,3,12,13,14]),(2,[0,2,3,12,13]),(1,[0,2,3]),(0,[0,2])],[(6,[0,2,3,4,12,13,19,20]),(3,[0,2,3,12,13])],[(7,[(0,[]),(1,[]),(2,[]),(4,[]),(3,[1]),(5,[1]),(6,[]),(7,[]),(8,[]),(9,[]),(10,[])])]⟩
def rs29 : List ARes := [.cn 2 3]
def ac29 : ACode :=
 .seq (.reg [0,2] [
 ⟨some 2,.op (.alloc [.int .u64 0,.int .u64 0,.nilsl]),none⟩]) (.seq (.reg [0,2,3] [
 ⟨some 5,.op (.mv (.t 0)),none⟩,⟨some 6,.call (.c (.fn 25 [] [])) [(.t 5)],none⟩,⟨some 7,.op (.mv (.t 0)),none⟩,⟨some 8,.call (.c (.fn 25 [] [])) [(.t 7)],none⟩,⟨some 9,.op (.build [.int .u64 0,.int .u64 0] [(0,1,(.t 6)),(1,1,(.t 8))]),none⟩,⟨some 10,.op (.build [.int .u64 0,.int .u64 0,.nilsl] [(0,2,(.t 9))]),none⟩,⟨some 3,.op (.alloc [.int .u64 0,.int .u64 0,.nilsl]),none⟩,⟨none,.op (.st 3 (.t 3) (.t 10)),none⟩]) (.seq (.seq (.reg [0,2,3,12,13] [
 ⟨some 11,.op (.mv (.t 0)),none⟩,⟨some 12,.call (.c (.fn 58 [] [])) [(.t 11)],none⟩,⟨some 13,.op (.mv (.c (.int .u16 0))),none⟩]) (.block 0 (.loop [0,2,3,12,13] (.seq (.reg [0,2,3,12,13,14] [
 ⟨some 14,.op (.bin .lss (.t 13) (.t 12)),none⟩]) (.seq (.cond (.t 14) (.skip) (.exit 0)) (.seq (.block 1 (.seq (.reg [0,2,3,4,12,13] [
 ⟨some 15,.op (.mv (.t 0)),none⟩,⟨some 16,.call (.c (.fn 25 [] [])) [(.t 15)],none⟩,⟨some 17,.op (.build [.int .u64 0,.nilsl] [(0,1,(.t 16))]),none⟩,⟨some 4,.op (.alloc [.int .u64 0,.nilsl]),none⟩,⟨none,.op (.st 2 (.t 4) (.t 17)),none⟩]) (.seq (.seq (.reg [0,2,3,4,12,13,19,20] [
 ⟨some 18,.op (.mv (.t 0)),none⟩,⟨some 19,.call (.c (.fn 58 [] [])) [(.t 18)],none⟩,⟨some 20,.op (.mv (.c (.int .u16 0))),none⟩]) (.block 2 (.loop [0,2,3,4,12,13,19,20] (.seq (.reg [0,2,3,4,12,13,19,20,21] [
 ⟨some 21,.op (.bin .lss (.t 20) (.t 19)),none⟩]) (.seq (.cond (.t 21) (.skip) (.exit 2)) (.seq (.block 3 (.dreg [0,2,3,4,12,13,19,20] [
 (⟨some 22,.op (.fieldAddr 1 (.t 4)),none⟩,[]),(⟨some 23,.op (.ld1 (.t 22)),none⟩,[]),(⟨some 24,.op (.mv (.t 0)),none⟩,[]),(⟨some 26,.op (.mv (.t 0)),none⟩,[]),(⟨some 25,.call (.c (.fn 25 [] [])) [(.t 24)],none⟩,[1]),(⟨some 27,.call (.c (.fn 25 [] [])) [(.t 26)],none⟩,[1]),(⟨some 28,.op (.build [.int .u64 0,.int .u64 0] [(0,1,(.t 25)),(1,1,(.t 27))]),none⟩,[]),(⟨some 29,.op (.buildSl 2 [.int .u64 0,.int .u64 0] 1 [(0,(.t 28))]),none⟩,[]),(⟨some 30,.op (.append 2 16 (.t 23) (.t 29)),none⟩,[]),(⟨some 31,.op (.fieldAddr 1 (.t 4)),none⟩,[]),(⟨none,.op (.st 1 (.t 31) (.t 30)),none⟩,[])])) (.reg [0,2,3,4,12,13,19,20] [
 ⟨some 32,.op (.bin .add (.t 20) (.c (.int .u16 1))),none⟩,⟨some 20,.op (.mv (.t 32)),none⟩]))))))) (.reg [0,2,3,12,13] [
 ⟨some 33,.op (.fieldAddr 2 (.t 3)),none⟩,⟨some 34,.op (.ld1 (.t 33)),none⟩,⟨some 35,.op (.ldn 2 (.t 4)),none⟩,⟨some 36,.op (.buildSl 2 [.int .u64 0,.nilsl] 1 [(0,(.t 35))]),none⟩,⟨some 37,.op (.append 2 32 (.t 34) (.t 36)),none⟩,⟨some 38,.op (.fieldAddr 2 (.t 3)),none⟩,⟨none,.op (.st 1 (.t 38) (.t 37)),none⟩])))) (.reg [0,2,3,12,13] [
 ⟨some 39,.op (.bin .add (.t 13) (.c (.int .u16 1))),none⟩,⟨some 13,.op (.mv (.t 39)),none⟩]))))))) (.seq (.seq (.reg [0,2,3,42] [
 ⟨some 40,.op (.ldn 3 (.t 3)),none⟩,⟨some 41,.call (.c (.fn 67 [] [])) [(.t 40)],none⟩,⟨some 42,.op (.un .not (.t 41)),none⟩]) (.cond (.t 42) (.reg [2,3] [
 ⟨some 43,.op (.mv (.t 0)),none⟩,⟨some 44,.call (.c (.fn 33 [] [])) [(.t 43),(.c (.int .i64 23))],none⟩]) (.skip))) (.seq (.reg [2] [
 ⟨some 45,.op (.ldn 3 (.t 3)),none⟩,⟨none,.op (.st 3 (.t 2) (.t 45)),none⟩]) (.ret)))))
theorem cf29 : compF Tryz.prog Tryz.f29 h29 = some (ac29,rs29) := by kernel_rfl
/-! mailcoach/dedup.Take params 1 -/
def h30 : Hints := ⟨[(12,[2]),(11,[0,3,4,8,9]),(10,[0,3,4,8,9]),(9,[0,3,4,5,8,9]),(8,[0,3,5,8,9]),(7,[0,3,5,8,9,46]),(6,[0,3,4,5,8,9]),(5,[0,3,4,5,8,9]),(4,[0,3,4,8,9,10]),(3,[0,3,4,8,9]),(2,[0,3,4]),(1,[0,3]),(0,[0])],[(4,[0,3,4,8,9])],[(10,[(0,[]),(1,[]),(2,[]),(3,[]),(4,[]),(5,[]),(6,[]),(7,[])])]⟩
def rs30 : List ARes := [.t 2]
def ac30 : ACode :=
 .seq (.reg [0] [
 ⟨some 2,.op (.mv (.c (.nilp))),none⟩]) (.seq (.reg [0,3] [
 ⟨some 6,.call (.c (.fn 68 [] [])) [],none⟩,⟨some 3,.op (.mv (.t 6)),none⟩]) (.seq (.reg [0,3,4] [
 ⟨some 4,.op (.mv (.c (.str ⟨#[]⟩))),none⟩]) (.seq (.seq (.reg [0,3,4,8,9] [
 ⟨some 7,.op (.mv (.t 0)),none⟩,⟨some 8,.call (.c (.fn 26 [] [])) [(.t 7)],none⟩,⟨some 9,.op (.mv (.c (.int .u8 0))),none⟩]) (.block 0 (.loop [0,3,4,8,9] (.seq (.reg [0,3,4,8,9,10] [
 ⟨some 10,.op (.bin .lss (.t 9) (.t 8)),none⟩]) (.seq (.cond (.t 10) (.skip) (.exit 0)) (.seq (.block 1 (.seq (.reg [0,3,4,5,8,9] [
 ⟨some 11,.op (.mv (.t 0)),none⟩,⟨some 12,.call (.c (.fn 28 [] [])) [(.t 11)],none⟩,⟨some 13,.op (.mv (.t 0)),none⟩,⟨some 14,.call (.c (.fn 25 [] [])) [(.t 13)],none⟩,⟨some 15,.op (.mv (.t 0)),none⟩,⟨some 16,.call (.c (.fn 25 [] [])) [(.t 15)],none⟩,⟨some 17,.op (.mv (.t 0)),none⟩,⟨some 18,.call (.c (.fn 25 [] [])) [(.t 17)],none⟩,⟨some 19,.op (.build [.int .u64 0,.int .u64 0] [(0,1,(.t 16)),(1,1,(.t 18))]),none⟩,⟨some 20,.op (.build [.str ⟨#[]⟩,.int .u64 0,.int .u64 0,.int .u64 0,.int .u64 0] [(0,1,(.t 12)),(2,1,(.t 14)),(3,2,(.t 19))]),none⟩,⟨some 5,.op (.alloc [.str ⟨#[]⟩,.int .u64 0,.int .u64 0,.int .u64 0,.int .u64 0]),none⟩,⟨none,.op (.st 5 (.t 5) (.t 20)),none⟩]) (.seq (.reg [0,3,4,5,8,9] [
 ⟨some 21,.op (.fieldAddr 2 (.t 5)),none⟩,⟨some 22,.op (.ld1 (.t 21)),none⟩,⟨some 23,.op (.fieldAddr 1 (.t 5)),none⟩,⟨none,.op (.st 1 (.t 23) (.t 22)),none⟩]) (.seq (.seq (.reg [0,3,5,8,9,46] [
 ⟨some 24,.op (.fieldAddr 0 (.t 5)),none⟩,⟨some 25,.op (.ld1 (.t 24)),none⟩,⟨some 26,.op (.mv (.t 4)),none⟩,⟨some 27,.op (.bin .leq (.t 25) (.t 26)),none⟩,⟨some 28,.op (.mv (.t 27)),none⟩,⟨some 29,.op (.fieldAddr 0 (.t 5)),some (28,false)⟩,⟨some 30,.op (.ld1 (.t 29)),some (28,false)⟩,⟨some 31,.op (.len 9 (.t 30)),some (28,false)⟩,⟨some 32,.op (.bin .gtr (.t 31) (.c (.int .i64 64))),some (28,false)⟩,⟨some 33,.pick (.t 28) (.c (.bool true)) (.t 32),none⟩,⟨some 34,.op (.mv (.t 33)),none⟩,⟨some 35,.op (.fieldAddr 2 (.t 5)),some (34,false)⟩,⟨some 36,.op (.ld1 (.t 35)),some (34,false)⟩,⟨some 37,.op (.bin .eql (.t 36) (.c (.int .u64 0))),some (34,false)⟩,⟨some 38,.pick (.t 34) (.c (.bool true)) (.t 37),none⟩,⟨some 39,.op (.mv (.t 38)),none⟩,⟨some 40,.op (.mv (.t 3)),some (39,false)⟩,⟨some 41,.op (.nilCheck (.t 40)),some (39,false)⟩,⟨some 42,.op (.fieldAddr 0 (.t 41)),some (39,false)⟩,⟨some 43,.op (.ld1 (.t 42)),some (39,false)⟩,⟨some 44,.op (.len 2 (.t 43)),some (39,false)⟩,⟨some 45,.op (.bin .geq (.t 44) (.c (.int .i64 16))),some (39,false)⟩,⟨some 46,.pick (.t 39) (.c (.bool true)) (.t 45),none⟩]) (.cond (.t 46) (.reg [0,3,5,8,9] [
 ⟨some 47,.op (.mv (.t 0)),none⟩,⟨some 48,.call (.c (.fn 33 [] [])) [(.t 47),(.c (.int .i64 23))],none⟩]) (.skip))) (.seq (.reg [0,3,4,5,8,9] [
 ⟨some 49,.op (.fieldAddr 0 (.t 5)),none⟩,⟨some 50,.op (.ld1 (.t 49)),none⟩,⟨some 4,.op (.mv (.t 50)),none⟩]) (.dreg [0,3,4,8,9] [
 (⟨some 51,.op (.mv (.t 3)),none⟩,[]),(⟨some 52,.op (.nilCheck (.t 51)),none⟩,[]),(⟨some 53,.op (.fieldAddr 0 (.t 52)),none⟩,[]),(⟨some 54,.op (.ld1 (.t 53)),none⟩,[]),(⟨some 55,.op (.fieldAddr 0 (.t 5)),none⟩,[]),(⟨some 56,.op (.ld1 (.t 55)),none⟩,[]),(⟨some 57,.op (.ldn 5 (.t 5)),none⟩,[]),(⟨none,.op (.mapSet false [2] (.t 54) (.t 56) (.t 57)),none⟩,[])])))))) (.reg [0,3,4,8,9] [
 ⟨some 58,.op (.bin .add (.t 9) (.c (.int .u8 1))),none⟩,⟨some 9,.op (.mv (.t 58)),none⟩]))))))) (.seq (.reg [2] [
 ⟨some 59,.op (.mv (.t 3)),none⟩,⟨some 2,.op (.mv (.t 59)),none⟩]) (.ret)))))
theorem cf30 : compF Tryz.prog Tryz.f30 h30 = some (ac30,rs30) := by kernel_rfl
/-! (*mailcoach/dedup.Table).All params 1 -/
def h31 : Hints := ⟨[(3,[2]),(2,[2]),(1,[0,4]),(0,[0])],[],[]⟩
def rs31 : List ARes := [.t 2]
def ac31 : ACode :=
 .seq (.reg [0] [
 ⟨some 2,.op (.mv (.c (.nilsl))),none⟩]) (.seq (.seq (.reg [0,4] [
 ⟨some 3,.op (.mv (.t 0)),none⟩,⟨some 4,.op (.eqn 0 false (.t 3) (.c (.nilp))),none⟩]) (.cond (.t 4) (.seq (.reg [2] [
 ⟨some 2,.op (.mv (.c (.nilsl))),none⟩]) (.ret)) (.skip))) (.seq (.reg [2] [
 ⟨some 5,.op (.mv (.t 0)),none⟩,⟨some 6,.op (.nilCheck (.t 5)),none⟩,⟨some 7,.op (.fieldAddr 0 (.t 6)),none⟩,⟨some 8,.op (.ld1 (.t 7)),none⟩,⟨some 9,.call (.c (.fn 70 [] [])) [(.t 8)],none⟩,⟨some 10,.call (.c (.fn 69 [] [])) [(.t 9),(.c (.fn 71 [] []))],none⟩,⟨some 2,.op (.mv (.t 10)),none⟩]) (.ret)))
theorem cf31 : compF Tryz.prog Tryz.f31 h31 = some (ac31,rs31) := by kernel_rfl
/-! mailcoach/codec.Check params 1 -/
def h32 : Hints := ⟨[(9,[2]),(8,[1,36,37,38]),(7,[2]),(6,[1,36,37,38,83]),(5,[1,3,4,36,37,38]),(4,[1,36,37,38,39]),(3,[1,36,37,38]),(2,[2]),(1,[1,34]),(0,[1])],[(4,[1,36,37,38])],[(1,[(0,[]),(1,[]),(2,[]),(3,[]),(4,[]),(5,[]),(6,[]),(7,[]),(8,[]),(9,[]),(10,[]),(11,[]),(12,[]),(13,[]),(14,[]),(15,[]),(16,[]),(17,[]),(18,[]),(19,[]),(20,[]),(21,[]),(22,[]),(23,[]),(24,[]),(25,[]),(26,[]),(27,[]),(28,[]),(29,[])]),(6,[(0,[]),(1,[]),(2,[]),(3,[]),(4,[]),(5,[]),(6,[]),(7,[]),(8,[]),(9,[]),(10,[]),(11,[]),(12,[]),(13,[]),(14,[]),(15,[]),(16,[]),(17,[]),(18,[]),(19,[]),(20,[]),(21,[]),(22,[]),(23,[]),(24,[]),(25,[]),(26,[]),(27,[]),(28,[]),(29,[]),(30,[]),(31,[]),(32,[]),(33,[]),(34,[]),(35,[]),(36,[]),(37,[]),(38,[]),(39,[]),(40,[])])]⟩
def rs32 : List ARes := [.t 2]
def ac32 : ACode :=
 .seq (.reg [1] [
 ⟨some 1,.op (.box (.t 0)),none⟩,⟨some 2,.op (.mv (.c (.bool false))),none⟩]) (.seq (.seq (.dreg [1,34] [
 (⟨some 5,.op (.fieldAddr 2 (.t 1)),none⟩,[]),(⟨some 6,.op (.ld1 (.t 5)),none⟩,[]),(⟨some 7,.call (.c (.fn 73 [] [])) [(.t 6)],none⟩,[]),(⟨some 8,.op (.un .not (.t 7)),none⟩,[]),(⟨some 9,.op (.mv (.t 8)),none⟩,[]),(⟨some 10,.op (.fieldAddr 2 (.t 1)),some (9,false)⟩,[]),(⟨some 11,.op (.ld1 (.t 10)),some (9,false)⟩,[]),(⟨some 12,.op (.len 1 (.t 11)),some (9,false)⟩,[]),(⟨some 13,.op (.bin .gtr (.t 12) (.c (.int .i64 0))),some (9,false)⟩,[]),(⟨some 14,.op (.mv (.t 13)),some (9,false)⟩,[]),(⟨some 15,.op (.fieldAddr 2 (.t 1)),some (14,true)⟩,[]),(⟨some 16,.op (.ld1 (.t 15)),some (14,true)⟩,[]),(⟨some 17,.op (.fieldAddr 2 (.t 1)),some (14,true)⟩,[]),(⟨some 18,.op (.ld1 (.t 17)),some (14,true)⟩,[]),(⟨some 19,.op (.len 1 (.t 18)),some (14,true)⟩,[]),(⟨some 20,.op (.bin .sub (.t 19) (.c (.int .i64 1))),some (14,true)⟩,[]),(⟨some 21,.op (.idxAddr 3 (.t 16) (.t 20)),some (14,true)⟩,[]),(⟨some 22,.op (.fieldAddr 0 (.t 21)),some (14,true)⟩,[]),(⟨some 23,.op (.ld1 (.t 22)),some (14,true)⟩,[]),(⟨some 24,.op (.fieldAddr 1 (.t 1)),some (14,true)⟩,[]),(⟨some 25,.op (.ld1 (.t 24)),some (14,true)⟩,[]),(⟨some 26,.op (.bin .gtr (.t 23) (.t 25)),some (14,true)⟩,[]),(⟨some 27,.pick (.t 14) (.t 26) (.c (.bool false)),some (9,false)⟩,[]),(⟨some 28,.pick (.t 9) (.c (.bool true)) (.t 27),none⟩,[]),(⟨some 29,.op (.mv (.t 28)),none⟩,[]),(⟨some 30,.op (.fieldAddr 3 (.t 1)),some (29,false)⟩,[]),(⟨some 31,.op (.ld1 (.t 30)),some (29,false)⟩,[]),(⟨some 32,.op (.len 1 (.t 31)),some (29,false)⟩,[]),(⟨some 33,.op (.bin .gtr (.t 32) (.c (.int .i64 2))),some (29,false)⟩,[]),(⟨some 34,.pick (.t 29) (.c (.bool true)) (.t 33),none⟩,[])]) (.cond (.t 34) (.seq (.reg [2] [
 ⟨some 2,.op (.mv (.c (.bool false))),none⟩]) (.ret)) (.skip))) (.seq (.seq (.reg [1,36,37,38] [
 ⟨some 35,.op (.fieldAddr 3 (.t 1)),none⟩,⟨some 36,.op (.ld1 (.t 35)),none⟩,⟨some 37,.op (.len 1 (.t 36)),none⟩,⟨some 38,.op (.mv (.c (.int .i64 0))),none⟩]) (.block 0 (.loop [1,36,37,38] (.seq (.reg [1,36,37,38,39] [
 ⟨some 39,.op (.bin .lss (.t 38) (.t 37)),none⟩]) (.seq (.cond (.t 39) (.skip) (.exit 0)) (.seq (.block 1 (.seq (.reg [1,3,4,36,37,38] [
 ⟨some 40,.op (.mv (.t 38)),none⟩,⟨some 41,.op (.idxAddr 5 (.t 36) (.t 38)),none⟩,⟨some 42,.op (.ldn 5 (.t 41)),none⟩,⟨some 4,.op (.alloc [.str ⟨#[]⟩,.int .u8 0,.int .u64 0,.int .u64 0,.nilsl]),none⟩,⟨some 3,.op (.mv (.t 40)),none⟩,⟨none,.op (.st 5 (.t 4) (.t 42)),none⟩]) (.seq (.dreg [1,36,37,38,83] [
 (⟨some 43,.op (.fieldAddr 0 (.t 4)),none⟩,[]),(⟨some 44,.op (.ld1 (.t 43)),none⟩,[]),(⟨some 45,.op (.bin .eql (.t 44) (.c (.str ⟨#[]⟩))),none⟩,[]),(⟨some 46,.op (.mv (.t 45)),none⟩,[]),(⟨some 47,.op (.fieldAddr 0 (.t 4)),some (46,false)⟩,[]),(⟨some 48,.op (.ld1 (.t 47)),some (46,false)⟩,[]),(⟨some 49,.op (.len 9 (.t 48)),some (46,false)⟩,[]),(⟨some 50,.op (.bin .gtr (.t 49) (.c (.int .i64 64))),some (46,false)⟩,[]),(⟨some 51,.pick (.t 46) (.c (.bool true)) (.t 50),none⟩,[]),(⟨some 52,.op (.mv (.t 51)),none⟩,[]),(⟨some 53,.op (.mv (.t 3)),some (52,false)⟩,[]),(⟨some 54,.op (.bin .gtr (.t 53) (.c (.int .i64 0))),some (52,false)⟩,[]),(⟨some 55,.op (.mv (.t 54)),some (52,false)⟩,[]),(⟨some 56,.op (.fieldAddr 3 (.t 1)),some (55,true)⟩,[]),(⟨some 57,.op (.ld1 (.t 56)),some (55,true)⟩,[]),(⟨some 58,.op (.mv (.t 3)),some (55,true)⟩,[]),(⟨some 59,.op (.bin .sub (.t 58) (.c (.int .i64 1))),some (55,true)⟩,[]),(⟨some 60,.op (.idxAddr 5 (.t 57) (.t 59)),some (55,true)⟩,[]),(⟨some 61,.op (.fieldAddr 0 (.t 60)),some (55,true)⟩,[]),(⟨some 62,.op (.ld1 (.t 61)),some (55,true)⟩,[]),(⟨some 63,.op (.fieldAddr 0 (.t 4)),some (55,true)⟩,[]),(⟨some 64,.op (.ld1 (.t 63)),some (55,true)⟩,[]),(⟨some 65,.op (.bin .geq (.t 62) (.t 64)),some (55,true)⟩,[]),(⟨some 66,.pick (.t 55) (.t 65) (.c (.bool false)),some (52,false)⟩,[]),(⟨some 67,.pick (.t 52) (.c (.bool true)) (.t 66),none⟩,[]),(⟨some 68,.op (.mv (.t 67)),none⟩,[]),(⟨some 69,.op (.fieldAddr 1 (.t 4)),some (68,false)⟩,[]),(⟨some 70,.op (.ld1 (.t 69)),some (68,false)⟩,[]),(⟨some 71,.op (.bin .lss (.t 70) (.c (.int .u8 1))),some (68,false)⟩,[]),(⟨some 72,.pick (.t 68) (.c (.bool true)) (.t 71),none⟩,[]),(⟨some 73,.op (.mv (.t 72)),none⟩,[]),(⟨some 74,.op (.fieldAddr 1 (.t 4)),some (73,false)⟩,[]),(⟨some 75,.op (.ld1 (.t 74)),some (73,false)⟩,[]),(⟨some 76,.op (.bin .gtr (.t 75) (.c (.int .u8 4))),some (73,false)⟩,[]),(⟨some 77,.pick (.t 73) (.c (.bool true)) (.t 76),none⟩,[]),(⟨some 78,.op (.mv (.t 77)),none⟩,[]),(⟨some 79,.op (.fieldAddr 2 (.t 4)),some (78,false)⟩,[]),(⟨some 80,.op (.ldn 3 (.t 79)),some (78,false)⟩,[]),(⟨some 81,.call (.c (.fn 67 [] [])) [(.t 80)],some (78,false)⟩,[]),(⟨some 82,.op (.un .not (.t 81)),some (78,false)⟩,[]),(⟨some 83,.pick (.t 78) (.c (.bool true)) (.t 82),none⟩,[])]) (.cond (.t 83) (.seq (.reg [2] [
 ⟨some 2,.op (.mv (.c (.bool false))),none⟩]) (.ret)) (.skip))))) (.reg [1,36,37,38] [
 ⟨some 84,.op (.bin .add (.t 38) (.c (.int .i64 1))),none⟩,⟨some 38,.op (.mv (.t 84)),none⟩]))))))) (.seq (.reg [2] [
 ⟨some 2,.op (.mv (.c (.bool true))),none⟩]) (.ret))))
theorem cf32 : compF Tryz.prog Tryz.f32 h32 = some (ac32,rs32) := by kernel_rfl
/-! (*mailcoach/pack.Reader).Fail params 2 -/
def h33 : Hints := ⟨[(1,[]),(0,[1,5])],[],[]⟩
def rs33 : List ARes := []
def ac33 : ACode :=
 .seq (.reg [1,5] [
 ⟨some 4,.op (.mv (.t 1)),none⟩,⟨some 5,.op (.bin .neq (.t 4) (.c (.int .i64 0))),none⟩]) (.cond (.t 5) (.reg [] [
 ⟨some 6,.op (.mv (.t 1)),none⟩,⟨some 7,.op (.build [.int .i64 0] [(0,1,(.t 6))]),none⟩,⟨some 8,.op (.mkIface 138 (.t 7)),none⟩,⟨none,.panic (.t 8),none⟩]) (.skip))
theorem cf33 : compF Tryz.prog Tryz.f33 h33 = some (ac33,rs33) := by kernel_rfl
/-! (*mailcoach/mailcoachref01.Reader).Number params 2 -/
def h34 : Hints := ⟨[(11,[4]),(10,[5]),(8,[0,1,5,6]),(9,[0,1,5,6]),(7,[0,1,5,6,31]),(6,[0,1,5,6]),(5,[0,1,5]),(4,[4]),(3,[0,1,28]),(2,[0,1]),(1,[0,1,20]),(0,[0,1])],[(7,[0,1,5,6])],[]⟩
def rs34 : List ARes := [.t 4]
def ac34 : ACode :=
 .seq (.reg [0,1] [
 ⟨some 4,.op (.mv (.c (.int .u64 0))),none⟩]) (.seq (.seq (.reg [0,1,20] [
 ⟨some 7,.op (.mv (.t 0)),none⟩,⟨some 8,.op (.nilCheck (.t 7)),none⟩,⟨some 9,.op (.fieldAddr 1 (.t 8)),none⟩,⟨some 10,.op (.ld1 (.t 9)),none⟩,⟨some 11,.op (.bin .eql (.t 10) (.c (.int .i64 0))),none⟩,⟨some 12,.op (.mv (.t 11)),none⟩,⟨some 13,.op (.mv (.t 0)),some (12,true)⟩,⟨some 14,.op (.nilCheck (.t 13)),some (12,true)⟩,⟨some 15,.op (.fieldAddr 0 (.t 14)),some (12,true)⟩,⟨some 16,.op (.ld1 (.t 15)),some (12,true)⟩,⟨some 17,.op (.len 1 (.t 16)),some (12,true)⟩,⟨some 18,.op (.mv (.t 1)),some (12,true)⟩,⟨some 19,.op (.bin .lss (.t 17) (.t 18)),some (12,true)⟩,⟨some 20,.pick (.t 12) (.t 19) (.c (.bool false)),none⟩]) (.cond (.t 20) (.reg [0,1] [
 ⟨some 21,.op (.mv (.t 0)),none⟩,⟨some 22,.op (.nilCheck (.t 21)),none⟩,⟨some 23,.op (.fieldAddr 1 (.t 22)),none⟩,⟨none,.op (.st 1 (.t 23) (.c (.int .i64 4))),none⟩]) (.skip))) (.seq (.seq (.reg [0,1,28] [
 ⟨some 24,.op (.mv (.t 0)),none⟩,⟨some 25,.op (.nilCheck (.t 24)),none⟩,⟨some 26,.op (.fieldAddr 1 (.t 25)),none⟩,⟨some 27,.op (.ld1 (.t 26)),none⟩,⟨some 28,.op (.bin .neq (.t 27) (.c (.int .i64 0))),none⟩]) (.cond (.t 28) (.seq (.reg [4] [
 ⟨some 4,.op (.mv (.c (.int .u64 0))),none⟩]) (.ret)) (.skip))) (.seq (.reg [0,1,5] [
 ⟨some 5,.op (.mv (.c (.int .u64 0))),none⟩]) (.seq (.seq (.reg [0,1,5,6] [
 ⟨some 6,.op (.mv (.c (.int .i64 0))),none⟩]) (.block 0 (.loop [0,1,5,6] (.seq (.seq (.reg [0,1,5,6,31] [
 ⟨some 29,.op (.mv (.t 6)),none⟩,⟨some 30,.op (.mv (.t 1)),none⟩,⟨some 31,.op (.bin .lss (.t 29) (.t 30)),none⟩]) (.cond (.t 31) (.skip) (.exit 0))) (.seq (.block 1 (.reg [0,1,5,6] [
 ⟨some 34,.op (.mv (.t 5)),none⟩,⟨some 35,.op (.bin .mul (.t 34) (.c (.int .u64 256))),none⟩,⟨some 36,.op (.mv (.t 0)),none⟩,⟨some 37,.op (.nilCheck (.t 36)),none⟩,⟨some 38,.op (.fieldAddr 0 (.t 37)),none⟩,⟨some 39,.op (.ld1 (.t 38)),none⟩,⟨some 40,.op (.mv (.t 6)),none⟩,⟨some 41,.op (.idxAddr 1 (.t 39) (.t 40)),none⟩,⟨some 42,.op (.ld1 (.t 41)),none⟩,⟨some 43,.op (.toInt .u64 (.t 42)),none⟩,⟨some 44,.op (.bin .add (.t 35) (.t 43)),none⟩,⟨some 5,.op (.mv (.t 44)),none⟩])) (.reg [0,1,5,6] [
 ⟨some 32,.op (.mv (.t 6)),none⟩,⟨some 33,.op (.bin .add (.t 32) (.c (.int .i64 1))),none⟩,⟨some 6,.op (.mv (.t 33)),none⟩])))))) (.seq (.reg [5] [
 ⟨some 45,.op (.mv (.t 0)),none⟩,⟨some 46,.op (.mv (.t 0)),none⟩,⟨some 47,.op (.nilCheck (.t 46)),none⟩,⟨some 48,.op (.fieldAddr 0 (.t 47)),none⟩,⟨some 49,.op (.ld1 (.t 48)),none⟩,⟨some 50,.op (.mv (.t 1)),none⟩,⟨some 51,.op (.slice 1 (.t 49) (some (.t 50)) none none),none⟩,⟨some 52,.op (.nilCheck (.t 45)),none⟩,⟨some 53,.op (.fieldAddr 0 (.t 52)),none⟩,⟨none,.op (.st 1 (.t 53) (.t 51)),none⟩]) (.seq (.reg [4] [
 ⟨some 54,.op (.mv (.t 5)),none⟩,⟨some 4,.op (.mv (.t 54)),none⟩]) (.ret)))))))
theorem cf34 : compF Tryz.prog Tryz.f34 h34 = some (ac34,rs34) := by kernel_rfl
/-! mailcoach/mailcoachref21.flag params 1 -/
def h35 : Hints := ⟨[(4,[2]),(3,[3]),(2,[0,3,14]),(1,[0,3]),(0,[0])],[],[]⟩
def rs35 : List ARes := [.t 2]
def ac35 : ACode :=
 .seq (.reg [0] [
 ⟨some 2,.op (.mv (.c (.bool false))),none⟩]) (.seq (.reg [0,3] [
 ⟨some 4,.op (.mv (.t 0)),none⟩,⟨some 5,.call (.c (.fn 34 [] [])) [(.t 4),(.c (.int .i64 1))],none⟩,⟨some 3,.op (.mv (.t 5)),none⟩]) (.seq (.seq (.reg [0,3,14] [
 ⟨some 6,.op (.mv (.t 0)),none⟩,⟨some 7,.op (.nilCheck (.t 6)),none⟩,⟨some 8,.op (.fieldAddr 1 (.t 7)),none⟩,⟨some 9,.op (.ld1 (.t 8)),none⟩,⟨some 10,.op (.bin .eql (.t 9) (.c (.int .i64 0))),none⟩,⟨some 11,.op (.mv (.t 10)),none⟩,⟨some 12,.op (.mv (.t 3)),some (11,true)⟩,⟨some 13,.op (.bin .gtr (.t 12) (.c (.int .u64 1))),some (11,true)⟩,⟨some 14,.pick (.t 11) (.t 13) (.c (.bool false)),none⟩]) (.cond (.t 14) (.reg [3] [
 ⟨some 15,.op (.mv (.t 0)),none⟩,⟨some 16,.call (.c (.fn 39 [] [])) [(.t 15),(.c (.int .i64 16))],none⟩]) (.skip))) (.seq (.reg [2] [
 ⟨some 17,.op (.mv (.t 3)),none⟩,⟨some 18,.op (.bin .eql (.t 17) (.c (.int .u64 1))),none⟩,⟨some 2,.op (.mv (.t 18)),none⟩]) (.ret))))
theorem cf35 : compF Tryz.prog Tryz.f35 h35 = some (ac35,rs35) := by kernel_rfl
/-! (*mailcoach/mailcoachref01.Reader).Text params 1 -/
def h36 : Hints := ⟨[(4,[2]),(3,[3]),(2,[0,3,15]),(1,[0,3]),(0,[0])],[],[]⟩
def rs36 : List ARes := [.t 2]
def ac36 : ACode :=
 .seq (.reg [0] [
 ⟨some 2,.op (.mv (.c (.str ⟨#[]⟩))),none⟩]) (.seq (.reg [0,3] [
 ⟨some 4,.op (.mv (.t 0)),none⟩,⟨some 5,.call (.c (.fn 74 [] [])) [(.t 4)],none⟩,⟨some 3,.op (.mv (.t 5)),none⟩]) (.seq (.seq (.reg [0,3,15] [
 ⟨some 6,.op (.mv (.t 0)),none⟩,⟨some 7,.op (.nilCheck (.t 6)),none⟩,⟨some 8,.op (.fieldAddr 1 (.t 7)),none⟩,⟨some 9,.op (.ld1 (.t 8)),none⟩,⟨some 10,.op (.bin .eql (.t 9) (.c (.int .i64 0))),none⟩,⟨some 11,.op (.mv (.t 10)),none⟩,⟨some 12,.op (.mv (.t 3)),some (11,true)⟩,⟨some 13,.call (.c (.fn 66 [] [])) [(.t 12)],some (11,true)⟩,⟨some 14,.op (.un .not (.t 13)),some (11,true)⟩,⟨some 15,.pick (.t 11) (.t 14) (.c (.bool false)),none⟩]) (.cond (.t 15) (.reg [3] [
 ⟨some 16,.op (.mv (.t 0)),none⟩,⟨some 17,.op (.nilCheck (.t 16)),none⟩,⟨some 18,.op (.fieldAddr 1 (.t 17)),none⟩,⟨none,.op (.st 1 (.t 18) (.c (.int .i64 6))),none⟩]) (.skip))) (.seq (.reg [2] [
 ⟨some 19,.op (.mv (.t 3)),none⟩,⟨some 20,.op (.bytesStr (.t 19)),none⟩,⟨some 2,.op (.mv (.t 20)),none⟩]) (.ret))))
theorem cf36 : compF Tryz.prog Tryz.f36 h36 = some (ac36,rs36) := by kernel_rfl
/-! mailcoach/mailcoachref13.Take params 1 -/
def h37 : Hints := ⟨[(20,[2]),(19,[2,3]),(18,[0,2,3,80]),(7,[0,2,3,4,5]),(17,[0,2,3,4,5]),(12,[0,2,3,4,5,6,7,8]),(16,[0,2,3,4,5,6,7,8]),(15,[0,2,3,4,5,6,7,8,9]),(14,[0,2,3,4,5,6,7,8,9]),(13,[0,2,3,4,5,6,7,8,9]),(11,[0,2,3,4,5,6,7,8,49]),(10,[0,2,3,4,5,6,7,8]),(9,[0,2,3,4,5,6,7]),(8,[0,2,3,4,5,6]),(6,[0,2,3,4,5,31]),(5,[0,2,3,4,5]),(4,[0,2,3,4]),(3,[0,2,3]),(2,[0,2,3]),(1,[0,2,3]),(0,[0,2])],[(11,[0,2,3,4,5,6,7,8]),(6,[0,2,3,4,5])],[]⟩
def rs37 : List ARes := [.cn 2 3]
def ac37 : ACode :=
 .seq (.reg [0,2] [
 ⟨some 2,.op (.alloc [.int .u64 0,.int .u64 0,.nilsl]),none⟩]) (.seq (.reg [0,2,3] [
 ⟨some 10,.op (.build [.int .u64 0,.int .u64 0,.nilsl] []),none⟩,⟨some 3,.op (.alloc [.int .u64 0,.int .u64 0,.nilsl]),none⟩,⟨none,.op (.st 3 (.t 3) (.t 10)),none⟩]) (.seq (.reg [0,2,3] [
 ⟨some 11,.op (.mv (.t 0)),none⟩,⟨some 12,.call (.c (.fn 34 [] [])) [(.t 11),(.c (.int .i64 8))],none⟩,⟨some 13,.op (.fieldAddr 0 (.t 3)),none⟩,⟨some 14,.op (.fieldAddr 0 (.t 13)),none⟩,⟨none,.op (.st 1 (.t 14) (.t 12)),none⟩]) (.seq (.reg [0,2,3] [
 ⟨some 15,.op (.mv (.t 0)),none⟩,⟨some 16,.call (.c (.fn 34 [] [])) [(.t 15),(.c (.int .i64 8))],none⟩,⟨some 17,.op (.fieldAddr 0 (.t 3)),none⟩,⟨some 18,.op (.fieldAddr 1 (.t 17)),none⟩,⟨none,.op (.st 1 (.t 18) (.t 16)),none⟩]) (.seq (.reg [0,2,3,4] [
 ⟨some 19,.op (.mv (.t 0)),none⟩,⟨some 20,.call (.c (.fn 34 [] [])) [(.t 19),(.c (.int .i64 2))],none⟩,⟨some 21,.op (.toInt .i64 (.t 20)),none⟩,⟨some 4,.op (.mv (.t 21)),none⟩]) (.seq (.seq (.reg [0,2,3,4,5] [
 ⟨some 5,.op (.mv (.c (.int .i64 0))),none⟩]) (.block 0 (.loop [0,2,3,4,5] (.seq (.seq (.reg [0,2,3,4,5,31] [
 ⟨some 22,.op (.mv (.t 5)),none⟩,⟨some 23,.op (.mv (.t 4)),none⟩,⟨some 24,.op (.bin .lss (.t 22) (.t 23)),none⟩,⟨some 25,.op (.mv (.t 24)),none⟩,⟨some 26,.op (.mv (.t 0)),some (25,true)⟩,⟨some 27,.op (.nilCheck (.t 26)),some (25,true)⟩,⟨some 28,.op (.fieldAddr 1 (.t 27)),some (25,true)⟩,⟨some 29,.op (.ld1 (.t 28)),some (25,true)⟩,⟨some 30,.op (.bin .eql (.t 29) (.c (.int .i64 0))),some (25,true)⟩,⟨some 31,.pick (.t 25) (.t 30) (.c (.bool false)),none⟩]) (.cond (.t 31) (.skip) (.exit 0))) (.seq (.block 1 (.seq (.reg [0,2,3,4,5,6] [
 ⟨some 34,.op (.mv (.t 0)),none⟩,⟨some 35,.call (.c (.fn 34 [] [])) [(.t 34),(.c (.int .i64 8))],none⟩,⟨some 36,.op (.build [.int .u64 0,.nilsl] [(0,1,(.t 35))]),none⟩,⟨some 6,.op (.alloc [.int .u64 0,.nilsl]),none⟩,⟨none,.op (.st 2 (.t 6) (.t 36)),none⟩]) (.seq (.reg [0,2,3,4,5,6,7] [
 ⟨some 37,.op (.mv (.t 0)),none⟩,⟨some 38,.call (.c (.fn 34 [] [])) [(.t 37),(.c (.int .i64 2))],none⟩,⟨some 39,.op (.toInt .i64 (.t 38)),none⟩,⟨some 7,.op (.mv (.t 39)),none⟩]) (.seq (.seq (.reg [0,2,3,4,5,6,7,8] [
 ⟨some 8,.op (.mv (.c (.int .i64 0))),none⟩]) (.block 2 (.loop [0,2,3,4,5,6,7,8] (.seq (.seq (.reg [0,2,3,4,5,6,7,8,49] [
 ⟨some 40,.op (.mv (.t 8)),none⟩,⟨some 41,.op (.mv (.t 7)),none⟩,⟨some 42,.op (.bin .lss (.t 40) (.t 41)),none⟩,⟨some 43,.op (.mv (.t 42)),none⟩,⟨some 44,.op (.mv (.t 0)),some (43,true)⟩,⟨some 45,.op (.nilCheck (.t 44)),some (43,true)⟩,⟨some 46,.op (.fieldAddr 1 (.t 45)),some (43,true)⟩,⟨some 47,.op (.ld1 (.t 46)),some (43,true)⟩,⟨some 48,.op (.bin .eql (.t 47) (.c (.int .i64 0))),some (43,true)⟩,⟨some 49,.pick (.t 43) (.t 48) (.c (.bool false)),none⟩]) (.cond (.t 49) (.skip) (.exit 2))) (.seq (.block 3 (.seq (.reg [0,2,3,4,5,6,7,8,9] [
 ⟨some 52,.op (.build [.int .u64 0,.int .u64 0] []),none⟩,⟨some 9,.op (.alloc [.int .u64 0,.int .u64 0]),none⟩,⟨none,.op (.st 2 (.t 9) (.t 52)),none⟩]) (.seq (.reg [0,2,3,4,5,6,7,8,9] [
 ⟨some 53,.op (.mv (.t 0)),none⟩,⟨some 54,.call (.c (.fn 34 [] [])) [(.t 53),(.c (.int .i64 8))],none⟩,⟨some 55,.op (.fieldAddr 0 (.t 9)),none⟩,⟨none,.op (.st 1 (.t 55) (.t 54)),none⟩]) (.seq (.reg [0,2,3,4,5,6,7,8,9] [
 ⟨some 56,.op (.mv (.t 0)),none⟩,⟨some 57,.call (.c (.fn 34 [] [])) [(.t 56),(.c (.int .i64 8))],none⟩,⟨some 58,.op (.fieldAddr 1 (.t 9)),none⟩,⟨none,.op (.st 1 (.t 58) (.t 57)),none⟩]) (.reg [0,2,3,4,5,6,7,8] [
 ⟨some 59,.op (.fieldAddr 1 (.t 6)),none⟩,⟨some 60,.op (.ld1 (.t 59)),none⟩,⟨some 61,.op (.ldn 2 (.t 9)),none⟩,⟨some 62,.op (.buildSl 2 [.int .u64 0,.int .u64 0] 1 [(0,(.t 61))]),none⟩,⟨some 63,.op (.append 2 16 (.t 60) (.t 62)),none⟩,⟨some 64,.op (.fieldAddr 1 (.t 6)),none⟩,⟨none,.op (.st 1 (.t 64) (.t 63)),none⟩]))))) (.reg [0,2,3,4,5,6,7,8] [
 ⟨some 50,.op (.mv (.t 8)),none⟩,⟨some 51,.op (.bin .add (.t 50) (.c (.int .i64 1))),none⟩,⟨some 8,.op (.mv (.t 51)),none⟩])))))) (.reg [0,2,3,4,5] [
 ⟨some 65,.op (.fieldAddr 2 (.t 3)),none⟩,⟨some 66,.op (.ld1 (.t 65)),none⟩,⟨some 67,.op (.ldn 2 (.t 6)),none⟩,⟨some 68,.op (.buildSl 2 [.int .u64 0,.nilsl] 1 [(0,(.t 67))]),none⟩,⟨some 69,.op (.append 2 32 (.t 66) (.t 68)),none⟩,⟨some 70,.op (.fieldAddr 2 (.t 3)),none⟩,⟨none,.op (.st 1 (.t 70) (.t 69)),none⟩]))))) (.reg [0,2,3,4,5] [
 ⟨some 32,.op (.mv (.t 5)),none⟩,⟨some 33,.op (.bin .add (.t 32) (.c (.int .i64 1))),none⟩,⟨some 5,.op (.mv (.t 33)),none⟩])))))) (.seq (.seq (.reg [0,2,3,80] [
 ⟨some 71,.op (.mv (.t 0)),none⟩,⟨some 72,.op (.nilCheck (.t 71)),none⟩,⟨some 73,.op (.fieldAddr 1 (.t 72)),none⟩,⟨some 74,.op (.ld1 (.t 73)),none⟩,⟨some 75,.op (.bin .eql (.t 74) (.c (.int .i64 0))),none⟩,⟨some 76,.op (.mv (.t 75)),none⟩,⟨some 77,.op (.ldn 3 (.t 3)),some (76,true)⟩,⟨some 78,.call (.c (.fn 60 [] [])) [(.t 77)],some (76,true)⟩,⟨some 79,.op (.un .not (.t 78)),some (76,true)⟩,⟨some 80,.pick (.t 76) (.t 79) (.c (.bool false)),none⟩]) (.cond (.t 80) (.reg [2,3] [
 ⟨some 81,.op (.mv (.t 0)),none⟩,⟨some 82,.call (.c (.fn 39 [] [])) [(.t 81),(.c (.int .i64 23))],none⟩]) (.skip))) (.seq (.reg [2] [
 ⟨some 83,.op (.ldn 3 (.t 3)),none⟩,⟨none,.op (.st 3 (.t 2) (.t 83)),none⟩]) (.ret))))))))
theorem cf37 : compF Tryz.prog Tryz.f37 h37 = some (ac37,rs37) := by kernel_rfl
/-! mailcoach/mailcoachref15.Take params 1 -/
def h38 : Hints := ⟨[(14,[2]),(5,[0,3,4,5]),(13,[0,3,4,5]),(12,[0,3,4,5,6]),(11,[0,3,4,5,6,77]),(10,[0,3,4,5,6]),(9,[0,3,4,5,6]),(8,[0,3,4,5,6]),(7,[0,3,4,5,6]),(6,[0,3,4,5,6]),(4,[0,3,4,5,19]),(3,[0,3,4,5]),(2,[0,3,4]),(1,[0,3]),(0,[0])],[(4,[0,3,4,5])],[(11,[(0,[]),(1,[]),(2,[]),(3,[]),(4,[]),(5,[]),(6,[]),(7,[]),(8,[]),(9,[]),(10,[]),(11,[]),(12,[]),(13,[]),(14,[]),(15,[]),(16,[]),(17,[]),(18,[]),(19,[]),(20,[]),(21,[]),(22,[]),(23,[]),(24,[]),(25,[]),(26,[]),(27,[]),(28,[]),(29,[]),(30,[]),(31,[]),(32,[]),(33,[]),(34,[]),(35,[]),(36,[]),(37,[]),(38,[])])]⟩
def rs38 : List ARes := [.t 2]
def ac38 : ACode :=
 .seq (.reg [0] [
 ⟨some 2,.op (.mv (.c (.nilsl))),none⟩]) (.seq (.reg [0,3] [
 ⟨some 3,.op (.mv (.c (.nilsl))),none⟩]) (.seq (.reg [0,3,4] [
 ⟨some 7,.op (.mv (.t 0)),none⟩,⟨some 8,.call (.c (.fn 34 [] [])) [(.t 7),(.c (.int .i64 1))],none⟩,⟨some 9,.op (.toInt .i64 (.t 8)),none⟩,⟨some 4,.op (.mv (.t 9)),none⟩]) (.seq (.seq (.reg [0,3,4,5] [
 ⟨some 5,.op (.mv (.c (.int .i64 0))),none⟩]) (.block 0 (.loop [0,3,4,5] (.seq (.seq (.reg [0,3,4,5,19] [
 ⟨some 10,.op (.mv (.t 5)),none⟩,⟨some 11,.op (.mv (.t 4)),none⟩,⟨some 12,.op (.bin .lss (.t 10) (.t 11)),none⟩,⟨some 13,.op (.mv (.t 12)),none⟩,⟨some 14,.op (.mv (.t 0)),some (13,true)⟩,⟨some 15,.op (.nilCheck (.t 14)),some (13,true)⟩,⟨some 16,.op (.fieldAddr 1 (.t 15)),some (13,true)⟩,⟨some 17,.op (.ld1 (.t 16)),some (13,true)⟩,⟨some 18,.op (.bin .eql (.t 17) (.c (.int .i64 0))),some (13,true)⟩,⟨some 19,.pick (.t 13) (.t 18) (.c (.bool false)),none⟩]) (.cond (.t 19) (.skip) (.exit 0))) (.seq (.block 1 (.seq (.reg [0,3,4,5,6] [
 ⟨some 22,.op (.mv (.t 0)),none⟩,⟨some 23,.call (.c (.fn 36 [] [])) [(.t 22)],none⟩,⟨some 24,.op (.build [.str ⟨#[]⟩,.int .u64 0,.int .u64 0,.int .u64 0,.int .u64 0] [(0,1,(.t 23))]),none⟩,⟨some 6,.op (.alloc [.str ⟨#[]⟩,.int .u64 0,.int .u64 0,.int .u64 0,.int .u64 0]),none⟩,⟨none,.op (.st 5 (.t 6) (.t 24)),none⟩]) (.seq (.reg [0,3,4,5,6] [
 ⟨some 25,.op (.mv (.t 0)),none⟩,⟨some 26,.call (.c (.fn 34 [] [])) [(.t 25),(.c (.int .i64 8))],none⟩,⟨some 27,.op (.fieldAddr 2 (.t 6)),none⟩,⟨none,.op (.st 1 (.t 27) (.t 26)),none⟩]) (.seq (.reg [0,3,4,5,6] [
 ⟨some 28,.op (.mv (.t 0)),none⟩,⟨some 29,.call (.c (.fn 34 [] [])) [(.t 28),(.c (.int .i64 8))],none⟩,⟨some 30,.op (.fieldAddr 3 (.t 6)),none⟩,⟨some 31,.op (.fieldAddr 0 (.t 30)),none⟩,⟨none,.op (.st 1 (.t 31) (.t 29)),none⟩]) (.seq (.reg [0,3,4,5,6] [
 ⟨some 32,.op (.mv (.t 0)),none⟩,⟨some 33,.call (.c (.fn 34 [] [])) [(.t 32),(.c (.int .i64 8))],none⟩,⟨some 34,.op (.fieldAddr 3 (.t 6)),none⟩,⟨some 35,.op (.fieldAddr 1 (.t 34)),none⟩,⟨none,.op (.st 1 (.t 35) (.t 33)),none⟩]) (.seq (.reg [0,3,4,5,6] [
 ⟨some 36,.op (.fieldAddr 2 (.t 6)),none⟩,⟨some 37,.op (.ld1 (.t 36)),none⟩,⟨some 38,.op (.fieldAddr 1 (.t 6)),none⟩,⟨none,.op (.st 1 (.t 38) (.t 37)),none⟩]) (.seq (.seq (.dreg [0,3,4,5,6,77] [
 (⟨some 39,.op (.fieldAddr 0 (.t 6)),none⟩,[]),(⟨some 40,.op (.ld1 (.t 39)),none⟩,[]),(⟨some 41,.op (.bin .eql (.t 40) (.c (.str ⟨#[]⟩))),none⟩,[]),(⟨some 42,.op (.mv (.t 41)),none⟩,[]),(⟨some 43,.op (.fieldAddr 0 (.t 6)),some (42,false)⟩,[]),(⟨some 44,.op (.ld1 (.t 43)),some (42,false)⟩,[]),(⟨some 45,.op (.len 9 (.t 44)),some (42,false)⟩,[]),(⟨some 46,.op (.bin .gtr (.t 45) (.c (.int .i64 64))),some (42,false)⟩,[]),(⟨some 47,.pick (.t 42) (.c (.bool true)) (.t 46),none⟩,[]),(⟨some 48,.op (.mv (.t 47)),none⟩,[]),(⟨some 49,.op (.fieldAddr 2 (.t 6)),some (48,false)⟩,[]),(⟨some 50,.op (.ld1 (.t 49)),some (48,false)⟩,[]),(⟨some 51,.op (.bin .eql (.t 50) (.c (.int .u64 0))),some (48,false)⟩,[]),(⟨some 52,.pick (.t 48) (.c (.bool true)) (.t 51),none⟩,[]),(⟨some 53,.op (.mv (.t 52)),none⟩,[]),(⟨some 54,.op (.mv (.t 5)),some (53,false)⟩,[]),(⟨some 55,.op (.bin .eql (.t 54) (.c (.int .i64 16))),some (53,false)⟩,[]),(⟨some 56,.pick (.t 53) (.c (.bool true)) (.t 55),none⟩,[]),(⟨some 57,.op (.mv (.t 56)),none⟩,[]),(⟨some 58,.op (.mv (.t 5)),some (57,false)⟩,[]),(⟨some 59,.op (.bin .gtr (.t 58) (.c (.int .i64 0))),some (57,false)⟩,[]),(⟨some 60,.op (.mv (.t 59)),some (57,false)⟩,[]),(⟨some 61,.op (.mv (.t 3)),some (60,true)⟩,[]),(⟨some 62,.op (.len 1 (.t 61)),some (60,true)⟩,[]),(⟨some 63,.op (.bin .gtr (.t 62) (.c (.int .i64 0))),some (60,true)⟩,[]),(⟨some 64,.pick (.t 60) (.t 63) (.c (.bool false)),some (57,false)⟩,[]),(⟨some 65,.op (.mv (.t 64)),some (57,false)⟩,[]),(⟨some 66,.op (.mv (.t 3)),some (65,true)⟩,[]),(⟨some 67,.op (.mv (.t 3)),some (65,true)⟩,[]),(⟨some 68,.op (.len 1 (.t 67)),some (65,true)⟩,[]),(⟨some 69,.op (.bin .sub (.t 68) (.c (.int .i64 1))),some (65,true)⟩,[]),(⟨some 70,.op (.idxAddr 5 (.t 66) (.t 69)),some (65,true)⟩,[]),(⟨some 71,.op (.fieldAddr 0 (.t 70)),some (65,true)⟩,[]),(⟨some 72,.op (.ld1 (.t 71)),some (65,true)⟩,[]),(⟨some 73,.op (.fieldAddr 0 (.t 6)),some (65,true)⟩,[]),(⟨some 74,.op (.ld1 (.t 73)),some (65,true)⟩,[]),(⟨some 75,.op (.bin .geq (.t 72) (.t 74)),some (65,true)⟩,[]),(⟨some 76,.pick (.t 65) (.t 75) (.c (.bool false)),some (57,false)⟩,[]),(⟨some 77,.pick (.t 57) (.c (.bool true)) (.t 76),none⟩,[])]) (.cond (.t 77) (.reg [0,3,4,5,6] [
 ⟨some 78,.op (.mv (.t 0)),none⟩,⟨some 79,.call (.c (.fn 39 [] [])) [(.t 78),(.c (.int .i64 23))],none⟩]) (.skip))) (.reg [0,3,4,5] [
 ⟨some 80,.op (.mv (.t 3)),none⟩,⟨some 81,.op (.ldn 5 (.t 6)),none⟩,⟨some 82,.op (.buildSl 5 [.str ⟨#[]⟩,.int .u64 0,.int .u64 0,.int .u64 0,.int .u64 0] 1 [(0,(.t 81))]),none⟩,⟨some 83,.op (.append 5 48 (.t 80) (.t 82)),none⟩,⟨some 3,.op (.mv (.t 83)),none⟩])))))))) (.reg [0,3,4,5] [
 ⟨some 20,.op (.mv (.t 5)),none⟩,⟨some 21,.op (.bin .add (.t 20) (.c (.int .i64 1))),none⟩,⟨some 5,.op (.mv (.t 21)),none⟩])))))) (.seq (.reg [2] [
 ⟨some 84,.op (.mv (.t 3)),none⟩,⟨some 2,.op (.mv (.t 84)),none⟩]) (.ret)))))
theorem cf38 : compF Tryz.prog Tryz.f38 h38 = some (ac38,rs38) := by kernel_rfl
/-! (*mailcoach/mailcoachref01.Reader).Fail params 2 -/
def h39 : Hints := ⟨[(1,[]),(0,[0,1,8])],[],[]⟩
def rs39 : List ARes := []
def ac39 : ACode :=
 .seq (.reg [0,1,8] [
 ⟨some 4,.op (.mv (.t 0)),none⟩,⟨some 5,.op (.nilCheck (.t 4)),none⟩,⟨some 6,.op (.fieldAddr 1 (.t 5)),none⟩,⟨some 7,.op (.ld1 (.t 6)),none⟩,⟨some 8,.op (.bin .eql (.t 7) (.c (.int .i64 0))),none⟩]) (.cond (.t 8) (.reg [] [
 ⟨some 9,.op (.mv (.t 0)),none⟩,⟨some 10,.op (.mv (.t 1)),none⟩,⟨some 11,.op (.nilCheck (.t 9)),none⟩,⟨some 12,.op (.fieldAddr 1 (.t 11)),none⟩,⟨none,.op (.st 1 (.t 12) (.t 10)),none⟩]) (.skip))
theorem cf39 : compF Tryz.prog Tryz.f39 h39 = some (ac39,rs39) := by kernel_rfl
/-! (*mailcoach/mailcoachref01.Reader).End params 1 -/
def h40 : Hints := ⟨[(3,[2]),(2,[0]),(1,[0,15]),(0,[0])],[],[]⟩
def rs40 : List ARes := [.t 2]
def ac40 : ACode :=
 .seq (.reg [0] [
 ⟨some 2,.op (.mv (.c (.int .i64 0))),none⟩]) (.seq (.seq (.reg [0,15] [
 ⟨some 3,.op (.mv (.t 0)),none⟩,⟨some 4,.op (.nilCheck (.t 3)),none⟩,⟨some 5,.op (.fieldAddr 1 (.t 4)),none⟩,⟨some 6,.op (.ld1 (.t 5)),none⟩,⟨some 7,.op (.bin .eql (.t 6) (.c (.int .i64 0))),none⟩,⟨some 8,.op (.mv (.t 7)),none⟩,⟨some 9,.op (.mv (.t 0)),some (8,true)⟩,⟨some 10,.op (.nilCheck (.t 9)),some (8,true)⟩,⟨some 11,.op (.fieldAddr 0 (.t 10)),some (8,true)⟩,⟨some 12,.op (.ld1 (.t 11)),some (8,true)⟩,⟨some 13,.op (.len 1 (.t 12)),some (8,true)⟩,⟨some 14,.op (.bin .gtr (.t 13) (.c (.int .i64 0))),some (8,true)⟩,⟨some 15,.pick (.t 8) (.t 14) (.c (.bool false)),none⟩]) (.cond (.t 15) (.reg [0] [
 ⟨some 16,.op (.mv (.t 0)),none⟩,⟨some 17,.op (.nilCheck (.t 16)),none⟩,⟨some 18,.op (.fieldAddr 1 (.t 17)),none⟩,⟨none,.op (.st 1 (.t 18) (.c (.int .i64 5))),none⟩]) (.skip))) (.seq (.reg [2] [
 ⟨some 19,.op (.mv (.t 0)),none⟩,⟨some 20,.op (.nilCheck (.t 19)),none⟩,⟨some 21,.op (.fieldAddr 1 (.t 20)),none⟩,⟨some 22,.op (.ld1 (.t 21)),none⟩,⟨some 2,.op (.mv (.t 22)),none⟩]) (.ret)))
theorem cf40 : compF Tryz.prog Tryz.f40 h40 = some (ac40,rs40) := by kernel_rfl
/-! mailcoach/mailcoachref13.SameLedgers params 2 -/
def h41 : Hints := ⟨[(8,[4]),(5,[0,1,5]),(7,[4]),(6,[0,1,5,25]),(4,[0,1,5,14]),(3,[0,1,5]),(2,[4]),(1,[0,1,10]),(0,[0,1])],[(4,[0,1,5])],[(6,[(0,[]),(1,[]),(2,[]),(3,[]),(4,[]),(5,[]),(6,[]),(7,[]),(8,[])])]⟩
def rs41 : List ARes := [.t 4]
def ac41 : ACode :=
 .seq (.reg [0,1] [
 ⟨some 4,.op (.mv (.c (.bool false))),none⟩]) (.seq (.seq (.reg [0,1,10] [
 ⟨some 6,.op (.mv (.t 0)),none⟩,⟨some 7,.op (.len 1 (.t 6)),none⟩,⟨some 8,.op (.mv (.t 1)),none⟩,⟨some 9,.op (.len 1 (.t 8)),none⟩,⟨some 10,.op (.bin .neq (.t 7) (.t 9)),none⟩]) (.cond (.t 10) (.seq (.reg [4] [
 ⟨some 4,.op (.mv (.c (.bool false))),none⟩]) (.ret)) (.skip))) (.seq (.seq (.reg [0,1,5] [
 ⟨some 5,.op (.mv (.c (.int .i64 0))),none⟩]) (.block 0 (.loop [0,1,5] (.seq (.seq (.reg [0,1,5,14] [
 ⟨some 11,.op (.mv (.t 5)),none⟩,⟨some 12,.op (.mv (.t 0)),none⟩,⟨some 13,.op (.len 1 (.t 12)),none⟩,⟨some 14,.op (.bin .lss (.t 11) (.t 13)),none⟩]) (.cond (.t 14) (.skip) (.exit 0))) (.seq (.block 1 (.seq (.dreg [0,1,5,25] [
 (⟨some 17,.op (.mv (.t 0)),none⟩,[]),(⟨some 18,.op (.mv (.t 5)),none⟩,[]),(⟨some 19,.op (.idxAddr 3 (.t 17) (.t 18)),none⟩,[]),(⟨some 20,.op (.ldn 3 (.t 19)),none⟩,[]),(⟨some 21,.op (.mv (.t 1)),none⟩,[]),(⟨some 22,.op (.mv (.t 5)),none⟩,[]),(⟨some 23,.op (.idxAddr 3 (.t 21) (.t 22)),none⟩,[]),(⟨some 24,.op (.ldn 3 (.t 23)),none⟩,[]),(⟨some 25,.op (.eqs true [1,3,1] (.t 20) (.t 24)),none⟩,[])]) (.cond (.t 25) (.seq (.reg [4] [
 ⟨some 4,.op (.mv (.c (.bool false))),none⟩]) (.ret)) (.skip)))) (.reg [0,1,5] [
 ⟨some 15,.op (.mv (.t 5)),none⟩,⟨some 16,.op (.bin .add (.t 15) (.c (.int .i64 1))),none⟩,⟨some 5,.op (.mv (.t 16)),none⟩])))))) (.seq (.reg [4] [
 ⟨some 4,.op (.mv (.c (.bool true))),none⟩]) (.ret))))
theorem cf41 : compF Tryz.prog Tryz.f41 h41 = some (ac41,rs41) := by kernel_rfl
/-! mailcoach/mailcoachref15.SameLines params 2 -/
def h42 : Hints := ⟨[(8,[4]),(5,[0,1,5]),(7,[4]),(6,[0,1,5,25]),(4,[0,1,5,14]),(3,[0,1,5]),(2,[4]),(1,[0,1,10]),(0,[0,1])],[(4,[0,1,5])],[(6,[(0,[]),(1,[]),(2,[]),(3,[]),(4,[]),(5,[]),(6,[]),(7,[]),(8,[])])]⟩
def rs42 : List ARes := [.t 4]
def ac42 : ACode :=
 .seq (.reg [0,1] [
 ⟨some 4,.op (.mv (.c (.bool false))),none⟩]) (.seq (.seq (.reg [0,1,10] [
 ⟨some 6,.op (.mv (.t 0)),none⟩,⟨some 7,.op (.len 1 (.t 6)),none⟩,⟨some 8,.op (.mv (.t 1)),none⟩,⟨some 9,.op (.len 1 (.t 8)),none⟩,⟨some 10,.op (.bin .neq (.t 7) (.t 9)),none⟩]) (.cond (.t 10) (.seq (.reg [4] [
 ⟨some 4,.op (.mv (.c (.bool false))),none⟩]) (.ret)) (.skip))) (.seq (.seq (.reg [0,1,5] [
 ⟨some 5,.op (.mv (.c (.int .i64 0))),none⟩]) (.block 0 (.loop [0,1,5] (.seq (.seq (.reg [0,1,5,14] [
 ⟨some 11,.op (.mv (.t 5)),none⟩,⟨some 12,.op (.mv (.t 0)),none⟩,⟨some 13,.op (.len 1 (.t 12)),none⟩,⟨some 14,.op (.bin .lss (.t 11) (.t 13)),none⟩]) (.cond (.t 14) (.skip) (.exit 0))) (.seq (.block 1 (.seq (.dreg [0,1,5,25] [
 (⟨some 17,.op (.mv (.t 0)),none⟩,[]),(⟨some 18,.op (.mv (.t 5)),none⟩,[]),(⟨some 19,.op (.idxAddr 5 (.t 17) (.t 18)),none⟩,[]),(⟨some 20,.op (.ldn 5 (.t 19)),none⟩,[]),(⟨some 21,.op (.mv (.t 1)),none⟩,[]),(⟨some 22,.op (.mv (.t 5)),none⟩,[]),(⟨some 23,.op (.idxAddr 5 (.t 21) (.t 22)),none⟩,[]),(⟨some 24,.op (.ldn 5 (.t 23)),none⟩,[]),(⟨some 25,.op (.eqs true [2,1,1,1,1] (.t 20) (.t 24)),none⟩,[])]) (.cond (.t 25) (.seq (.reg [4] [
 ⟨some 4,.op (.mv (.c (.bool false))),none⟩]) (.ret)) (.skip)))) (.reg [0,1,5] [
 ⟨some 15,.op (.mv (.t 5)),none⟩,⟨some 16,.op (.bin .add (.t 15) (.c (.int .i64 1))),none⟩,⟨some 5,.op (.mv (.t 16)),none⟩])))))) (.seq (.reg [4] [
 ⟨some 4,.op (.mv (.c (.bool true))),none⟩]) (.ret))))
theorem cf42 : compF Tryz.prog Tryz.f42 h42 = some (ac42,rs42) := by kernel_rfl
/-! mailcoach/mailcoachref13.Same params 2 -/
def h43 : Hints := ⟨[(8,[4]),(5,[2,3,5]),(7,[4]),(6,[2,3,5,55]),(4,[2,3,5,24]),(3,[2,3,5]),(2,[4]),(1,[2,3,19]),(0,[2,3])],[(4,[2,3,5])],[(6,[(0,[]),(1,[]),(2,[]),(3,[]),(4,[]),(5,[]),(6,[]),(7,[]),(8,[]),(9,[]),(10,[]),(11,[]),(12,[]),(13,[]),(14,[]),(15,[]),(16,[]),(17,[]),(18,[]),(19,[]),(20,[]),(21,[]),(22,[]),(23,[]),(24,[]),(25,[]),(26,[]),(27,[]),(28,[])])]⟩
def rs43 : List ARes := [.t 4]
def ac43 : ACode :=
 .seq (.reg [2,3] [
 ⟨some 2,.op (.box (.t 0)),none⟩,⟨some 3,.op (.box (.t 1)),none⟩,⟨some 4,.op (.mv (.c (.bool false))),none⟩]) (.seq (.seq (.reg [2,3,19] [
 ⟨some 6,.op (.fieldAddr 0 (.t 2)),none⟩,⟨some 7,.op (.ldn 2 (.t 6)),none⟩,⟨some 8,.op (.fieldAddr 0 (.t 3)),none⟩,⟨some 9,.op (.ldn 2 (.t 8)),none⟩,⟨some 10,.op (.eqs true [1,1] (.t 7) (.t 9)),none⟩,⟨some 11,.op (.mv (.t 10)),none⟩,⟨some 12,.op (.fieldAddr 2 (.t 2)),some (11,false)⟩,⟨some 13,.op (.ld1 (.t 12)),some (11,false)⟩,⟨some 14,.op (.len 1 (.t 13)),some (11,false)⟩,⟨some 15,.op (.fieldAddr 2 (.t 3)),some (11,false)⟩,⟨some 16,.op (.ld1 (.t 15)),some (11,false)⟩,⟨some 17,.op (.len 1 (.t 16)),some (11,false)⟩,⟨some 18,.op (.bin .neq (.t 14) (.t 17)),some (11,false)⟩,⟨some 19,.pick (.t 11) (.c (.bool true)) (.t 18),none⟩]) (.cond (.t 19) (.seq (.reg [4] [
 ⟨some 4,.op (.mv (.c (.bool false))),none⟩]) (.ret)) (.skip))) (.seq (.seq (.reg [2,3,5] [
 ⟨some 5,.op (.mv (.c (.int .i64 0))),none⟩]) (.block 0 (.loop [2,3,5] (.seq (.seq (.reg [2,3,5,24] [
 ⟨some 20,.op (.mv (.t 5)),none⟩,⟨some 21,.op (.fieldAddr 2 (.t 2)),none⟩,⟨some 22,.op (.ld1 (.t 21)),none⟩,⟨some 23,.op (.len 1 (.t 22)),none⟩,⟨some 24,.op (.bin .lss (.t 20) (.t 23)),none⟩]) (.cond (.t 24) (.skip) (.exit 0))) (.seq (.block 1 (.seq (.dreg [2,3,5,55] [
 (⟨some 27,.op (.fieldAddr 2 (.t 2)),none⟩,[]),(⟨some 28,.op (.ld1 (.t 27)),none⟩,[]),(⟨some 29,.op (.mv (.t 5)),none⟩,[]),(⟨some 30,.op (.idxAddr 2 (.t 28) (.t 29)),none⟩,[]),(⟨some 31,.op (.fieldAddr 0 (.t 30)),none⟩,[]),(⟨some 32,.op (.ld1 (.t 31)),none⟩,[]),(⟨some 33,.op (.fieldAddr 2 (.t 3)),none⟩,[]),(⟨some 34,.op (.ld1 (.t 33)),none⟩,[]),(⟨some 35,.op (.mv (.t 5)),none⟩,[]),(⟨some 36,.op (.idxAddr 2 (.t 34) (.t 35)),none⟩,[]),(⟨some 37,.op (.fieldAddr 0 (.t 36)),none⟩,[]),(⟨some 38,.op (.ld1 (.t 37)),none⟩,[]),(⟨some 39,.op (.bin .neq (.t 32) (.t 38)),none⟩,[]),(⟨some 40,.op (.mv (.t 39)),none⟩,[]),(⟨some 41,.op (.fieldAddr 2 (.t 2)),some (40,false)⟩,[]),(⟨some 42,.op (.ld1 (.t 41)),some (40,false)⟩,[]),(⟨some 43,.op (.mv (.t 5)),some (40,false)⟩,[]),(⟨some 44,.op (.idxAddr 2 (.t 42) (.t 43)),some (40,false)⟩,[]),(⟨some 45,.op (.fieldAddr 1 (.t 44)),some (40,false)⟩,[]),(⟨some 46,.op (.ld1 (.t 45)),some (40,false)⟩,[]),(⟨some 47,.op (.fieldAddr 2 (.t 3)),some (40,false)⟩,[]),(⟨some 48,.op (.ld1 (.t 47)),some (40,false)⟩,[]),(⟨some 49,.op (.mv (.t 5)),some (40,false)⟩,[]),(⟨some 50,.op (.idxAddr 2 (.t 48) (.t 49)),some (40,false)⟩,[]),(⟨some 51,.op (.fieldAddr 1 (.t 50)),some (40,false)⟩,[]),(⟨some 52,.op (.ld1 (.t 51)),some (40,false)⟩,[]),(⟨some 53,.call (.c (.fn 75 [] [])) [(.t 46),(.t 52)],some (40,false)⟩,[]),(⟨some 54,.op (.un .not (.t 53)),some (40,false)⟩,[]),(⟨some 55,.pick (.t 40) (.c (.bool true)) (.t 54),none⟩,[])]) (.cond (.t 55) (.seq (.reg [4] [
 ⟨some 4,.op (.mv (.c (.bool false))),none⟩]) (.ret)) (.skip)))) (.reg [2,3,5] [
 ⟨some 25,.op (.mv (.t 5)),none⟩,⟨some 26,.op (.bin .add (.t 25) (.c (.int .i64 1))),none⟩,⟨some 5,.op (.mv (.t 26)),none⟩])))))) (.seq (.reg [4] [
 ⟨some 4,.op (.mv (.c (.bool true))),none⟩]) (.ret))))
theorem cf43 : compF Tryz.prog Tryz.f43 h43 = some (ac43,rs43) := by kernel_rfl
/-! mailcoach/codec.table params 1 -/
def h44 : Hints := ⟨[(8,[2,3]),(7,[0,4,8,9,10]),(6,[2,3]),(5,[0,4,8,9,10,54]),(4,[0,4,5,6,8,9,10]),(3,[0,4,8,9,10,11]),(2,[0,4,8,9,10]),(1,[0,4]),(0,[0])],[(3,[0,4,8,9,10])],[(5,[(0,[]),(1,[]),(2,[]),(3,[]),(4,[]),(5,[]),(6,[]),(7,[]),(8,[]),(9,[]),(10,[]),(11,[]),(12,[]),(13,[]),(14,[]),(15,[]),(16,[]),(17,[]),(18,[]),(19,[]),(20,[]),(21,[]),(22,[]),(23,[]),(24,[]),(25,[]),(26,[]),(27,[]),(28,[]),(29,[]),(30,[]),(31,[]),(32,[]),(33,[]),(34,[]),(35,[]),(36,[]),(37,[]),(38,[]),(39,[])])]⟩
def rs44 : List ARes := [.t 2,.t 3]
def ac44 : ACode :=
 .seq (.reg [0] [
 ⟨some 2,.op (.mv (.c (.nilp))),none⟩,⟨some 3,.op (.mv (.c (.bool false))),none⟩]) (.seq (.reg [0,4] [
 ⟨some 7,.call (.c (.fn 68 [] [])) [],none⟩,⟨some 4,.op (.mv (.t 7)),none⟩]) (.seq (.seq (.reg [0,4,8,9,10] [
 ⟨some 8,.op (.mv (.t 0)),none⟩,⟨some 9,.op (.len 1 (.t 8)),none⟩,⟨some 10,.op (.mv (.c (.int .i64 0))),none⟩]) (.block 0 (.loop [0,4,8,9,10] (.seq (.reg [0,4,8,9,10,11] [
 ⟨some 11,.op (.bin .lss (.t 10) (.t 9)),none⟩]) (.seq (.cond (.t 11) (.skip) (.exit 0)) (.seq (.block 1 (.seq (.reg [0,4,5,6,8,9,10] [
 ⟨some 12,.op (.mv (.t 10)),none⟩,⟨some 13,.op (.idxAddr 5 (.t 8) (.t 10)),none⟩,⟨some 14,.op (.ldn 5 (.t 13)),none⟩,⟨some 6,.op (.alloc [.str ⟨#[]⟩,.int .u64 0,.int .u64 0,.int .u64 0,.int .u64 0]),none⟩,⟨some 5,.op (.mv (.t 12)),none⟩,⟨none,.op (.st 5 (.t 6) (.t 14)),none⟩]) (.seq (.dreg [0,4,8,9,10,54] [
 (⟨some 15,.op (.mv (.t 5)),none⟩,[]),(⟨some 16,.op (.bin .gtr (.t 15) (.c (.int .i64 0))),none⟩,[]),(⟨some 17,.op (.mv (.t 16)),none⟩,[]),(⟨some 18,.op (.mv (.t 0)),some (17,true)⟩,[]),(⟨some 19,.op (.mv (.t 5)),some (17,true)⟩,[]),(⟨some 20,.op (.bin .sub (.t 19) (.c (.int .i64 1))),some (17,true)⟩,[]),(⟨some 21,.op (.idxAddr 5 (.t 18) (.t 20)),some (17,true)⟩,[]),(⟨some 22,.op (.fieldAddr 0 (.t 21)),some (17,true)⟩,[]),(⟨some 23,.op (.ld1 (.t 22)),some (17,true)⟩,[]),(⟨some 24,.op (.fieldAddr 0 (.t 6)),some (17,true)⟩,[]),(⟨some 25,.op (.ld1 (.t 24)),some (17,true)⟩,[]),(⟨some 26,.op (.bin .geq (.t 23) (.t 25)),some (17,true)⟩,[]),(⟨some 27,.pick (.t 17) (.t 26) (.c (.bool false)),none⟩,[]),(⟨some 28,.op (.mv (.t 27)),none⟩,[]),(⟨some 29,.op (.fieldAddr 1 (.t 6)),some (28,false)⟩,[]),(⟨some 30,.op (.ld1 (.t 29)),some (28,false)⟩,[]),(⟨some 31,.op (.fieldAddr 2 (.t 6)),some (28,false)⟩,[]),(⟨some 32,.op (.ld1 (.t 31)),some (28,false)⟩,[]),(⟨some 33,.op (.bin .neq (.t 30) (.t 32)),some (28,false)⟩,[]),(⟨some 34,.pick (.t 28) (.c (.bool true)) (.t 33),none⟩,[]),(⟨some 35,.op (.mv (.t 34)),none⟩,[]),(⟨some 36,.op (.mv (.t 4)),some (35,false)⟩,[]),(⟨some 37,.op (.fieldAddr 0 (.t 6)),some (35,false)⟩,[]),(⟨some 38,.op (.ld1 (.t 37)),some (35,false)⟩,[]),(⟨some 39,.op (.fieldAddr 1 (.t 6)),some (35,false)⟩,[]),(⟨some 40,.op (.ld1 (.t 39)),some (35,false)⟩,[]),(⟨some 41,.call (.c (.fn 76 [] [])) [(.t 36),(.t 38),(.t 40)],some (35,false)⟩,[]),(⟨some 42,.op (.bin .neq (.t 41) (.c (.int .i64 0))),some (35,false)⟩,[]),(⟨some 43,.pick (.t 35) (.c (.bool true)) (.t 42),none⟩,[]),(⟨some 44,.op (.mv (.t 43)),none⟩,[]),(⟨some 45,.op (.mv (.t 4)),some (44,false)⟩,[]),(⟨some 46,.op (.fieldAddr 0 (.t 6)),some (44,false)⟩,[]),(⟨some 47,.op (.ld1 (.t 46)),some (44,false)⟩,[]),(⟨some 48,.op (.fieldAddr 2 (.t 6)),some (44,false)⟩,[]),(⟨some 49,.op (.ld1 (.t 48)),some (44,false)⟩,[]),(⟨some 50,.op (.fieldAddr 3 (.t 6)),some (44,false)⟩,[]),(⟨some 51,.op (.ldn 2 (.t 50)),some (44,false)⟩,[]),(⟨some 52,.call (.c (.fn 77 [] [])) [(.t 45),(.t 47),(.t 49),(.t 51)],some (44,false)⟩,[]),(⟨some 53,.op (.bin .neq (.t 52) (.c (.int .i64 0))),some (44,false)⟩,[]),(⟨some 54,.pick (.t 44) (.c (.bool true)) (.t 53),none⟩,[])]) (.cond (.t 54) (.seq (.reg [2,3] [
 ⟨some 2,.op (.mv (.c (.nilp))),none⟩,⟨some 3,.op (.mv (.c (.bool false))),none⟩]) (.ret)) (.skip))))) (.reg [0,4,8,9,10] [
 ⟨some 55,.op (.bin .add (.t 10) (.c (.int .i64 1))),none⟩,⟨some 10,.op (.mv (.t 55)),none⟩]))))))) (.seq (.reg [2,3] [
 ⟨some 56,.op (.mv (.t 4)),none⟩,⟨some 2,.op (.mv (.t 56)),none⟩,⟨some 3,.op (.mv (.c (.bool true))),none⟩]) (.ret))))
theorem cf44 : compF Tryz.prog Tryz.f44 h44 = some (ac44,rs44) := by kernel_rfl
/-! mailcoach/codec.puts params 2 -/
def h45 : Hints := ⟨[(4,[0,6,7,8]),(3,[0,6,7,8]),(2,[0,5,6,7,8]),(1,[0,6,7,8,9]),(0,[0,6,7,8])],[(1,[0,6,7,8])],[]⟩
def rs45 : List ARes := []
def ac45 : ACode :=
 .seq (.reg [0,6,7,8] [
 ⟨some 6,.op (.mv (.t 1)),none⟩,⟨some 7,.op (.len 1 (.t 6)),none⟩,⟨some 8,.op (.mv (.c (.int .i64 0))),none⟩]) (.block 0 (.loop [0,6,7,8] (.seq (.reg [0,6,7,8,9] [
 ⟨some 9,.op (.bin .lss (.t 8) (.t 7)),none⟩]) (.seq (.cond (.t 9) (.skip) (.exit 0)) (.seq (.block 1 (.seq (.reg [0,5,6,7,8] [
 ⟨some 10,.op (.idxAddr 1 (.t 6) (.t 8)),none⟩,⟨some 11,.op (.ld1 (.t 10)),none⟩,⟨some 5,.op (.mv (.t 11)),none⟩]) (.reg [0,6,7,8] [
 ⟨some 12,.op (.mv (.t 0)),none⟩,⟨some 13,.op (.mv (.t 5)),none⟩,⟨some 14,.call (.c (.fn 47 [] [])) [(.t 12),(.t 13)],none⟩]))) (.reg [0,6,7,8] [
 ⟨some 15,.op (.bin .add (.t 8) (.c (.int .i64 1))),none⟩,⟨some 8,.op (.mv (.t 15)),none⟩]))))))
theorem cf45 : compF Tryz.prog Tryz.f45 h45 = some (ac45,rs45) := by kernel_rfl
/-! (*mailcoach/pack.Writer).U8 params 2 -/
def h46 : Hints := ⟨[(0,[])],[],[]⟩
def rs46 : List ARes := []
def ac46 : ACode :=
 .reg [] [
 ⟨some 4,.op (.mv (.t 0)),none⟩,⟨some 5,.op (.mv (.t 1)),none⟩,⟨some 6,.op (.toInt .u64 (.t 5)),none⟩,⟨some 7,.call (.c (.fn 78 [] [])) [(.t 4),(.t 6),(.c (.int .i64 1))],none⟩]
theorem cf46 : compF Tryz.prog Tryz.f46 h46 = some (ac46,rs46) := by kernel_rfl
/-! (*mailcoach/pack.Writer).U64 params 2 -/
def h47 : Hints := ⟨[(0,[])],[],[]⟩
def rs47 : List ARes := []
def ac47 : ACode :=
 .reg [] [
 ⟨some 4,.op (.mv (.t 0)),none⟩,⟨some 5,.op (.mv (.t 1)),none⟩,⟨some 6,.call (.c (.fn 78 [] [])) [(.t 4),(.t 5),(.c (.int .i64 8))],none⟩]
theorem cf47 : compF Tryz.prog Tryz.f47 h47 = some (ac47,rs47) := by kernel_rfl
/-! mailcoach/codec.flag params 1 -/
def h48 : Hints := ⟨[(3,[2]),(2,[2]),(1,[3]),(0,[0])],[],[]⟩
def rs48 : List ARes := [.t 2]
def ac48 : ACode :=
 .seq (.reg [0] [
 ⟨some 2,.op (.mv (.c (.int .u8 0))),none⟩]) (.seq (.seq (.reg [3] [
 ⟨some 3,.op (.mv (.t 0)),none⟩]) (.cond (.t 3) (.seq (.reg [2] [
 ⟨some 2,.op (.mv (.c (.int .u8 1))),none⟩]) (.ret)) (.skip))) (.seq (.reg [2] [
 ⟨some 2,.op (.mv (.c (.int .u8 0))),none⟩]) (.ret)))
theorem cf48 : compF Tryz.prog Tryz.f48 h48 = some (ac48,rs48) := by kernel_rfl
/-! (*mailcoach/pack.Writer).Text params 2 -/
def h49 : Hints := ⟨[(0,[])],[],[]⟩
def rs49 : List ARes := []
def ac49 : ACode :=
 .reg [] [
 ⟨some 4,.op (.mv (.t 0)),none⟩,⟨some 5,.op (.mv (.t 1)),none⟩,⟨some 6,.op (.strBytes (.t 5)),none⟩,⟨some 7,.call (.c (.fn 54 [] [])) [(.t 4),(.t 6)],none⟩]
theorem cf49 : compF Tryz.prog Tryz.f49 h49 = some (ac49,rs49) := by kernel_rfl
/-! (*mailcoach/dedup.Table).Write params 2 -/
def h51 : Hints := ⟨[(15,[1,29,30,31]),(14,[1,29,30,31]),(13,[1,8,29,30,31]),(12,[1,8,29,30,31]),(11,[1,8,29,30,31]),(10,[1,8,29,30,31]),(9,[1,29,30,31,32]),(8,[1,29,30,31]),(7,[1,4]),(6,[1,4,10,11,12]),(5,[1,4,10,11,12]),(4,[1,4,6,10,11,12,18]),(3,[1,4,6,10,11,12]),(2,[1,4,10,11,12,13]),(1,[1,4,10,11,12]),(0,[0,1,4])],[(9,[1,29,30,31]),(2,[1,4,10,11,12])],[]⟩
def rs51 : List ARes := []
def ac51 : ACode :=
 .seq (.reg [0,1,4] [
 ⟨some 4,.op (.mv (.c (.nilsl))),none⟩]) (.seq (.seq (.reg [1,4,10,11,12] [
 ⟨some 9,.op (.mv (.t 0)),none⟩,⟨some 10,.call (.c (.fn 31 [] [])) [(.t 9)],none⟩,⟨some 11,.op (.len 1 (.t 10)),none⟩,⟨some 12,.op (.mv (.c (.int .i64 0))),none⟩]) (.block 0 (.loop [1,4,10,11,12] (.seq (.reg [1,4,10,11,12,13] [
 ⟨some 13,.op (.bin .lss (.t 12) (.t 11)),none⟩]) (.seq (.cond (.t 13) (.skip) (.exit 0)) (.seq (.block 1 (.seq (.reg [1,4,6,10,11,12] [
 ⟨some 14,.op (.idxAddr 5 (.t 10) (.t 12)),none⟩,⟨some 15,.op (.ldn 5 (.t 14)),none⟩,⟨some 6,.op (.alloc [.str ⟨#[]⟩,.int .u64 0,.int .u64 0,.int .u64 0,.int .u64 0]),none⟩,⟨none,.op (.st 5 (.t 6) (.t 15)),none⟩]) (.seq (.reg [1,4,6,10,11,12,18] [
 ⟨some 16,.op (.fieldAddr 2 (.t 6)),none⟩,⟨some 17,.op (.ld1 (.t 16)),none⟩,⟨some 18,.op (.bin .gtr (.t 17) (.c (.int .u64 0))),none⟩]) (.cond (.t 18) (.reg [1,4,10,11,12] [
 ⟨some 19,.op (.mv (.t 4)),none⟩,⟨some 20,.op (.ldn 5 (.t 6)),none⟩,⟨some 21,.op (.buildSl 5 [.str ⟨#[]⟩,.int .u64 0,.int .u64 0,.int .u64 0,.int .u64 0] 1 [(0,(.t 20))]),none⟩,⟨some 22,.op (.append 5 48 (.t 19) (.t 21)),none⟩,⟨some 4,.op (.mv (.t 22)),none⟩]) (.skip))))) (.reg [1,4,10,11,12] [
 ⟨some 23,.op (.bin .add (.t 12) (.c (.int .i64 1))),none⟩,⟨some 12,.op (.mv (.t 23)),none⟩]))))))) (.seq (.reg [1,4] [
 ⟨some 24,.op (.mv (.t 1)),none⟩,⟨some 25,.op (.mv (.t 4)),none⟩,⟨some 26,.op (.len 1 (.t 25)),none⟩,⟨some 27,.op (.toInt .u8 (.t 26)),none⟩,⟨some 28,.call (.c (.fn 46 [] [])) [(.t 24),(.t 27)],none⟩]) (.seq (.reg [1,29,30,31] [
 ⟨some 29,.op (.mv (.t 4)),none⟩,⟨some 30,.op (.len 1 (.t 29)),none⟩,⟨some 31,.op (.mv (.c (.int .i64 0))),none⟩]) (.block 2 (.loop [1,29,30,31] (.seq (.reg [1,29,30,31,32] [
 ⟨some 32,.op (.bin .lss (.t 31) (.t 30)),none⟩]) (.seq (.cond (.t 32) (.skip) (.exit 2)) (.seq (.block 3 (.seq (.reg [1,8,29,30,31] [
 ⟨some 33,.op (.idxAddr 5 (.t 29) (.t 31)),none⟩,⟨some 34,.op (.ldn 5 (.t 33)),none⟩,⟨some 8,.op (.alloc [.str ⟨#[]⟩,.int .u64 0,.int .u64 0,.int .u64 0,.int .u64 0]),none⟩,⟨none,.op (.st 5 (.t 8) (.t 34)),none⟩]) (.seq (.reg [1,8,29,30,31] [
 ⟨some 35,.op (.mv (.t 1)),none⟩,⟨some 36,.op (.fieldAddr 0 (.t 8)),none⟩,⟨some 37,.op (.ld1 (.t 36)),none⟩,⟨some 38,.call (.c (.fn 49 [] [])) [(.t 35),(.t 37)],none⟩]) (.seq (.reg [1,8,29,30,31] [
 ⟨some 39,.op (.mv (.t 1)),none⟩,⟨some 40,.op (.fieldAddr 2 (.t 8)),none⟩,⟨some 41,.op (.ld1 (.t 40)),none⟩,⟨some 42,.call (.c (.fn 47 [] [])) [(.t 39),(.t 41)],none⟩]) (.seq (.reg [1,8,29,30,31] [
 ⟨some 43,.op (.mv (.t 1)),none⟩,⟨some 44,.op (.fieldAddr 3 (.t 8)),none⟩,⟨some 45,.op (.fieldAddr 0 (.t 44)),none⟩,⟨some 46,.op (.ld1 (.t 45)),none⟩,⟨some 47,.call (.c (.fn 47 [] [])) [(.t 43),(.t 46)],none⟩]) (.reg [1,29,30,31] [
 ⟨some 48,.op (.mv (.t 1)),none⟩,⟨some 49,.op (.fieldAddr 3 (.t 8)),none⟩,⟨some 50,.op (.fieldAddr 1 (.t 49)),none⟩,⟨some 51,.op (.ld1 (.t 50)),none⟩,⟨some 52,.call (.c (.fn 47 [] [])) [(.t 48),(.t 51)],none⟩])))))) (.reg [1,29,30,31] [
 ⟨some 53,.op (.bin .add (.t 31) (.c (.int .i64 1))),none⟩,⟨some 31,.op (.mv (.t 53)),none⟩])))))))))
theorem cf51 : compF Tryz.prog Tryz.f51 h51 = some (ac51,rs51) := by kernel_rfl
/-! (*mailcoach/pack.Writer).Done params 1 -/
def h52 : Hints := ⟨[(3,[2]),(2,[2]),(1,[0,4]),(0,[0])],[],[]⟩
def rs52 : List ARes := [.t 2]
def ac52 : ACode :=
 .seq (.reg [0] [
 ⟨some 2,.op (.mv (.c (.nilsl))),none⟩]) (.seq (.seq (.reg [0,4] [
 ⟨some 3,.op (.mv (.t 0)),none⟩,⟨some 4,.op (.eqn 0 false (.t 3) (.c (.nilp))),none⟩]) (.cond (.t 4) (.seq (.reg [2] [
 ⟨some 2,.op (.mv (.c (.nilsl))),none⟩]) (.ret)) (.skip))) (.seq (.reg [2] [
 ⟨some 5,.op (.mv (.t 0)),none⟩,⟨some 6,.op (.nilCheck (.t 5)),none⟩,⟨some 7,.op (.fieldAddr 0 (.t 6)),none⟩,⟨some 8,.op (.ld1 (.t 7)),none⟩,⟨some 9,.call (.c (.fn 79 [] [])) [(.t 8)],none⟩,⟨some 2,.op (.mv (.t 9)),none⟩]) (.ret)))
theorem cf52 : compF Tryz.prog Tryz.f52 h52 = some (ac52,rs52) := by kernel_rfl
/-! mailcoach/codec.numbers params 1 -/
def h53 : Hints := ⟨[(1,[2]),(0,[0])],[],[(1,[(0,[]),(1,[]),(2,[]),(3,[]),(4,[]),(5,[]),(6,[]),(7,[]),(8,[]),(9,[]),(10,[]),(11,[]),(12,[]),(13,[]),(14,[]),(15,[]),(16,[]),(17,[]),(18,[]),(19,[]),(20,[]),(21,[]),(22,[]),(23,[]),(24,[])])]⟩
def rs53 : List ARes := [.t 2]
def ac53 : ACode :=
 .seq (.reg [0] [
 ⟨some 2,.op (.mv (.c (.nilsl))),none⟩]) (.seq (.dreg [2] [
 (⟨some 3,.op (.mv (.t 0)),none⟩,[]),(⟨some 4,.op (.nilCheck (.t 3)),none⟩,[]),(⟨some 5,.op (.fieldAddr 4 (.t 4)),none⟩,[]),(⟨some 6,.op (.mv (.t 0)),none⟩,[]),(⟨some 7,.op (.nilCheck (.t 6)),none⟩,[]),(⟨some 8,.op (.fieldAddr 5 (.t 7)),none⟩,[]),(⟨some 9,.op (.mv (.t 0)),none⟩,[]),(⟨some 10,.op (.nilCheck (.t 9)),none⟩,[]),(⟨some 11,.op (.fieldAddr 6 (.t 10)),none⟩,[]),(⟨some 12,.op (.mv (.t 0)),none⟩,[]),(⟨some 13,.op (.nilCheck (.t 12)),none⟩,[]),(⟨some 14,.op (.fieldAddr 7 (.t 13)),none⟩,[]),(⟨some 15,.op (.mv (.t 0)),none⟩,[]),(⟨some 16,.op (.nilCheck (.t 15)),none⟩,[]),(⟨some 17,.op (.fieldAddr 8 (.t 16)),none⟩,[]),(⟨some 18,.op (.mv (.t 0)),none⟩,[]),(⟨some 19,.op (.nilCheck (.t 18)),none⟩,[]),(⟨some 20,.op (.fieldAddr 9 (.t 19)),none⟩,[]),(⟨some 21,.op (.fieldAddr 0 (.t 20)),none⟩,[]),(⟨some 22,.op (.mv (.t 0)),none⟩,[]),(⟨some 23,.op (.nilCheck (.t 22)),none⟩,[]),(⟨some 24,.op (.fieldAddr 9 (.t 23)),none⟩,[]),(⟨some 25,.op (.fieldAddr 1 (.t 24)),none⟩,[]),(⟨some 26,.op (.buildSl 1 [.nilp] 7 [(0,(.t 5)),(1,(.t 8)),(2,(.t 11)),(3,(.t 14)),(4,(.t 17)),(5,(.t 21)),(6,(.t 25))]),none⟩,[]),(⟨some 2,.op (.mv (.t 26)),none⟩,[])]) (.ret))
theorem cf53 : compF Tryz.prog Tryz.f53 h53 = some (ac53,rs53) := by kernel_rfl
/-! (*mailcoach/pack.Writer).Bytes params 2 -/
def h54 : Hints := ⟨[(2,[]),(1,[0,1,10]),(0,[0,1])],[],[]⟩
def rs54 : List ARes := []
def ac54 : ACode :=
 .seq (.reg [0,1] [
 ⟨some 4,.op (.mv (.t 0)),none⟩,⟨some 5,.op (.mv (.t 1)),none⟩,⟨some 6,.op (.len 1 (.t 5)),none⟩,⟨some 7,.op (.toInt .u64 (.t 6)),none⟩,⟨some 8,.call (.c (.fn 78 [] [])) [(.t 4),(.t 7),(.c (.int .i64 4))],none⟩]) (.seq (.reg [0,1,10] [
 ⟨some 9,.op (.mv (.t 0)),none⟩,⟨some 10,.op (.eqn 0 true (.t 9) (.c (.nilp))),none⟩]) (.cond (.t 10) (.reg [] [
 ⟨some 11,.op (.mv (.t 0)),none⟩,⟨some 12,.op (.mv (.t 0)),none⟩,⟨some 13,.op (.nilCheck (.t 12)),none⟩,⟨some 14,.op (.fieldAddr 0 (.t 13)),none⟩,⟨some 15,.op (.ld1 (.t 14)),none⟩,⟨some 16,.op (.mv (.t 1)),none⟩,⟨some 17,.op (.append 1 1 (.t 15) (.t 16)),none⟩,⟨some 18,.op (.nilCheck (.t 11)),none⟩,⟨some 19,.op (.fieldAddr 0 (.t 18)),none⟩,⟨none,.op (.st 1 (.t 19) (.t 17)),none⟩]) (.skip)))
theorem cf54 : compF Tryz.prog Tryz.f54 h54 = some (ac54,rs54) := by kernel_rfl
/-! (*mailcoach/pack.Writer).U16 params 2 -/
def h55 : Hints := ⟨[(0,[])],[],[]⟩
def rs55 : List ARes := []
def ac55 : ACode :=
 .reg [] [
 ⟨some 4,.op (.mv (.t 0)),none⟩,⟨some 5,.op (.mv (.t 1)),none⟩,⟨some 6,.op (.toInt .u64 (.t 5)),none⟩,⟨some 7,.call (.c (.fn 78 [] [])) [(.t 4),(.t 6),(.c (.int .i64 2))],none⟩]
theorem cf55 : compF Tryz.prog Tryz.f55 h55 = some (ac55,rs55) := by kernel_rfl
/-! mailcoach/codec.Hear$1 params 2 -/
def h56 : Hints := ⟨[(21,[0,1,3,60,61]),(20,[0,1,3,60,61]),(19,[0,1,3,60,61,62]),(18,[0,1,3,60,61]),(17,[0,1,3]),(16,[0,1,3,45,46,47]),(15,[0,1,3,45,46,47]),(14,[0,1,3,9,45,46,47]),(13,[0,1,3,45,46,47,48]),(12,[0,1,3,45,46,47]),(11,[0,1,3,32,33,34]),(10,[0,1,3,32,33,34]),(9,[0,1,3,7,32,33,34]),(8,[0,1,3,32,33,34,35]),(7,[0,1,3,32,33,34]),(6,[0,1,3]),(5,[0,1,3,14,15,16]),(4,[0,1,3,14,15,16]),(3,[0,1,3,5,14,15,16]),(2,[0,1,3,14,15,16,17]),(1,[0,1,3,14,15,16]),(0,[0,1,3])],[(19,[0,1,3,60,61]),(13,[0,1,3,45,46,47]),(8,[0,1,3,32,33,34]),(2,[0,1,3,14,15,16])],[(20,[(0,[]),(1,[]),(2,[]),(4,[]),(3,[1]),(5,[1]),(6,[]),(7,[]),(8,[]),(9,[]),(10,[])])]⟩
def rs56 : List ARes := []
def ac56 : ACode :=
 .seq (.reg [0,1,3] [
 ⟨some 10,.op (.mv (.t 0)),none⟩,⟨some 11,.op (.mkfn 25 [(.t 10)] []),none⟩,⟨some 3,.op (.mv (.t 11)),none⟩]) (.seq (.seq (.reg [0,1,3,14,15,16] [
 ⟨some 12,.op (.fieldAddr 0 (.t 1)),none⟩,⟨some 13,.op (.fieldAddr 1 (.t 1)),none⟩,⟨some 14,.op (.buildSl 1 [.nilp] 2 [(0,(.t 12)),(1,(.t 13))]),none⟩,⟨some 15,.op (.len 1 (.t 14)),none⟩,⟨some 16,.op (.mv (.c (.int .i64 0))),none⟩]) (.block 0 (.loop [0,1,3,14,15,16] (.seq (.reg [0,1,3,14,15,16,17] [
 ⟨some 17,.op (.bin .lss (.t 16) (.t 15)),none⟩]) (.seq (.cond (.t 17) (.skip) (.exit 0)) (.seq (.block 1 (.seq (.reg [0,1,3,5,14,15,16] [
 ⟨some 18,.op (.idxAddr 1 (.t 14) (.t 16)),none⟩,⟨some 19,.op (.ld1 (.t 18)),none⟩,⟨some 5,.op (.mv (.t 19)),none⟩]) (.reg [0,1,3,14,15,16] [
 ⟨some 20,.op (.mv (.t 5)),none⟩,⟨some 21,.op (.mv (.t 0)),none⟩,⟨some 22,.call (.c (.fn 26 [] [])) [(.t 21)],none⟩,⟨some 23,.op (.nilCheck (.t 20)),none⟩,⟨none,.op (.st 1 (.t 23) (.t 22)),none⟩]))) (.reg [0,1,3,14,15,16] [
 ⟨some 24,.op (.bin .add (.t 16) (.c (.int .i64 1))),none⟩,⟨some 16,.op (.mv (.t 24)),none⟩]))))))) (.seq (.reg [0,1,3] [
 ⟨some 25,.op (.mv (.t 0)),none⟩,⟨some 26,.call (.c (.fn 27 [] [])) [(.t 25)],none⟩,⟨some 27,.op (.mv (.t 0)),none⟩,⟨some 28,.call (.c (.fn 26 [] [])) [(.t 27)],none⟩,⟨some 29,.op (.toInt .i64 (.t 28)),none⟩,⟨some 30,.op (.fieldAddr 2 (.t 1)),none⟩,⟨none,.op (.st 1 (.t 30) (.t 26)),none⟩,⟨some 31,.op (.fieldAddr 3 (.t 1)),none⟩,⟨none,.op (.st 1 (.t 31) (.t 29)),none⟩]) (.seq (.seq (.reg [0,1,3,32,33,34] [
 ⟨some 32,.call (.c (.fn 53 [] [])) [(.t 1)],none⟩,⟨some 33,.op (.len 1 (.t 32)),none⟩,⟨some 34,.op (.mv (.c (.int .i64 0))),none⟩]) (.block 2 (.loop [0,1,3,32,33,34] (.seq (.reg [0,1,3,32,33,34,35] [
 ⟨some 35,.op (.bin .lss (.t 34) (.t 33)),none⟩]) (.seq (.cond (.t 35) (.skip) (.exit 2)) (.seq (.block 3 (.seq (.reg [0,1,3,7,32,33,34] [
 ⟨some 36,.op (.idxAddr 1 (.t 32) (.t 34)),none⟩,⟨some 37,.op (.ld1 (.t 36)),none⟩,⟨some 7,.op (.mv (.t 37)),none⟩]) (.reg [0,1,3,32,33,34] [
 ⟨some 38,.op (.mv (.t 7)),none⟩,⟨some 39,.op (.mv (.t 3)),none⟩,⟨some 40,.call (.t 39) [],none⟩,⟨some 41,.op (.nilCheck (.t 38)),none⟩,⟨none,.op (.st 1 (.t 41) (.t 40)),none⟩]))) (.reg [0,1,3,32,33,34] [
 ⟨some 42,.op (.bin .add (.t 34) (.c (.int .i64 1))),none⟩,⟨some 34,.op (.mv (.t 42)),none⟩]))))))) (.seq (.seq (.reg [0,1,3,45,46,47] [
 ⟨some 43,.op (.fieldAddr 11 (.t 1)),none⟩,⟨some 44,.op (.fieldAddr 12 (.t 1)),none⟩,⟨some 45,.op (.buildSl 1 [.nilp] 2 [(0,(.t 43)),(1,(.t 44))]),none⟩,⟨some 46,.op (.len 1 (.t 45)),none⟩,⟨some 47,.op (.mv (.c (.int .i64 0))),none⟩]) (.block 4 (.loop [0,1,3,45,46,47] (.seq (.reg [0,1,3,45,46,47,48] [
 ⟨some 48,.op (.bin .lss (.t 47) (.t 46)),none⟩]) (.seq (.cond (.t 48) (.skip) (.exit 4)) (.seq (.block 5 (.seq (.reg [0,1,3,9,45,46,47] [
 ⟨some 49,.op (.idxAddr 1 (.t 45) (.t 47)),none⟩,⟨some 50,.op (.ld1 (.t 49)),none⟩,⟨some 9,.op (.mv (.t 50)),none⟩]) (.reg [0,1,3,45,46,47] [
 ⟨some 51,.op (.mv (.t 9)),none⟩,⟨some 52,.op (.mv (.t 0)),none⟩,⟨some 53,.call (.c (.fn 28 [] [])) [(.t 52)],none⟩,⟨some 54,.op (.nilCheck (.t 51)),none⟩,⟨none,.op (.st 1 (.t 54) (.t 53)),none⟩]))) (.reg [0,1,3,45,46,47] [
 ⟨some 55,.op (.bin .add (.t 47) (.c (.int .i64 1))),none⟩,⟨some 47,.op (.mv (.t 55)),none⟩]))))))) (.seq (.reg [0,1,3] [
 ⟨some 56,.op (.mv (.t 0)),none⟩,⟨some 57,.call (.c (.fn 57 [] [])) [(.t 56)],none⟩,⟨some 58,.op (.fieldAddr 13 (.t 1)),none⟩,⟨none,.op (.st 1 (.t 58) (.t 57)),none⟩]) (.seq (.reg [0,1,3,60,61] [
 ⟨some 59,.op (.mv (.t 0)),none⟩,⟨some 60,.call (.c (.fn 58 [] [])) [(.t 59)],none⟩,⟨some 61,.op (.mv (.c (.int .u16 0))),none⟩]) (.block 6 (.loop [0,1,3,60,61] (.seq (.reg [0,1,3,60,61,62] [
 ⟨some 62,.op (.bin .lss (.t 61) (.t 60)),none⟩]) (.seq (.cond (.t 62) (.skip) (.exit 6)) (.seq (.block 7 (.dreg [0,1,3,60,61] [
 (⟨some 63,.op (.fieldAddr 14 (.t 1)),none⟩,[]),(⟨some 64,.op (.ld1 (.t 63)),none⟩,[]),(⟨some 65,.op (.mv (.t 3)),none⟩,[]),(⟨some 67,.op (.mv (.t 0)),none⟩,[]),(⟨some 66,.call (.t 65) [],none⟩,[1]),(⟨some 68,.call (.c (.fn 57 [] [])) [(.t 67)],none⟩,[1]),(⟨some 69,.op (.build [.int .u64 0,.nilsl] [(0,1,(.t 66)),(1,1,(.t 68))]),none⟩,[]),(⟨some 70,.op (.buildSl 2 [.int .u64 0,.nilsl] 1 [(0,(.t 69))]),none⟩,[]),(⟨some 71,.op (.append 2 32 (.t 64) (.t 70)),none⟩,[]),(⟨some 72,.op (.fieldAddr 14 (.t 1)),none⟩,[]),(⟨none,.op (.st 1 (.t 72) (.t 71)),none⟩,[])])) (.reg [0,1,3,60,61] [
 ⟨some 73,.op (.bin .add (.t 61) (.c (.int .u16 1))),none⟩,⟨some 61,.op (.mv (.t 73)),none⟩]))))))))))))
theorem cf56 : compF Tryz.prog Tryz.f56 h56 = some (ac56,rs56) := by kernel_rfl
/-! (*mailcoach/pack.Reader).Bytes params 1 -/
def h57 : Hints := ⟨[(1,[2]),(0,[0])],[],[]⟩
def rs57 : List ARes := [.t 2]
def ac57 : ACode :=
 .seq (.reg [0] [
 ⟨some 2,.op (.mv (.c (.nilsl))),none⟩]) (.seq (.reg [2] [
 ⟨some 3,.op (.mv (.t 0)),none⟩,⟨some 4,.op (.mv (.t 0)),none⟩,⟨some 5,.call (.c (.fn 65 [] [])) [(.t 4),(.c (.int .u64 4))],none⟩,⟨some 6,.call (.c (.fn 80 [] [])) [(.t 3),(.t 5)],none⟩,⟨some 7,.call (.c (.fn 79 [] [])) [(.t 6)],none⟩,⟨some 2,.op (.mv (.t 7)),none⟩]) (.ret))
theorem cf57 : compF Tryz.prog Tryz.f57 h57 = some (ac57,rs57) := by kernel_rfl
/-! (*mailcoach/pack.Reader).U16 params 1 -/
def h58 : Hints := ⟨[(1,[2]),(0,[0])],[],[]⟩
def rs58 : List ARes := [.t 2]
def ac58 : ACode :=
 .seq (.reg [0] [
 ⟨some 2,.op (.mv (.c (.int .u16 0))),none⟩]) (.seq (.reg [2] [
 ⟨some 3,.op (.mv (.t 0)),none⟩,⟨some 4,.call (.c (.fn 65 [] [])) [(.t 3),(.c (.int .u64 2))],none⟩,⟨some 5,.op (.toInt .u16 (.t 4)),none⟩,⟨some 2,.op (.mv (.t 5)),none⟩]) (.ret))
theorem cf58 : compF Tryz.prog Tryz.f58 h58 = some (ac58,rs58) := by kernel_rfl
/-! mailcoach/mailcoachref13.Right params 1 -/
def h59 : Hints := ⟨[(10,[2]),(5,[0,3]),(9,[2]),(8,[0,3,65]),(7,[2]),(6,[0,3,44]),(4,[0,3,10]),(3,[0,3]),(2,[2]),(1,[0,6]),(0,[0])],[(4,[0,3])],[(6,[(0,[]),(1,[]),(2,[]),(3,[]),(4,[]),(5,[]),(6,[]),(7,[]),(8,[]),(9,[]),(10,[]),(11,[]),(12,[]),(13,[]),(14,[]),(15,[]),(16,[]),(17,[]),(18,[]),(19,[]),(20,[]),(21,[]),(22,[]),(23,[]),(24,[]),(25,[]),(26,[]),(27,[]),(28,[]),(29,[]),(30,[]),(31,[])])]⟩
def rs59 : List ARes := [.t 2]
def ac59 : ACode :=
 .seq (.reg [0] [
 ⟨some 2,.op (.mv (.c (.bool false))),none⟩]) (.seq (.seq (.reg [0,6] [
 ⟨some 4,.op (.mv (.t 0)),none⟩,⟨some 5,.op (.len 1 (.t 4)),none⟩,⟨some 6,.op (.bin .gtr (.t 5) (.c (.int .i64 64))),none⟩]) (.cond (.t 6) (.seq (.reg [2] [
 ⟨some 2,.op (.mv (.c (.bool false))),none⟩]) (.ret)) (.skip))) (.seq (.seq (.reg [0,3] [
 ⟨some 3,.op (.mv (.c (.int .i64 0))),none⟩]) (.block 0 (.loop [0,3] (.seq (.seq (.reg [0,3,10] [
 ⟨some 7,.op (.mv (.t 3)),none⟩,⟨some 8,.op (.mv (.t 0)),none⟩,⟨some 9,.op (.len 1 (.t 8)),none⟩,⟨some 10,.op (.bin .lss (.t 7) (.t 9)),none⟩]) (.cond (.t 10) (.skip) (.exit 0))) (.seq (.block 1 (.seq (.seq (.dreg [0,3,44] [
 (⟨some 13,.op (.mv (.t 0)),none⟩,[]),(⟨some 14,.op (.mv (.t 3)),none⟩,[]),(⟨some 15,.op (.idxAddr 3 (.t 13) (.t 14)),none⟩,[]),(⟨some 16,.op (.fieldAddr 0 (.t 15)),none⟩,[]),(⟨some 17,.op (.ld1 (.t 16)),none⟩,[]),(⟨some 18,.op (.bin .eql (.t 17) (.c (.int .u64 0))),none⟩,[]),(⟨some 19,.op (.mv (.t 18)),none⟩,[]),(⟨some 20,.op (.mv (.t 0)),some (19,false)⟩,[]),(⟨some 21,.op (.mv (.t 3)),some (19,false)⟩,[]),(⟨some 22,.op (.idxAddr 3 (.t 20) (.t 21)),some (19,false)⟩,[]),(⟨some 23,.op (.fieldAddr 2 (.t 22)),some (19,false)⟩,[]),(⟨some 24,.op (.ld1 (.t 23)),some (19,false)⟩,[]),(⟨some 25,.op (.bin .gtr (.t 24) (.c (.int .u64 1048576))),some (19,false)⟩,[]),(⟨some 26,.pick (.t 19) (.c (.bool true)) (.t 25),none⟩,[]),(⟨some 27,.op (.mv (.t 26)),none⟩,[]),(⟨some 28,.op (.mv (.t 3)),some (27,false)⟩,[]),(⟨some 29,.op (.bin .gtr (.t 28) (.c (.int .i64 0))),some (27,false)⟩,[]),(⟨some 30,.op (.mv (.t 29)),some (27,false)⟩,[]),(⟨some 31,.op (.mv (.t 0)),some (30,true)⟩,[]),(⟨some 32,.op (.mv (.t 3)),some (30,true)⟩,[]),(⟨some 33,.op (.idxAddr 3 (.t 31) (.t 32)),some (30,true)⟩,[]),(⟨some 34,.op (.fieldAddr 0 (.t 33)),some (30,true)⟩,[]),(⟨some 35,.op (.ld1 (.t 34)),some (30,true)⟩,[]),(⟨some 36,.op (.mv (.t 0)),some (30,true)⟩,[]),(⟨some 37,.op (.mv (.t 3)),some (30,true)⟩,[]),(⟨some 38,.op (.bin .sub (.t 37) (.c (.int .i64 1))),some (30,true)⟩,[]),(⟨some 39,.op (.idxAddr 3 (.t 36) (.t 38)),some (30,true)⟩,[]),(⟨some 40,.op (.fieldAddr 0 (.t 39)),some (30,true)⟩,[]),(⟨some 41,.op (.ld1 (.t 40)),some (30,true)⟩,[]),(⟨some 42,.op (.bin .leq (.t 35) (.t 41)),some (30,true)⟩,[]),(⟨some 43,.pick (.t 30) (.t 42) (.c (.bool false)),some (27,false)⟩,[]),(⟨some 44,.pick (.t 27) (.c (.bool true)) (.t 43),none⟩,[])]) (.cond (.t 44) (.seq (.reg [2] [
 ⟨some 2,.op (.mv (.c (.bool false))),none⟩]) (.ret)) (.skip))) (.seq (.reg [0,3,65] [
 ⟨some 45,.op (.mv (.t 0)),none⟩,⟨some 46,.op (.mv (.t 3)),none⟩,⟨some 47,.op (.idxAddr 3 (.t 45) (.t 46)),none⟩,⟨some 48,.op (.fieldAddr 1 (.t 47)),none⟩,⟨some 49,.op (.ld1 (.t 48)),none⟩,⟨some 50,.op (.un .not (.t 49)),none⟩,⟨some 51,.op (.mv (.t 50)),none⟩,⟨some 52,.op (.mv (.t 3)),some (51,true)⟩,⟨some 53,.op (.mv (.t 0)),some (51,true)⟩,⟨some 54,.op (.len 1 (.t 53)),some (51,true)⟩,⟨some 55,.op (.bin .sub (.t 54) (.c (.int .i64 1))),some (51,true)⟩,⟨some 56,.op (.bin .neq (.t 52) (.t 55)),some (51,true)⟩,⟨some 57,.op (.mv (.t 56)),some (51,true)⟩,⟨some 58,.op (.mv (.t 0)),some (57,false)⟩,⟨some 59,.op (.mv (.t 3)),some (57,false)⟩,⟨some 60,.op (.idxAddr 3 (.t 58) (.t 59)),some (57,false)⟩,⟨some 61,.op (.fieldAddr 2 (.t 60)),some (57,false)⟩,⟨some 62,.op (.ld1 (.t 61)),some (57,false)⟩,⟨some 63,.op (.bin .neq (.t 62) (.c (.int .u64 0))),some (57,false)⟩,⟨some 64,.pick (.t 57) (.c (.bool true)) (.t 63),some (51,true)⟩,⟨some 65,.pick (.t 51) (.t 64) (.c (.bool false)),none⟩]) (.cond (.t 65) (.seq (.reg [2] [
 ⟨some 2,.op (.mv (.c (.bool false))),none⟩]) (.ret)) (.skip))))) (.reg [0,3] [
 ⟨some 11,.op (.mv (.t 3)),none⟩,⟨some 12,.op (.bin .add (.t 11) (.c (.int .i64 1))),none⟩,⟨some 3,.op (.mv (.t 12)),none⟩])))))) (.seq (.reg [2] [
 ⟨some 2,.op (.mv (.c (.bool true))),none⟩]) (.ret))))
theorem cf59 : compF Tryz.prog Tryz.f59 h59 = some (ac59,rs59) := by kernel_rfl
/-! mailcoach/mailcoachref13.RightCursor params 1 -/
def h60 : Hints := ⟨[(9,[2]),(3,[1,3]),(8,[2]),(7,[1,3,54]),(6,[2]),(5,[1,3,4,42]),(4,[1,3,4]),(2,[1,3,9]),(1,[1,3]),(0,[1])],[(2,[1,3])],[(5,[(0,[]),(1,[]),(2,[]),(3,[]),(4,[]),(5,[]),(6,[]),(7,[]),(8,[]),(9,[]),(10,[]),(11,[]),(12,[]),(13,[]),(14,[]),(15,[]),(16,[]),(17,[]),(18,[]),(19,[]),(20,[]),(21,[]),(22,[]),(23,[]),(24,[]),(25,[])]),(7,[(0,[]),(1,[]),(2,[]),(3,[]),(4,[]),(5,[]),(6,[]),(7,[]),(8,[]),(9,[]),(10,[]),(11,[])])]⟩
def rs60 : List ARes := [.t 2]
def ac60 : ACode :=
 .seq (.reg [1] [
 ⟨some 1,.op (.box (.t 0)),none⟩,⟨some 2,.op (.mv (.c (.bool false))),none⟩]) (.seq (.seq (.reg [1,3] [
 ⟨some 3,.op (.mv (.c (.int .i64 0))),none⟩]) (.block 0 (.loop [1,3] (.seq (.seq (.reg [1,3,9] [
 ⟨some 5,.op (.mv (.t 3)),none⟩,⟨some 6,.op (.fieldAddr 2 (.t 1)),none⟩,⟨some 7,.op (.ld1 (.t 6)),none⟩,⟨some 8,.op (.len 1 (.t 7)),none⟩,⟨some 9,.op (.bin .lss (.t 5) (.t 8)),none⟩]) (.cond (.t 9) (.skip) (.exit 0))) (.seq (.block 1 (.seq (.reg [1,3,4] [
 ⟨some 12,.op (.fieldAddr 2 (.t 1)),none⟩,⟨some 13,.op (.ld1 (.t 12)),none⟩,⟨some 14,.op (.mv (.t 3)),none⟩,⟨some 15,.op (.idxAddr 2 (.t 13) (.t 14)),none⟩,⟨some 16,.op (.ldn 2 (.t 15)),none⟩,⟨some 4,.op (.alloc [.int .u64 0,.nilsl]),none⟩,⟨none,.op (.st 2 (.t 4) (.t 16)),none⟩]) (.seq (.seq (.dreg [1,3,4,42] [
 (⟨some 17,.op (.fieldAddr 1 (.t 4)),none⟩,[]),(⟨some 18,.op (.ld1 (.t 17)),none⟩,[]),(⟨some 19,.op (.len 1 (.t 18)),none⟩,[]),(⟨some 20,.op (.bin .eql (.t 19) (.c (.int .i64 0))),none⟩,[]),(⟨some 21,.op (.mv (.t 20)),none⟩,[]),(⟨some 22,.op (.fieldAddr 1 (.t 4)),some (21,false)⟩,[]),(⟨some 23,.op (.ld1 (.t 22)),some (21,false)⟩,[]),(⟨some 24,.call (.c (.fn 81 [] [])) [(.t 23)],some (21,false)⟩,[]),(⟨some 25,.op (.un .not (.t 24)),some (21,false)⟩,[]),(⟨some 26,.pick (.t 21) (.c (.bool true)) (.t 25),none⟩,[]),(⟨some 27,.op (.mv (.t 26)),none⟩,[]),(⟨some 28,.op (.mv (.t 3)),some (27,false)⟩,[]),(⟨some 29,.op (.bin .gtr (.t 28) (.c (.int .i64 0))),some (27,false)⟩,[]),(⟨some 30,.op (.mv (.t 29)),some (27,false)⟩,[]),(⟨some 31,.op (.fieldAddr 0 (.t 4)),some (30,true)⟩,[]),(⟨some 32,.op (.ld1 (.t 31)),some (30,true)⟩,[]),(⟨some 33,.op (.fieldAddr 2 (.t 1)),some (30,true)⟩,[]),(⟨some 34,.op (.ld1 (.t 33)),some (30,true)⟩,[]),(⟨some 35,.op (.mv (.t 3)),some (30,true)⟩,[]),(⟨some 36,.op (.bin .sub (.t 35) (.c (.int .i64 1))),some (30,true)⟩,[]),(⟨some 37,.op (.idxAddr 2 (.t 34) (.t 36)),some (30,true)⟩,[]),(⟨some 38,.op (.fieldAddr 0 (.t 37)),some (30,true)⟩,[]),(⟨some 39,.op (.ld1 (.t 38)),some (30,true)⟩,[]),(⟨some 40,.op (.bin .leq (.t 32) (.t 39)),some (30,true)⟩,[]),(⟨some 41,.pick (.t 30) (.t 40) (.c (.bool false)),some (27,false)⟩,[]),(⟨some 42,.pick (.t 27) (.c (.bool true)) (.t 41),none⟩,[])]) (.cond (.t 42) (.seq (.reg [2] [
 ⟨some 2,.op (.mv (.c (.bool false))),none⟩]) (.ret)) (.skip))) (.seq (.dreg [1,3,54] [
 (⟨some 43,.op (.fieldAddr 0 (.t 4)),none⟩,[]),(⟨some 44,.op (.ld1 (.t 43)),none⟩,[]),(⟨some 45,.op (.fieldAddr 1 (.t 4)),none⟩,[]),(⟨some 46,.op (.ld1 (.t 45)),none⟩,[]),(⟨some 47,.op (.idxAddr 2 (.t 46) (.c (.int .i64 0))),none⟩,[]),(⟨some 48,.op (.fieldAddr 0 (.t 47)),none⟩,[]),(⟨some 49,.op (.ld1 (.t 48)),none⟩,[]),(⟨some 50,.op (.build [.int .u64 0,.int .u64 0] [(0,1,(.t 44)),(1,1,(.t 49))]),none⟩,[]),(⟨some 51,.op (.fieldAddr 0 (.t 1)),none⟩,[]),(⟨some 52,.op (.ldn 2 (.t 51)),none⟩,[]),(⟨some 53,.call (.c (.fn 82 [] [])) [(.t 50),(.t 52)],none⟩,[]),(⟨some 54,.op (.bin .lss (.t 53) (.c (.int .i64 0))),none⟩,[])]) (.cond (.t 54) (.seq (.reg [2] [
 ⟨some 2,.op (.mv (.c (.bool false))),none⟩]) (.ret)) (.skip)))))) (.reg [1,3] [
 ⟨some 10,.op (.mv (.t 3)),none⟩,⟨some 11,.op (.bin .add (.t 10) (.c (.int .i64 1))),none⟩,⟨some 3,.op (.mv (.t 11)),none⟩])))))) (.seq (.reg [2] [
 ⟨some 2,.op (.mv (.c (.bool true))),none⟩]) (.ret)))
theorem cf60 : compF Tryz.prog Tryz.f60 h60 = some (ac60,rs60) := by kernel_rfl
/-! (*mailcoach/mailcoachref15.Table).All params 1 -/
def h61 : Hints := ⟨[(9,[2]),(4,[0,3,4]),(8,[0,3,4]),(7,[0,3,4,5]),(6,[0,3,4,5,34]),(5,[0,3,4,5]),(3,[0,3,4,12]),(2,[0,3,4]),(1,[0,3]),(0,[0])],[(6,[0,3,4,5]),(3,[0,3,4])],[(6,[(0,[]),(1,[]),(2,[]),(3,[]),(4,[]),(5,[]),(6,[]),(7,[]),(8,[]),(9,[]),(10,[]),(11,[]),(12,[]),(13,[]),(14,[]),(15,[]),(16,[]),(17,[]),(18,[]),(19,[])]),(8,[(0,[]),(1,[]),(2,[]),(3,[]),(4,[]),(5,[]),(6,[]),(7,[]),(8,[]),(9,[]),(10,[]),(11,[]),(12,[]),(13,[]),(14,[]),(15,[3]),(16,[]),(17,[])])]⟩
def rs61 : List ARes := [.t 2]
def ac61 : ACode :=
 .seq (.reg [0] [
 ⟨some 2,.op (.mv (.c (.nilsl))),none⟩]) (.seq (.reg [0,3] [
 ⟨some 3,.op (.mv (.c (.nilsl))),none⟩]) (.seq (.seq (.reg [0,3,4] [
 ⟨some 4,.op (.mv (.c (.int .i64 0))),none⟩]) (.block 0 (.loop [0,3,4] (.seq (.seq (.reg [0,3,4,12] [
 ⟨some 6,.op (.mv (.t 4)),none⟩,⟨some 7,.op (.mv (.t 0)),none⟩,⟨some 8,.op (.nilCheck (.t 7)),none⟩,⟨some 9,.op (.fieldAddr 0 (.t 8)),none⟩,⟨some 10,.op (.ld1 (.t 9)),none⟩,⟨some 11,.op (.len 1 (.t 10)),none⟩,⟨some 12,.op (.bin .lss (.t 6) (.t 11)),none⟩]) (.cond (.t 12) (.skip) (.exit 0))) (.seq (.block 1 (.seq (.reg [0,3,4,5] [
 ⟨some 5,.op (.mv (.c (.int .i64 0))),none⟩]) (.seq (.block 2 (.loop [0,3,4,5] (.seq (.seq (.dreg [0,3,4,5,34] [
 (⟨some 15,.op (.mv (.t 5)),none⟩,[]),(⟨some 16,.op (.mv (.t 3)),none⟩,[]),(⟨some 17,.op (.len 1 (.t 16)),none⟩,[]),(⟨some 18,.op (.bin .lss (.t 15) (.t 17)),none⟩,[]),(⟨some 19,.op (.mv (.t 18)),none⟩,[]),(⟨some 20,.op (.mv (.t 3)),some (19,true)⟩,[]),(⟨some 21,.op (.mv (.t 5)),some (19,true)⟩,[]),(⟨some 22,.op (.idxAddr 5 (.t 20) (.t 21)),some (19,true)⟩,[]),(⟨some 23,.op (.fieldAddr 0 (.t 22)),some (19,true)⟩,[]),(⟨some 24,.op (.ld1 (.t 23)),some (19,true)⟩,[]),(⟨some 25,.op (.mv (.t 0)),some (19,true)⟩,[]),(⟨some 26,.op (.nilCheck (.t 25)),some (19,true)⟩,[]),(⟨some 27,.op (.fieldAddr 0 (.t 26)),some (19,true)⟩,[]),(⟨some 28,.op (.ld1 (.t 27)),some (19,true)⟩,[]),(⟨some 29,.op (.mv (.t 4)),some (19,true)⟩,[]),(⟨some 30,.op (.idxAddr 5 (.t 28) (.t 29)),some (19,true)⟩,[]),(⟨some 31,.op (.fieldAddr 0 (.t 30)),some (19,true)⟩,[]),(⟨some 32,.op (.ld1 (.t 31)),some (19,true)⟩,[]),(⟨some 33,.op (.bin .lss (.t 24) (.t 32)),some (19,true)⟩,[]),(⟨some 34,.pick (.t 19) (.t 33) (.c (.bool false)),none⟩,[])]) (.cond (.t 34) (.skip) (.exit 2))) (.block 3 (.reg [0,3,4,5] [
 ⟨some 35,.op (.mv (.t 5)),none⟩,⟨some 36,.op (.bin .add (.t 35) (.c (.int .i64 1))),none⟩,⟨some 5,.op (.mv (.t 36)),none⟩]))))) (.dreg [0,3,4] [
 (⟨some 37,.op (.mv (.t 3)),none⟩,[]),(⟨some 38,.op (.mv (.t 5)),none⟩,[]),(⟨some 39,.op (.mv (.t 5)),none⟩,[]),(⟨some 40,.op (.slice 5 (.t 37) none (some (.t 38)) (some (.t 39))),none⟩,[]),(⟨some 41,.op (.mv (.t 0)),none⟩,[]),(⟨some 42,.op (.nilCheck (.t 41)),none⟩,[]),(⟨some 43,.op (.fieldAddr 0 (.t 42)),none⟩,[]),(⟨some 44,.op (.ld1 (.t 43)),none⟩,[]),(⟨some 45,.op (.mv (.t 4)),none⟩,[]),(⟨some 46,.op (.idxAddr 5 (.t 44) (.t 45)),none⟩,[]),(⟨some 47,.op (.ldn 5 (.t 46)),none⟩,[]),(⟨some 48,.op (.buildSl 5 [.str ⟨#[]⟩,.int .u64 0,.int .u64 0,.int .u64 0,.int .u64 0] 1 [(0,(.t 47))]),none⟩,[]),(⟨some 49,.op (.mv (.t 3)),none⟩,[]),(⟨some 50,.op (.mv (.t 5)),none⟩,[]),(⟨some 51,.op (.slice 5 (.t 49) (some (.t 50)) none none),none⟩,[]),(⟨some 52,.op (.append 5 48 (.t 48) (.t 51)),none⟩,[3]),(⟨some 53,.op (.append 5 48 (.t 40) (.t 52)),none⟩,[]),(⟨some 3,.op (.mv (.t 53)),none⟩,[])])))) (.reg [0,3,4] [
 ⟨some 13,.op (.mv (.t 4)),none⟩,⟨some 14,.op (.bin .add (.t 13) (.c (.int .i64 1))),none⟩,⟨some 4,.op (.mv (.t 14)),none⟩])))))) (.seq (.reg [2] [
 ⟨some 54,.op (.mv (.t 3)),none⟩,⟨some 2,.op (.mv (.t 54)),none⟩]) (.ret))))
theorem cf61 : compF Tryz.prog Tryz.f61 h61 = some (ac61,rs61) := by kernel_rfl
/-! mailcoach/mailcoachlaw13.Place params 2 -/
def h62 : Hints := ⟨[(3,[4]),(2,[4]),(1,[2,4,5]),(0,[1,2,4])],[],[]⟩
def rs62 : List ARes := [.cn 4 2]
def ac62 : ACode :=
 .seq (.reg [1,2,4] [
 ⟨some 2,.op (.box (.t 0)),none⟩,⟨some 4,.op (.alloc [.int .u64 0,.int .u64 0]),none⟩]) (.seq (.seq (.reg [2,4,5] [
 ⟨some 5,.op (.mv (.t 1)),none⟩]) (.cond (.t 5) (.seq (.reg [4] [
 ⟨some 6,.op (.ldn 2 (.t 2)),none⟩,⟨none,.op (.st 2 (.t 4) (.t 6)),none⟩]) (.ret)) (.skip))) (.seq (.reg [4] [
 ⟨some 7,.op (.fieldAddr 0 (.t 2)),none⟩,⟨some 8,.op (.ld1 (.t 7)),none⟩,⟨some 9,.op (.bin .rem (.t 8) (.c (.int .u64 16))),none⟩,⟨some 10,.op (.fieldAddr 1 (.t 2)),none⟩,⟨some 11,.op (.ld1 (.t 10)),none⟩,⟨some 12,.op (.bin .rem (.t 11) (.c (.int .u64 8))),none⟩,⟨some 13,.op (.build [.int .u64 0,.int .u64 0] [(0,1,(.t 9)),(1,1,(.t 12))]),none⟩,⟨none,.op (.st 2 (.t 4) (.t 13)),none⟩]) (.ret)))
theorem cf62 : compF Tryz.prog Tryz.f62 h62 = some (ac62,rs62) := by kernel_rfl
/-! mailcoach/mailcoachref03.Set params 2 -/
def h63 : Hints := ⟨[(11,[4]),(5,[0,1,5,6,7]),(9,[0,1,5,6,7]),(10,[0,1,5,6,7]),(8,[0,1,5,6,7,8,53]),(7,[0,1,5,6,7,8]),(6,[0,1,5,6,7,36]),(4,[0,1,5,6,7,19]),(3,[0,1,5,6,7]),(2,[0,1,5,6]),(1,[0,1,5]),(0,[0,1])],[(4,[0,1,5,6,7])],[(8,[(0,[]),(1,[]),(2,[]),(3,[]),(4,[]),(5,[]),(6,[]),(7,[]),(8,[]),(9,[]),(10,[]),(11,[]),(12,[]),(13,[]),(14,[])]),(10,[(0,[]),(1,[]),(2,[]),(3,[]),(4,[]),(5,[]),(6,[]),(7,[]),(8,[]),(9,[]),(10,[]),(11,[]),(12,[]),(13,[])])]⟩
def rs63 : List ARes := [.t 4]
def ac63 : ACode :=
 .seq (.reg [0,1] [
 ⟨some 4,.op (.mv (.c (.nilsl))),none⟩]) (.seq (.reg [0,1,5] [
 ⟨some 9,.op (.buildSl 2 [.int .u64 0,.int .u64 0] 0 []),none⟩,⟨some 10,.op (.mv (.t 0)),none⟩,⟨some 11,.op (.append 2 16 (.t 9) (.t 10)),none⟩,⟨some 12,.op (.mv (.t 1)),none⟩,⟨some 13,.op (.append 2 16 (.t 11) (.t 12)),none⟩,⟨some 14,.call (.c (.fn 83 [] [])) [(.t 13)],none⟩,⟨some 5,.op (.mv (.t 14)),none⟩]) (.seq (.reg [0,1,5,6] [
 ⟨some 6,.op (.mv (.c (.nilsl))),none⟩]) (.seq (.seq (.reg [0,1,5,6,7] [
 ⟨some 7,.op (.mv (.c (.int .i64 0))),none⟩]) (.block 0 (.loop [0,1,5,6,7] (.seq (.seq (.reg [0,1,5,6,7,19] [
 ⟨some 15,.op (.mv (.t 7)),none⟩,⟨some 16,.op (.bin .add (.t 15) (.c (.int .i64 1))),none⟩,⟨some 17,.op (.mv (.t 5)),none⟩,⟨some 18,.op (.len 1 (.t 17)),none⟩,⟨some 19,.op (.bin .lss (.t 16) (.t 18)),none⟩]) (.cond (.t 19) (.skip) (.exit 0))) (.seq (.block 1 (.seq (.seq (.reg [0,1,5,6,7,36] [
 ⟨some 22,.op (.mv (.t 0)),none⟩,⟨some 23,.op (.mv (.t 5)),none⟩,⟨some 24,.op (.mv (.t 7)),none⟩,⟨some 25,.op (.idxAddr 1 (.t 23) (.t 24)),none⟩,⟨some 26,.op (.ld1 (.t 25)),none⟩,⟨some 27,.call (.c (.fn 84 [] [])) [(.t 22),(.t 26)],none⟩,⟨some 28,.op (.un .not (.t 27)),none⟩,⟨some 29,.op (.mv (.t 28)),none⟩,⟨some 30,.op (.mv (.t 1)),some (29,false)⟩,⟨some 31,.op (.mv (.t 5)),some (29,false)⟩,⟨some 32,.op (.mv (.t 7)),some (29,false)⟩,⟨some 33,.op (.idxAddr 1 (.t 31) (.t 32)),some (29,false)⟩,⟨some 34,.op (.ld1 (.t 33)),some (29,false)⟩,⟨some 35,.call (.c (.fn 84 [] [])) [(.t 30),(.t 34)],some (29,false)⟩,⟨some 36,.pick (.t 29) (.c (.bool true)) (.t 35),none⟩]) (.cond (.t 36) (.exit 1) (.skip))) (.seq (.reg [0,1,5,6,7,8] [
 ⟨some 37,.op (.mv (.t 6)),none⟩,⟨some 38,.op (.len 1 (.t 37)),none⟩,⟨some 8,.op (.mv (.t 38)),none⟩]) (.seq (.dreg [0,1,5,6,7,8,53] [
 (⟨some 39,.op (.mv (.t 8)),none⟩,[]),(⟨some 40,.op (.bin .gtr (.t 39) (.c (.int .i64 0))),none⟩,[]),(⟨some 41,.op (.mv (.t 40)),none⟩,[]),(⟨some 42,.op (.mv (.t 6)),some (41,true)⟩,[]),(⟨some 43,.op (.mv (.t 8)),some (41,true)⟩,[]),(⟨some 44,.op (.bin .sub (.t 43) (.c (.int .i64 1))),some (41,true)⟩,[]),(⟨some 45,.op (.idxAddr 2 (.t 42) (.t 44)),some (41,true)⟩,[]),(⟨some 46,.op (.fieldAddr 1 (.t 45)),some (41,true)⟩,[]),(⟨some 47,.op (.ld1 (.t 46)),some (41,true)⟩,[]),(⟨some 48,.op (.mv (.t 5)),some (41,true)⟩,[]),(⟨some 49,.op (.mv (.t 7)),some (41,true)⟩,[]),(⟨some 50,.op (.idxAddr 1 (.t 48) (.t 49)),some (41,true)⟩,[]),(⟨some 51,.op (.ld1 (.t 50)),some (41,true)⟩,[]),(⟨some 52,.op (.bin .eql (.t 47) (.t 51)),some (41,true)⟩,[]),(⟨some 53,.pick (.t 41) (.t 52) (.c (.bool false)),none⟩,[])]) (.cond (.t 53) (.reg [0,1,5,6,7] [
 ⟨some 54,.op (.mv (.t 6)),none⟩,⟨some 55,.op (.mv (.t 8)),none⟩,⟨some 56,.op (.bin .sub (.t 55) (.c (.int .i64 1))),none⟩,⟨some 57,.op (.mv (.t 5)),none⟩,⟨some 58,.op (.mv (.t 7)),none⟩,⟨some 59,.op (.bin .add (.t 58) (.c (.int .i64 1))),none⟩,⟨some 60,.op (.idxAddr 1 (.t 57) (.t 59)),none⟩,⟨some 61,.op (.ld1 (.t 60)),none⟩,⟨some 62,.op (.idxAddr 2 (.t 54) (.t 56)),none⟩,⟨some 63,.op (.fieldAddr 1 (.t 62)),none⟩,⟨none,.op (.st 1 (.t 63) (.t 61)),none⟩]) (.dreg [0,1,5,6,7] [
 (⟨some 64,.op (.mv (.t 6)),none⟩,[]),(⟨some 65,.op (.mv (.t 5)),none⟩,[]),(⟨some 66,.op (.mv (.t 7)),none⟩,[]),(⟨some 67,.op (.idxAddr 1 (.t 65) (.t 66)),none⟩,[]),(⟨some 68,.op (.ld1 (.t 67)),none⟩,[]),(⟨some 69,.op (.mv (.t 5)),none⟩,[]),(⟨some 70,.op (.mv (.t 7)),none⟩,[]),(⟨some 71,.op (.bin .add (.t 70) (.c (.int .i64 1))),none⟩,[]),(⟨some 72,.op (.idxAddr 1 (.t 69) (.t 71)),none⟩,[]),(⟨some 73,.op (.ld1 (.t 72)),none⟩,[]),(⟨some 74,.op (.build [.int .u64 0,.int .u64 0] [(0,1,(.t 68)),(1,1,(.t 73))]),none⟩,[]),(⟨some 75,.op (.buildSl 2 [.int .u64 0,.int .u64 0] 1 [(0,(.t 74))]),none⟩,[]),(⟨some 76,.op (.append 2 16 (.t 64) (.t 75)),none⟩,[]),(⟨some 6,.op (.mv (.t 76)),none⟩,[])])))))) (.reg [0,1,5,6,7] [
 ⟨some 20,.op (.mv (.t 7)),none⟩,⟨some 21,.op (.bin .add (.t 20) (.c (.int .i64 1))),none⟩,⟨some 7,.op (.mv (.t 21)),none⟩])))))) (.seq (.reg [4] [
 ⟨some 77,.op (.mv (.t 6)),none⟩,⟨some 4,.op (.mv (.t 77)),none⟩]) (.ret)))))
theorem cf63 : compF Tryz.prog Tryz.f63 h63 = some (ac63,rs63) := by kernel_rfl
/-! mailcoach/pack.Read$1 params 1 -/
def h64 : Hints := ⟨[(4,[]),(7,[]),(6,[0,2]),(2,[]),(1,[3]),(5,[0,4,8,9]),(3,[0,4,6]),(0,[0,4])],[],[]⟩
def rs64 : List ARes := []
def ac64 : ACode :=
 .seq (.reg [0,4] [
 ⟨some 4,.op (.stuck),none⟩]) (.block 0 (.seq (.reg [0,4,6] [
 ⟨some 6,.op (.stuck),none⟩]) (.cond (.t 6) (.reg [] [
 ⟨some 1,.op (.mv (.t 4)),none⟩]) (.seq (.reg [0,4,8,9] [
 ⟨some 7,.op (.stuck),none⟩,⟨some 8,.op (.extract (.t 7) 1),none⟩,⟨some 9,.op (.extract (.t 7) 0),none⟩]) (.cond (.t 8) (.seq (.reg [0,2] [
 ⟨some 2,.op (.alloc [.int .i64 0]),none⟩,⟨none,.op (.st 1 (.t 2) (.t 9)),none⟩]) (.reg [] [
 ⟨some 10,.op (.fieldAddr 0 (.t 2)),none⟩,⟨some 11,.op (.ld1 (.t 10)),none⟩,⟨none,.op (.st 1 (.t 0) (.t 11)),none⟩])) (.seq (.reg [3] [
 ⟨some 3,.op (.mv (.t 4)),none⟩]) (.reg [] [
 ⟨some 5,.op (.mv (.t 3)),none⟩,⟨none,.panic (.t 5),none⟩])))))))
theorem cf64 : compF Tryz.prog Tryz.f64 h64 = some (ac64,rs64) := by kernel_rfl
/-! (*mailcoach/pack.Reader).number params 2 -/
def h65 : Hints := ⟨[(7,[4]),(6,[5,10,11,12]),(5,[5,10,11,12]),(4,[5,7,10,11,12]),(3,[5,10,11,12,13]),(2,[5,10,11,12]),(1,[0,1,5]),(0,[0,1])],[(3,[5,10,11,12])],[]⟩
def rs65 : List ARes := [.t 4]
def ac65 : ACode :=
 .seq (.reg [0,1] [
 ⟨some 4,.op (.mv (.c (.int .u64 0))),none⟩]) (.seq (.reg [0,1,5] [
 ⟨some 5,.op (.mv (.c (.int .u64 0))),none⟩]) (.seq (.seq (.reg [5,10,11,12] [
 ⟨some 8,.op (.mv (.t 0)),none⟩,⟨some 9,.op (.mv (.t 1)),none⟩,⟨some 10,.call (.c (.fn 80 [] [])) [(.t 8),(.t 9)],none⟩,⟨some 11,.op (.len 1 (.t 10)),none⟩,⟨some 12,.op (.mv (.c (.int .i64 0))),none⟩]) (.block 0 (.loop [5,10,11,12] (.seq (.reg [5,10,11,12,13] [
 ⟨some 13,.op (.bin .lss (.t 12) (.t 11)),none⟩]) (.seq (.cond (.t 13) (.skip) (.exit 0)) (.seq (.block 1 (.seq (.reg [5,7,10,11,12] [
 ⟨some 14,.op (.idxAddr 1 (.t 10) (.t 12)),none⟩,⟨some 15,.op (.ld1 (.t 14)),none⟩,⟨some 7,.op (.mv (.t 15)),none⟩]) (.reg [5,10,11,12] [
 ⟨some 16,.op (.mv (.t 5)),none⟩,⟨some 17,.op (.bin .shl (.t 16) (.c (.int .u64 8))),none⟩,⟨some 18,.op (.mv (.t 7)),none⟩,⟨some 19,.op (.toInt .u64 (.t 18)),none⟩,⟨some 20,.op (.bin .or (.t 17) (.t 19)),none⟩,⟨some 5,.op (.mv (.t 20)),none⟩]))) (.reg [5,10,11,12] [
 ⟨some 21,.op (.bin .add (.t 12) (.c (.int .i64 1))),none⟩,⟨some 12,.op (.mv (.t 21)),none⟩]))))))) (.seq (.reg [4] [
 ⟨some 22,.op (.mv (.t 5)),none⟩,⟨some 4,.op (.mv (.t 22)),none⟩]) (.ret))))
theorem cf65 : compF Tryz.prog Tryz.f65 h65 = some (ac65,rs65) := by kernel_rfl
/-! unicode/utf8.Valid params 1 -/
def h66 : Hints := ⟨[(29,[2]),(20,[0]),(19,[2]),(18,[0,103]),(24,[0]),(23,[2]),(22,[0,138]),(28,[0]),(27,[2]),(26,[0,185]),(16,[2]),(25,[0,6,141]),(21,[0,6,82,106]),(17,[0,6,82,83]),(15,[0,6,82]),(14,[0,5,6]),(13,[0,4,5]),(12,[0,4]),(11,[0]),(10,[0,69]),(9,[0]),(8,[0,46]),(7,[0]),(6,[0,31]),(5,[0]),(4,[0,3,20]),(3,[0,3]),(2,[0,15]),(1,[0]),(0,[0])],[(10,[0]),(2,[0])],[(8,[(0,[]),(1,[]),(2,[]),(3,[]),(4,[]),(6,[]),(7,[]),(5,[6]),(8,[]),(9,[]),(10,[]),(11,[]),(12,[])]),(10,[(0,[]),(1,[]),(2,[]),(3,[]),(4,[]),(6,[]),(7,[]),(10,[]),(11,[]),(13,[]),(14,[]),(5,[6,8,10]),(8,[8,10]),(9,[]),(12,[10]),(15,[]),(16,[]),(17,[]),(18,[]),(19,[]),(20,[])]),(18,[(0,[]),(1,[]),(2,[]),(3,[]),(4,[]),(5,[]),(6,[]),(7,[]),(8,[]),(9,[]),(10,[]),(11,[]),(12,[]),(13,[]),(14,[]),(15,[]),(16,[]),(17,[]),(18,[])]),(22,[(0,[]),(1,[]),(2,[]),(3,[]),(4,[]),(5,[]),(6,[]),(7,[]),(8,[]),(9,[]),(10,[]),(11,[]),(12,[]),(13,[]),(14,[]),(15,[]),(16,[]),(17,[]),(18,[]),(19,[]),(20,[]),(21,[]),(22,[]),(23,[]),(24,[]),(25,[]),(26,[]),(27,[]),(28,[]),(29,[]),(30,[])]),(26,[(0,[]),(1,[]),(2,[]),(3,[]),(4,[]),(5,[]),(6,[]),(7,[]),(8,[]),(9,[]),(10,[]),(11,[]),(12,[]),(13,[]),(14,[]),(15,[]),(16,[]),(17,[]),(18,[]),(19,[]),(20,[]),(21,[]),(22,[]),(23,[]),(24,[]),(25,[]),(26,[]),(27,[]),(28,[]),(29,[]),(30,[]),(31,[]),(32,[]),(33,[]),(34,[]),(35,[]),(36,[]),(37,[]),(38,[]),(39,[]),(40,[]),(41,[]),(42,[])])]⟩
def rs66 : List ARes := [.t 2]
def ac66 : ACode :=
 .seq (.reg [0] [
 ⟨some 2,.op (.mv (.c (.bool false))),none⟩]) (.seq (.reg [0] [
 ⟨some 7,.op (.mv (.t 0)),none⟩,⟨some 8,.op (.mv (.t 0)),none⟩,⟨some 9,.op (.len 1 (.t 8)),none⟩,⟨some 10,.op (.mv (.t 0)),none⟩,⟨some 11,.op (.len 1 (.t 10)),none⟩,⟨some 12,.op (.slice 1 (.t 7) none (some (.t 9)) (some (.t 11))),none⟩,⟨some 0,.op (.mv (.t 12)),none⟩]) (.seq (.block 0 (.loop [0] (.seq (.seq (.reg [0,15] [
 ⟨some 13,.op (.mv (.t 0)),none⟩,⟨some 14,.op (.len 1 (.t 13)),none⟩,⟨some 15,.op (.bin .gtr (.t 14) (.c (.int .i64 0))),none⟩]) (.cond (.t 15) (.skip) (.exit 0))) (.block 1 (.seq (.reg [0,3] [
 ⟨some 16,.op (.mv (.t 0)),none⟩,⟨some 17,.op (.idxAddr 1 (.t 16) (.c (.int .i64 0))),none⟩,⟨some 18,.op (.ld1 (.t 17)),none⟩,⟨some 3,.op (.mv (.t 18)),none⟩]) (.seq (.seq (.reg [0,3,20] [
 ⟨some 19,.op (.mv (.t 3)),none⟩,⟨some 20,.op (.bin .lss (.t 19) (.c (.int .u8 128))),none⟩]) (.cond (.t 20) (.seq (.reg [0] [
 ⟨some 21,.op (.mv (.t 0)),none⟩,⟨some 22,.op (.slice 1 (.t 21) (some (.c (.int .i64 1))) none none),none⟩,⟨some 0,.op (.mv (.t 22)),none⟩]) (.seq (.seq (.reg [0,31] [
 ⟨some 23,.op (.mv (.t 0)),none⟩,⟨some 24,.op (.len 1 (.t 23)),none⟩,⟨some 25,.op (.bin .gtr (.t 24) (.c (.int .i64 8))),none⟩,⟨some 26,.op (.mv (.t 25)),none⟩,⟨some 27,.op (.mv (.t 0)),some (26,true)⟩,⟨some 28,.call (.c (.fn 85 [] [])) [(.t 27)],some (26,true)⟩,⟨some 29,.op (.bin .and (.t 28) (.c (.int .u64 9259542123273814144))),some (26,true)⟩,⟨some 30,.op (.bin .eql (.t 29) (.c (.int .u64 0))),some (26,true)⟩,⟨some 31,.pick (.t 26) (.t 30) (.c (.bool false)),none⟩]) (.cond (.t 31) (.seq (.reg [0] [
 ⟨some 32,.op (.mv (.t 0)),none⟩,⟨some 33,.op (.slice 1 (.t 32) (some (.c (.int .i64 8))) none none),none⟩,⟨some 0,.op (.mv (.t 33)),none⟩]) (.seq (.dreg [0,46] [
 (⟨some 34,.op (.mv (.t 0)),none⟩,[]),(⟨some 35,.op (.len 1 (.t 34)),none⟩,[]),(⟨some 36,.op (.bin .gtr (.t 35) (.c (.int .i64 16))),none⟩,[]),(⟨some 37,.op (.mv (.t 36)),none⟩,[]),(⟨some 38,.op (.mv (.t 0)),some (37,true)⟩,[]),(⟨some 40,.op (.mv (.t 0)),some (37,true)⟩,[]),(⟨some 41,.op (.slice 1 (.t 40) (some (.c (.int .i64 8))) none none),some (37,true)⟩,[]),(⟨some 39,.call (.c (.fn 85 [] [])) [(.t 38)],some (37,true)⟩,[6]),(⟨some 42,.call (.c (.fn 85 [] [])) [(.t 41)],some (37,true)⟩,[]),(⟨some 43,.op (.bin .or (.t 39) (.t 42)),some (37,true)⟩,[]),(⟨some 44,.op (.bin .and (.t 43) (.c (.int .u64 9259542123273814144))),some (37,true)⟩,[]),(⟨some 45,.op (.bin .eql (.t 44) (.c (.int .u64 0))),some (37,true)⟩,[]),(⟨some 46,.pick (.t 37) (.t 45) (.c (.bool false)),none⟩,[])]) (.cond (.t 46) (.seq (.reg [0] [
 ⟨some 47,.op (.mv (.t 0)),none⟩,⟨some 48,.op (.slice 1 (.t 47) (some (.c (.int .i64 16))) none none),none⟩,⟨some 0,.op (.mv (.t 48)),none⟩]) (.block 2 (.loop [0] (.seq (.seq (.dreg [0,69] [
 (⟨some 49,.op (.mv (.t 0)),none⟩,[]),(⟨some 50,.op (.len 1 (.t 49)),none⟩,[]),(⟨some 51,.op (.bin .gtr (.t 50) (.c (.int .i64 32))),none⟩,[]),(⟨some 52,.op (.mv (.t 51)),none⟩,[]),(⟨some 53,.op (.mv (.t 0)),some (52,true)⟩,[]),(⟨some 55,.op (.mv (.t 0)),some (52,true)⟩,[]),(⟨some 56,.op (.slice 1 (.t 55) (some (.c (.int .i64 8))) none none),some (52,true)⟩,[]),(⟨some 59,.op (.mv (.t 0)),some (52,true)⟩,[]),(⟨some 60,.op (.slice 1 (.t 59) (some (.c (.int .i64 16))) none none),some (52,true)⟩,[]),(⟨some 62,.op (.mv (.t 0)),some (52,true)⟩,[]),(⟨some 63,.op (.slice 1 (.t 62) (some (.c (.int .i64 24))) none none),some (52,true)⟩,[]),(⟨some 54,.call (.c (.fn 85 [] [])) [(.t 53)],some (52,true)⟩,[6,8,10]),(⟨some 57,.call (.c (.fn 85 [] [])) [(.t 56)],some (52,true)⟩,[8,10]),(⟨some 58,.op (.bin .or (.t 54) (.t 57)),some (52,true)⟩,[]),(⟨some 61,.call (.c (.fn 85 [] [])) [(.t 60)],some (52,true)⟩,[10]),(⟨some 64,.call (.c (.fn 85 [] [])) [(.t 63)],some (52,true)⟩,[]),(⟨some 65,.op (.bin .or (.t 61) (.t 64)),some (52,true)⟩,[]),(⟨some 66,.op (.bin .or (.t 58) (.t 65)),some (52,true)⟩,[]),(⟨some 67,.op (.bin .and (.t 66) (.c (.int .u64 9259542123273814144))),some (52,true)⟩,[]),(⟨some 68,.op (.bin .eql (.t 67) (.c (.int .u64 0))),some (52,true)⟩,[]),(⟨some 69,.pick (.t 52) (.t 68) (.c (.bool false)),none⟩,[])]) (.cond (.t 69) (.skip) (.exit 2))) (.block 3 (.reg [0] [
 ⟨some 70,.op (.mv (.t 0)),none⟩,⟨some 71,.op (.slice 1 (.t 70) (some (.c (.int .i64 32))) none none),none⟩,⟨some 0,.op (.mv (.t 71)),none⟩])))))) (.skip)))) (.skip))) (.exit 1))) (.skip))) (.seq (.reg [0,4] [
 ⟨some 72,.op (.mv (.t 3)),none⟩,⟨some 73,.op (.idxArr 256 1 (.c (.iptr (gl 0))) (.t 72)),none⟩,⟨some 74,.op (.ld1 (.t 73)),none⟩,⟨some 4,.op (.mv (.t 74)),none⟩]) (.seq (.reg [0,4,5] [
 ⟨some 75,.op (.mv (.t 4)),none⟩,⟨some 76,.op (.bin .and (.t 75) (.c (.int .u8 7))),none⟩,⟨some 77,.op (.toInt .i64 (.t 76)),none⟩,⟨some 5,.op (.mv (.t 77)),none⟩]) (.seq (.reg [0,5,6] [
 ⟨some 78,.op (.mv (.t 4)),none⟩,⟨some 79,.op (.bin .shr (.t 78) (.c (.int .u64 4))),none⟩,⟨some 80,.op (.idxArr 16 2 (.c (.iptr (gl 1))) (.t 79)),none⟩,⟨some 81,.op (.ldn 2 (.t 80)),none⟩,⟨some 6,.op (.alloc [.int .u8 0,.int .u8 0]),none⟩,⟨none,.op (.st 2 (.t 6) (.t 81)),none⟩]) (.seq (.reg [0,6,82] [
 ⟨some 82,.op (.mv (.t 5)),none⟩]) (.block 4 (.seq (.reg [0,6,82,83] [
 ⟨some 84,.op (.bin .eql (.t 82) (.c (.int .i64 2))),none⟩,⟨some 83,.op (.mv (.t 84)),none⟩]) (.cond (.t 83) (.seq (.seq (.dreg [0,103] [
 (⟨some 85,.op (.mv (.t 0)),none⟩,[]),(⟨some 86,.op (.len 1 (.t 85)),none⟩,[]),(⟨some 87,.op (.bin .lss (.t 86) (.c (.int .i64 2))),none⟩,[]),(⟨some 88,.op (.mv (.t 87)),none⟩,[]),(⟨some 89,.op (.mv (.t 0)),some (88,false)⟩,[]),(⟨some 90,.op (.idxAddr 1 (.t 89) (.c (.int .i64 1))),some (88,false)⟩,[]),(⟨some 91,.op (.ld1 (.t 90)),some (88,false)⟩,[]),(⟨some 92,.op (.fieldAddr 0 (.t 6)),some (88,false)⟩,[]),(⟨some 93,.op (.ld1 (.t 92)),some (88,false)⟩,[]),(⟨some 94,.op (.bin .lss (.t 91) (.t 93)),some (88,false)⟩,[]),(⟨some 95,.pick (.t 88) (.c (.bool true)) (.t 94),none⟩,[]),(⟨some 96,.op (.mv (.t 95)),none⟩,[]),(⟨some 97,.op (.fieldAddr 1 (.t 6)),some (96,false)⟩,[]),(⟨some 98,.op (.ld1 (.t 97)),some (96,false)⟩,[]),(⟨some 99,.op (.mv (.t 0)),some (96,false)⟩,[]),(⟨some 100,.op (.idxAddr 1 (.t 99) (.c (.int .i64 1))),some (96,false)⟩,[]),(⟨some 101,.op (.ld1 (.t 100)),some (96,false)⟩,[]),(⟨some 102,.op (.bin .lss (.t 98) (.t 101)),some (96,false)⟩,[]),(⟨some 103,.pick (.t 96) (.c (.bool true)) (.t 102),none⟩,[])]) (.cond (.t 103) (.seq (.reg [2] [
 ⟨some 2,.op (.mv (.c (.bool false))),none⟩]) (.ret)) (.skip))) (.reg [0] [
 ⟨some 104,.op (.mv (.t 0)),none⟩,⟨some 105,.op (.slice 1 (.t 104) (some (.c (.int .i64 2))) none none),none⟩,⟨some 0,.op (.mv (.t 105)),none⟩])) (.seq (.reg [0,6,82,106] [
 ⟨some 107,.op (.bin .eql (.t 82) (.c (.int .i64 3))),none⟩,⟨some 106,.op (.mv (.t 107)),none⟩]) (.cond (.t 106) (.seq (.seq (.dreg [0,138] [
 (⟨some 108,.op (.mv (.t 0)),none⟩,[]),(⟨some 109,.op (.len 1 (.t 108)),none⟩,[]),(⟨some 110,.op (.bin .lss (.t 109) (.c (.int .i64 3))),none⟩,[]),(⟨some 111,.op (.mv (.t 110)),none⟩,[]),(⟨some 112,.op (.mv (.t 0)),some (111,false)⟩,[]),(⟨some 113,.op (.idxAddr 1 (.t 112) (.c (.int .i64 1))),some (111,false)⟩,[]),(⟨some 114,.op (.ld1 (.t 113)),some (111,false)⟩,[]),(⟨some 115,.op (.fieldAddr 0 (.t 6)),some (111,false)⟩,[]),(⟨some 116,.op (.ld1 (.t 115)),some (111,false)⟩,[]),(⟨some 117,.op (.bin .lss (.t 114) (.t 116)),some (111,false)⟩,[]),(⟨some 118,.pick (.t 111) (.c (.bool true)) (.t 117),none⟩,[]),(⟨some 119,.op (.mv (.t 118)),none⟩,[]),(⟨some 120,.op (.fieldAddr 1 (.t 6)),some (119,false)⟩,[]),(⟨some 121,.op (.ld1 (.t 120)),some (119,false)⟩,[]),(⟨some 122,.op (.mv (.t 0)),some (119,false)⟩,[]),(⟨some 123,.op (.idxAddr 1 (.t 122) (.c (.int .i64 1))),some (119,false)⟩,[]),(⟨some 124,.op (.ld1 (.t 123)),some (119,false)⟩,[]),(⟨some 125,.op (.bin .lss (.t 121) (.t 124)),some (119,false)⟩,[]),(⟨some 126,.pick (.t 119) (.c (.bool true)) (.t 125),none⟩,[]),(⟨some 127,.op (.mv (.t 126)),none⟩,[]),(⟨some 128,.op (.mv (.t 0)),some (127,false)⟩,[]),(⟨some 129,.op (.idxAddr 1 (.t 128) (.c (.int .i64 2))),some (127,false)⟩,[]),(⟨some 130,.op (.ld1 (.t 129)),some (127,false)⟩,[]),(⟨some 131,.op (.bin .lss (.t 130) (.c (.int .u8 128))),some (127,false)⟩,[]),(⟨some 132,.pick (.t 127) (.c (.bool true)) (.t 131),none⟩,[]),(⟨some 133,.op (.mv (.t 132)),none⟩,[]),(⟨some 134,.op (.mv (.t 0)),some (133,false)⟩,[]),(⟨some 135,.op (.idxAddr 1 (.t 134) (.c (.int .i64 2))),some (133,false)⟩,[]),(⟨some 136,.op (.ld1 (.t 135)),some (133,false)⟩,[]),(⟨some 137,.op (.bin .lss (.c (.int .u8 191)) (.t 136)),some (133,false)⟩,[]),(⟨some 138,.pick (.t 133) (.c (.bool true)) (.t 137),none⟩,[])]) (.cond (.t 138) (.seq (.reg [2] [
 ⟨some 2,.op (.mv (.c (.bool false))),none⟩]) (.ret)) (.skip))) (.reg [0] [
 ⟨some 139,.op (.mv (.t 0)),none⟩,⟨some 140,.op (.slice 1 (.t 139) (some (.c (.int .i64 3))) none none),none⟩,⟨some 0,.op (.mv (.t 140)),none⟩])) (.seq (.reg [0,6,141] [
 ⟨some 142,.op (.bin .eql (.t 82) (.c (.int .i64 4))),none⟩,⟨some 141,.op (.mv (.t 142)),none⟩]) (.cond (.t 141) (.seq (.seq (.dreg [0,185] [
 (⟨some 143,.op (.mv (.t 0)),none⟩,[]),(⟨some 144,.op (.len 1 (.t 143)),none⟩,[]),(⟨some 145,.op (.bin .lss (.t 144) (.c (.int .i64 4))),none⟩,[]),(⟨some 146,.op (.mv (.t 145)),none⟩,[]),(⟨some 147,.op (.mv (.t 0)),some (146,false)⟩,[]),(⟨some 148,.op (.idxAddr 1 (.t 147) (.c (.int .i64 1))),some (146,false)⟩,[]),(⟨some 149,.op (.ld1 (.t 148)),some (146,false)⟩,[]),(⟨some 150,.op (.fieldAddr 0 (.t 6)),some (146,false)⟩,[]),(⟨some 151,.op (.ld1 (.t 150)),some (146,false)⟩,[]),(⟨some 152,.op (.bin .lss (.t 149) (.t 151)),some (146,false)⟩,[]),(⟨some 153,.pick (.t 146) (.c (.bool true)) (.t 152),none⟩,[]),(⟨some 154,.op (.mv (.t 153)),none⟩,[]),(⟨some 155,.op (.fieldAddr 1 (.t 6)),some (154,false)⟩,[]),(⟨some 156,.op (.ld1 (.t 155)),some (154,false)⟩,[]),(⟨some 157,.op (.mv (.t 0)),some (154,false)⟩,[]),(⟨some 158,.op (.idxAddr 1 (.t 157) (.c (.int .i64 1))),some (154,false)⟩,[]),(⟨some 159,.op (.ld1 (.t 158)),some (154,false)⟩,[]),(⟨some 160,.op (.bin .lss (.t 156) (.t 159)),some (154,false)⟩,[]),(⟨some 161,.pick (.t 154) (.c (.bool true)) (.t 160),none⟩,[]),(⟨some 162,.op (.mv (.t 161)),none⟩,[]),(⟨some 163,.op (.mv (.t 0)),some (162,false)⟩,[]),(⟨some 164,.op (.idxAddr 1 (.t 163) (.c (.int .i64 2))),some (162,false)⟩,[]),(⟨some 165,.op (.ld1 (.t 164)),some (162,false)⟩,[]),(⟨some 166,.op (.bin .lss (.t 165) (.c (.int .u8 128))),some (162,false)⟩,[]),(⟨some 167,.pick (.t 162) (.c (.bool true)) (.t 166),none⟩,[]),(⟨some 168,.op (.mv (.t 167)),none⟩,[]),(⟨some 169,.op (.mv (.t 0)),some (168,false)⟩,[]),(⟨some 170,.op (.idxAddr 1 (.t 169) (.c (.int .i64 2))),some (168,false)⟩,[]),(⟨some 171,.op (.ld1 (.t 170)),some (168,false)⟩,[]),(⟨some 172,.op (.bin .lss (.c (.int .u8 191)) (.t 171)),some (168,false)⟩,[]),(⟨some 173,.pick (.t 168) (.c (.bool true)) (.t 172),none⟩,[]),(⟨some 174,.op (.mv (.t 173)),none⟩,[]),(⟨some 175,.op (.mv (.t 0)),some (174,false)⟩,[]),(⟨some 176,.op (.idxAddr 1 (.t 175) (.c (.int .i64 3))),some (174,false)⟩,[]),(⟨some 177,.op (.ld1 (.t 176)),some (174,false)⟩,[]),(⟨some 178,.op (.bin .lss (.t 177) (.c (.int .u8 128))),some (174,false)⟩,[]),(⟨some 179,.pick (.t 174) (.c (.bool true)) (.t 178),none⟩,[]),(⟨some 180,.op (.mv (.t 179)),none⟩,[]),(⟨some 181,.op (.mv (.t 0)),some (180,false)⟩,[]),(⟨some 182,.op (.idxAddr 1 (.t 181) (.c (.int .i64 3))),some (180,false)⟩,[]),(⟨some 183,.op (.ld1 (.t 182)),some (180,false)⟩,[]),(⟨some 184,.op (.bin .lss (.c (.int .u8 191)) (.t 183)),some (180,false)⟩,[]),(⟨some 185,.pick (.t 180) (.c (.bool true)) (.t 184),none⟩,[])]) (.cond (.t 185) (.seq (.reg [2] [
 ⟨some 2,.op (.mv (.c (.bool false))),none⟩]) (.ret)) (.skip))) (.reg [0] [
 ⟨some 186,.op (.mv (.t 0)),none⟩,⟨some 187,.op (.slice 1 (.t 186) (some (.c (.int .i64 4))) none none),none⟩,⟨some 0,.op (.mv (.t 187)),none⟩])) (.seq (.reg [2] [
 ⟨some 2,.op (.mv (.c (.bool false))),none⟩]) (.ret))))))))))))))))))) (.seq (.reg [2] [
 ⟨some 2,.op (.mv (.c (.bool true))),none⟩]) (.ret))))
theorem cf66 : compF Tryz.prog Tryz.f66 h66 = some (ac66,rs66) := by kernel_rfl
/-! mailcoach/cursor.Check params 1 -/
def h67 : Hints := ⟨[(7,[2]),(6,[1,6,7,8]),(5,[2]),(4,[1,6,7,8,52]),(3,[1,3,4,6,7,8]),(2,[1,6,7,8,9]),(1,[1,6,7,8]),(0,[1])],[(2,[1,6,7,8])],[(4,[(0,[]),(1,[]),(2,[]),(3,[]),(4,[]),(5,[]),(6,[]),(7,[]),(8,[]),(9,[]),(10,[]),(11,[]),(12,[]),(13,[]),(14,[]),(15,[]),(16,[]),(17,[]),(18,[]),(19,[]),(20,[]),(21,[]),(22,[]),(23,[]),(24,[]),(25,[]),(26,[]),(27,[]),(28,[]),(29,[]),(30,[]),(31,[]),(32,[]),(33,[]),(34,[]),(35,[]),(36,[]),(37,[]),(38,[]),(39,[])])]⟩
def rs67 : List ARes := [.t 2]
def ac67 : ACode :=
 .seq (.reg [1] [
 ⟨some 1,.op (.box (.t 0)),none⟩,⟨some 2,.op (.mv (.c (.bool false))),none⟩]) (.seq (.seq (.reg [1,6,7,8] [
 ⟨some 5,.op (.fieldAddr 2 (.t 1)),none⟩,⟨some 6,.op (.ld1 (.t 5)),none⟩,⟨some 7,.op (.len 1 (.t 6)),none⟩,⟨some 8,.op (.mv (.c (.int .i64 0))),none⟩]) (.block 0 (.loop [1,6,7,8] (.seq (.reg [1,6,7,8,9] [
 ⟨some 9,.op (.bin .lss (.t 8) (.t 7)),none⟩]) (.seq (.cond (.t 9) (.skip) (.exit 0)) (.seq (.block 1 (.seq (.reg [1,3,4,6,7,8] [
 ⟨some 10,.op (.mv (.t 8)),none⟩,⟨some 11,.op (.idxAddr 2 (.t 6) (.t 8)),none⟩,⟨some 12,.op (.ldn 2 (.t 11)),none⟩,⟨some 4,.op (.alloc [.int .u64 0,.nilsl]),none⟩,⟨some 3,.op (.mv (.t 10)),none⟩,⟨none,.op (.st 2 (.t 4) (.t 12)),none⟩]) (.seq (.dreg [1,6,7,8,52] [
 (⟨some 13,.op (.fieldAddr 1 (.t 4)),none⟩,[]),(⟨some 14,.op (.ld1 (.t 13)),none⟩,[]),(⟨some 15,.op (.len 1 (.t 14)),none⟩,[]),(⟨some 16,.op (.bin .eql (.t 15) (.c (.int .i64 0))),none⟩,[]),(⟨some 17,.op (.mv (.t 16)),none⟩,[]),(⟨some 18,.op (.fieldAddr 1 (.t 4)),some (17,false)⟩,[]),(⟨some 19,.op (.ld1 (.t 18)),some (17,false)⟩,[]),(⟨some 20,.call (.c (.fn 86 [] [])) [(.t 19)],some (17,false)⟩,[]),(⟨some 21,.op (.un .not (.t 20)),some (17,false)⟩,[]),(⟨some 22,.pick (.t 17) (.c (.bool true)) (.t 21),none⟩,[]),(⟨some 23,.op (.mv (.t 22)),none⟩,[]),(⟨some 24,.op (.mv (.t 3)),some (23,false)⟩,[]),(⟨some 25,.op (.bin .gtr (.t 24) (.c (.int .i64 0))),some (23,false)⟩,[]),(⟨some 26,.op (.mv (.t 25)),some (23,false)⟩,[]),(⟨some 27,.op (.fieldAddr 2 (.t 1)),some (26,true)⟩,[]),(⟨some 28,.op (.ld1 (.t 27)),some (26,true)⟩,[]),(⟨some 29,.op (.mv (.t 3)),some (26,true)⟩,[]),(⟨some 30,.op (.bin .sub (.t 29) (.c (.int .i64 1))),some (26,true)⟩,[]),(⟨some 31,.op (.idxAddr 2 (.t 28) (.t 30)),some (26,true)⟩,[]),(⟨some 32,.op (.fieldAddr 0 (.t 31)),some (26,true)⟩,[]),(⟨some 33,.op (.ld1 (.t 32)),some (26,true)⟩,[]),(⟨some 34,.op (.fieldAddr 0 (.t 4)),some (26,true)⟩,[]),(⟨some 35,.op (.ld1 (.t 34)),some (26,true)⟩,[]),(⟨some 36,.op (.bin .geq (.t 33) (.t 35)),some (26,true)⟩,[]),(⟨some 37,.pick (.t 26) (.t 36) (.c (.bool false)),some (23,false)⟩,[]),(⟨some 38,.pick (.t 23) (.c (.bool true)) (.t 37),none⟩,[]),(⟨some 39,.op (.mv (.t 38)),none⟩,[]),(⟨some 40,.op (.fieldAddr 0 (.t 4)),some (39,false)⟩,[]),(⟨some 41,.op (.ld1 (.t 40)),some (39,false)⟩,[]),(⟨some 42,.op (.fieldAddr 1 (.t 4)),some (39,false)⟩,[]),(⟨some 43,.op (.ld1 (.t 42)),some (39,false)⟩,[]),(⟨some 44,.op (.idxAddr 2 (.t 43) (.c (.int .i64 0))),some (39,false)⟩,[]),(⟨some 45,.op (.fieldAddr 0 (.t 44)),some (39,false)⟩,[]),(⟨some 46,.op (.ld1 (.t 45)),some (39,false)⟩,[]),(⟨some 47,.op (.build [.int .u64 0,.int .u64 0] [(0,1,(.t 41)),(1,1,(.t 46))]),some (39,false)⟩,[]),(⟨some 48,.op (.fieldAddr 0 (.t 1)),some (39,false)⟩,[]),(⟨some 49,.op (.ldn 2 (.t 48)),some (39,false)⟩,[]),(⟨some 50,.call (.c (.fn 87 [] [])) [(.t 47),(.t 49)],some (39,false)⟩,[]),(⟨some 51,.op (.bin .lss (.t 50) (.c (.int .i64 0))),some (39,false)⟩,[]),(⟨some 52,.pick (.t 39) (.c (.bool true)) (.t 51),none⟩,[])]) (.cond (.t 52) (.seq (.reg [2] [
 ⟨some 2,.op (.mv (.c (.bool false))),none⟩]) (.ret)) (.skip))))) (.reg [1,6,7,8] [
 ⟨some 53,.op (.bin .add (.t 8) (.c (.int .i64 1))),none⟩,⟨some 8,.op (.mv (.t 53)),none⟩]))))))) (.seq (.reg [2] [
 ⟨some 2,.op (.mv (.c (.bool true))),none⟩]) (.ret)))
theorem cf67 : compF Tryz.prog Tryz.f67 h67 = some (ac67,rs67) := by kernel_rfl
/-! mailcoach/dedup.New params 0 -/
def h68 : Hints := ⟨[(1,[0]),(0,[])],[],[]⟩
def rs68 : List ARes := [.t 0]
def ac68 : ACode :=
 .seq (.reg [] [
 ⟨some 0,.op (.mv (.c (.nilp))),none⟩]) (.seq (.reg [0] [
 ⟨some 1,.op (.mkmap),none⟩,⟨some 2,.op (.build [.nilmap] [(0,1,(.t 1))]),none⟩,⟨some 3,.op (.box (.t 2)),none⟩,⟨some 0,.op (.mv (.t 3)),none⟩]) (.ret))
theorem cf68 : compF Tryz.prog Tryz.f68 h68 = some (ac68,rs68) := by kernel_rfl
/-! slices.SortedFunc[mailcoach/api.Line] params 2 -/
def h69 : Hints := ⟨[(3,[4]),(2,[5]),(1,[1,5]),(0,[0,1])],[],[]⟩
def rs69 : List ARes := [.t 4]
def ac69 : ACode :=
 .seq (.reg [0,1] [
 ⟨some 4,.op (.mv (.c (.nilsl))),none⟩]) (.seq (.reg [1,5] [
 ⟨some 6,.op (.mv (.t 0)),none⟩,⟨some 7,.call (.c (.fn 88 [] [])) [(.t 6)],none⟩,⟨some 5,.op (.mv (.t 7)),none⟩]) (.seq (.reg [5] [
 ⟨some 8,.op (.mv (.t 5)),none⟩,⟨some 9,.op (.mv (.t 1)),none⟩,⟨some 10,.call (.c (.fn 89 [] [])) [(.t 8),(.t 9)],none⟩]) (.seq (.reg [4] [
 ⟨some 11,.op (.mv (.t 5)),none⟩,⟨some 4,.op (.mv (.t 11)),none⟩]) (.ret))))
theorem cf69 : compF Tryz.prog Tryz.f69 h69 = some (ac69,rs69) := by kernel_rfl
/-! maps.Values[map[string]mailcoach/api.Line,string,mailcoach/api.Line] params 1 -/
def h70 : Hints := ⟨[(1,[2]),(0,[1])],[],[]⟩
def rs70 : List ARes := [.t 2]
def ac70 : ACode :=
 .seq (.reg [1] [
 ⟨some 1,.op (.box (.t 0)),none⟩,⟨some 2,.op (.mv (.c (.nilfn))),none⟩]) (.seq (.reg [2] [
 ⟨some 3,.op (.mkfn 90 [] [(.t 1)]),none⟩,⟨some 2,.op (.mv (.t 3)),none⟩]) (.ret))
theorem cf70 : compF Tryz.prog Tryz.f70 h70 = some (ac70,rs70) := by kernel_rfl
/-! (*mailcoach/dedup.Table).All$1 params 2 -/
def h71 : Hints := ⟨[(1,[4]),(0,[2,3])],[],[]⟩
def rs71 : List ARes := [.t 4]
def ac71 : ACode :=
 .seq (.reg [2,3] [
 ⟨some 2,.op (.box (.t 0)),none⟩,⟨some 3,.op (.box (.t 1)),none⟩,⟨some 4,.op (.mv (.c (.int .i64 0))),none⟩]) (.seq (.reg [4] [
 ⟨some 5,.op (.fieldAddr 0 (.t 2)),none⟩,⟨some 6,.op (.ld1 (.t 5)),none⟩,⟨some 7,.op (.fieldAddr 0 (.t 3)),none⟩,⟨some 8,.op (.ld1 (.t 7)),none⟩,⟨some 9,.call (.c (.fn 72 [] [])) [(.t 6),(.t 8)],none⟩,⟨some 4,.op (.mv (.t 9)),none⟩]) (.ret))
theorem cf71 : compF Tryz.prog Tryz.f71 h71 = some (ac71,rs71) := by kernel_rfl
/-! cmp.Compare[string] params 2 -/
def h72 : Hints := ⟨[(13,[4]),(12,[4]),(11,[19]),(10,[4]),(9,[0,1,16]),(8,[4]),(7,[0,1,13]),(6,[4]),(5,[4]),(4,[12]),(3,[0,1,6,11]),(2,[0,1,5,6]),(1,[0,1,5]),(0,[0,1])],[],[]⟩
def rs72 : List ARes := [.t 4]
def ac72 : ACode :=
 .seq (.reg [0,1] [
 ⟨some 4,.op (.mv (.c (.int .i64 0))),none⟩]) (.seq (.reg [0,1,5] [
 ⟨some 7,.op (.mv (.t 0)),none⟩,⟨some 8,.call (.c (.fn 91 [] [])) [(.t 7)],none⟩,⟨some 5,.op (.mv (.t 8)),none⟩]) (.seq (.reg [0,1,5,6] [
 ⟨some 9,.op (.mv (.t 1)),none⟩,⟨some 10,.call (.c (.fn 91 [] [])) [(.t 9)],none⟩,⟨some 6,.op (.mv (.t 10)),none⟩]) (.seq (.seq (.reg [0,1,6,11] [
 ⟨some 11,.op (.mv (.t 5)),none⟩]) (.cond (.t 11) (.seq (.seq (.reg [12] [
 ⟨some 12,.op (.mv (.t 6)),none⟩]) (.cond (.t 12) (.seq (.reg [4] [
 ⟨some 4,.op (.mv (.c (.int .i64 0))),none⟩]) (.ret)) (.skip))) (.seq (.reg [4] [
 ⟨some 4,.op (.mv (.c (.int .i64 (-1)))),none⟩]) (.ret))) (.skip))) (.seq (.seq (.reg [0,1,13] [
 ⟨some 13,.op (.mv (.t 6)),none⟩]) (.cond (.t 13) (.seq (.reg [4] [
 ⟨some 4,.op (.mv (.c (.int .i64 1))),none⟩]) (.ret)) (.skip))) (.seq (.seq (.reg [0,1,16] [
 ⟨some 14,.op (.mv (.t 0)),none⟩,⟨some 15,.op (.mv (.t 1)),none⟩,⟨some 16,.op (.bin .lss (.t 14) (.t 15)),none⟩]) (.cond (.t 16) (.seq (.reg [4] [
 ⟨some 4,.op (.mv (.c (.int .i64 (-1)))),none⟩]) (.ret)) (.skip))) (.seq (.seq (.reg [19] [
 ⟨some 17,.op (.mv (.t 0)),none⟩,⟨some 18,.op (.mv (.t 1)),none⟩,⟨some 19,.op (.bin .gtr (.t 17) (.t 18)),none⟩]) (.cond (.t 19) (.seq (.reg [4] [
 ⟨some 4,.op (.mv (.c (.int .i64 1))),none⟩]) (.ret)) (.skip))) (.seq (.reg [4] [
 ⟨some 4,.op (.mv (.c (.int .i64 0))),none⟩]) (.ret))))))))
theorem cf72 : compF Tryz.prog Tryz.f72 h72 = some (ac72,rs72) := by kernel_rfl
/-! mailcoach/ledgers.Check params 1 -/
def h73 : Hints := ⟨[(9,[2]),(8,[0,8,9,10]),(7,[2]),(6,[0,8,9,10,54]),(5,[0,3,4,8,9,10]),(4,[0,8,9,10,11]),(3,[0,8,9,10]),(2,[2]),(1,[0,7]),(0,[0])],[(4,[0,8,9,10])],[(6,[(0,[]),(1,[]),(2,[]),(3,[]),(4,[]),(5,[]),(6,[]),(7,[]),(8,[]),(9,[]),(10,[]),(11,[]),(12,[]),(13,[]),(14,[]),(15,[]),(16,[]),(17,[]),(18,[]),(19,[]),(20,[]),(21,[]),(22,[]),(23,[]),(24,[]),(25,[]),(26,[]),(27,[]),(28,[]),(29,[]),(30,[]),(31,[]),(32,[]),(33,[]),(34,[]),(35,[]),(36,[]),(37,[]),(38,[]),(39,[])])]⟩
def rs73 : List ARes := [.t 2]
def ac73 : ACode :=
 .seq (.reg [0] [
 ⟨some 2,.op (.mv (.c (.bool false))),none⟩]) (.seq (.seq (.reg [0,7] [
 ⟨some 5,.op (.mv (.t 0)),none⟩,⟨some 6,.op (.len 1 (.t 5)),none⟩,⟨some 7,.op (.bin .gtr (.t 6) (.c (.int .i64 64))),none⟩]) (.cond (.t 7) (.seq (.reg [2] [
 ⟨some 2,.op (.mv (.c (.bool false))),none⟩]) (.ret)) (.skip))) (.seq (.seq (.reg [0,8,9,10] [
 ⟨some 8,.op (.mv (.t 0)),none⟩,⟨some 9,.op (.len 1 (.t 8)),none⟩,⟨some 10,.op (.mv (.c (.int .i64 0))),none⟩]) (.block 0 (.loop [0,8,9,10] (.seq (.reg [0,8,9,10,11] [
 ⟨some 11,.op (.bin .lss (.t 10) (.t 9)),none⟩]) (.seq (.cond (.t 11) (.skip) (.exit 0)) (.seq (.block 1 (.seq (.reg [0,3,4,8,9,10] [
 ⟨some 12,.op (.mv (.t 10)),none⟩,⟨some 13,.op (.idxAddr 3 (.t 8) (.t 10)),none⟩,⟨some 14,.op (.ldn 3 (.t 13)),none⟩,⟨some 4,.op (.alloc [.int .u64 0,.bool false,.int .u64 0]),none⟩,⟨some 3,.op (.mv (.t 12)),none⟩,⟨none,.op (.st 3 (.t 4) (.t 14)),none⟩]) (.seq (.dreg [0,8,9,10,54] [
 (⟨some 15,.op (.fieldAddr 0 (.t 4)),none⟩,[]),(⟨some 16,.op (.ld1 (.t 15)),none⟩,[]),(⟨some 17,.op (.bin .eql (.t 16) (.c (.int .u64 0))),none⟩,[]),(⟨some 18,.op (.mv (.t 17)),none⟩,[]),(⟨some 19,.op (.fieldAddr 2 (.t 4)),some (18,false)⟩,[]),(⟨some 20,.op (.ld1 (.t 19)),some (18,false)⟩,[]),(⟨some 21,.op (.bin .gtr (.t 20) (.c (.int .u64 1048576))),some (18,false)⟩,[]),(⟨some 22,.pick (.t 18) (.c (.bool true)) (.t 21),none⟩,[]),(⟨some 23,.op (.mv (.t 22)),none⟩,[]),(⟨some 24,.op (.mv (.t 3)),some (23,false)⟩,[]),(⟨some 25,.op (.bin .gtr (.t 24) (.c (.int .i64 0))),some (23,false)⟩,[]),(⟨some 26,.op (.mv (.t 25)),some (23,false)⟩,[]),(⟨some 27,.op (.mv (.t 0)),some (26,true)⟩,[]),(⟨some 28,.op (.mv (.t 3)),some (26,true)⟩,[]),(⟨some 29,.op (.bin .sub (.t 28) (.c (.int .i64 1))),some (26,true)⟩,[]),(⟨some 30,.op (.idxAddr 3 (.t 27) (.t 29)),some (26,true)⟩,[]),(⟨some 31,.op (.fieldAddr 0 (.t 30)),some (26,true)⟩,[]),(⟨some 32,.op (.ld1 (.t 31)),some (26,true)⟩,[]),(⟨some 33,.op (.fieldAddr 0 (.t 4)),some (26,true)⟩,[]),(⟨some 34,.op (.ld1 (.t 33)),some (26,true)⟩,[]),(⟨some 35,.op (.bin .geq (.t 32) (.t 34)),some (26,true)⟩,[]),(⟨some 36,.pick (.t 26) (.t 35) (.c (.bool false)),some (23,false)⟩,[]),(⟨some 37,.pick (.t 23) (.c (.bool true)) (.t 36),none⟩,[]),(⟨some 38,.op (.mv (.t 37)),none⟩,[]),(⟨some 39,.op (.fieldAddr 1 (.t 4)),some (38,false)⟩,[]),(⟨some 40,.op (.ld1 (.t 39)),some (38,false)⟩,[]),(⟨some 41,.op (.un .not (.t 40)),some (38,false)⟩,[]),(⟨some 42,.op (.mv (.t 41)),some (38,false)⟩,[]),(⟨some 43,.op (.fieldAddr 2 (.t 4)),some (42,true)⟩,[]),(⟨some 44,.op (.ld1 (.t 43)),some (42,true)⟩,[]),(⟨some 45,.op (.bin .gtr (.t 44) (.c (.int .u64 0))),some (42,true)⟩,[]),(⟨some 46,.op (.mv (.t 45)),some (42,true)⟩,[]),(⟨some 47,.op (.mv (.t 3)),some (46,false)⟩,[]),(⟨some 48,.op (.mv (.t 0)),some (46,false)⟩,[]),(⟨some 49,.op (.len 1 (.t 48)),some (46,false)⟩,[]),(⟨some 50,.op (.bin .sub (.t 49) (.c (.int .i64 1))),some (46,false)⟩,[]),(⟨some 51,.op (.bin .lss (.t 47) (.t 50)),some (46,false)⟩,[]),(⟨some 52,.pick (.t 46) (.c (.bool true)) (.t 51),some (42,true)⟩,[]),(⟨some 53,.pick (.t 42) (.t 52) (.c (.bool false)),some (38,false)⟩,[]),(⟨some 54,.pick (.t 38) (.c (.bool true)) (.t 53),none⟩,[])]) (.cond (.t 54) (.seq (.reg [2] [
 ⟨some 2,.op (.mv (.c (.bool false))),none⟩]) (.ret)) (.skip))))) (.reg [0,8,9,10] [
 ⟨some 55,.op (.bin .add (.t 10) (.c (.int .i64 1))),none⟩,⟨some 10,.op (.mv (.t 55)),none⟩]))))))) (.seq (.reg [2] [
 ⟨some 2,.op (.mv (.c (.bool true))),none⟩]) (.ret))))
theorem cf73 : compF Tryz.prog Tryz.f73 h73 = some (ac73,rs73) := by kernel_rfl
/-! (*mailcoach/mailcoachref01.Reader).Bytes params 1 -/
def h74 : Hints := ⟨[(8,[2]),(7,[4]),(6,[0,3,4]),(5,[2]),(4,[0,3,29]),(3,[0,3]),(2,[0,3,21]),(1,[0,3]),(0,[0])],[],[]⟩
def rs74 : List ARes := [.t 2]
def ac74 : ACode :=
 .seq (.reg [0] [
 ⟨some 2,.op (.mv (.c (.nilsl))),none⟩]) (.seq (.reg [0,3] [
 ⟨some 5,.op (.mv (.t 0)),none⟩,⟨some 6,.call (.c (.fn 34 [] [])) [(.t 5),(.c (.int .i64 4))],none⟩,⟨some 3,.op (.mv (.t 6)),none⟩]) (.seq (.seq (.reg [0,3,21] [
 ⟨some 7,.op (.mv (.t 0)),none⟩,⟨some 8,.op (.nilCheck (.t 7)),none⟩,⟨some 9,.op (.fieldAddr 1 (.t 8)),none⟩,⟨some 10,.op (.ld1 (.t 9)),none⟩,⟨some 11,.op (.bin .eql (.t 10) (.c (.int .i64 0))),none⟩,⟨some 12,.op (.mv (.t 11)),none⟩,⟨some 13,.op (.mv (.t 3)),some (12,true)⟩,⟨some 14,.op (.mv (.t 0)),some (12,true)⟩,⟨some 15,.op (.nilCheck (.t 14)),some (12,true)⟩,⟨some 16,.op (.fieldAddr 0 (.t 15)),some (12,true)⟩,⟨some 17,.op (.ld1 (.t 16)),some (12,true)⟩,⟨some 18,.op (.len 1 (.t 17)),some (12,true)⟩,⟨some 19,.op (.toInt .u64 (.t 18)),some (12,true)⟩,⟨some 20,.op (.bin .gtr (.t 13) (.t 19)),some (12,true)⟩,⟨some 21,.pick (.t 12) (.t 20) (.c (.bool false)),none⟩]) (.cond (.t 21) (.reg [0,3] [
 ⟨some 22,.op (.mv (.t 0)),none⟩,⟨some 23,.op (.nilCheck (.t 22)),none⟩,⟨some 24,.op (.fieldAddr 1 (.t 23)),none⟩,⟨none,.op (.st 1 (.t 24) (.c (.int .i64 4))),none⟩]) (.skip))) (.seq (.seq (.reg [0,3,29] [
 ⟨some 25,.op (.mv (.t 0)),none⟩,⟨some 26,.op (.nilCheck (.t 25)),none⟩,⟨some 27,.op (.fieldAddr 1 (.t 26)),none⟩,⟨some 28,.op (.ld1 (.t 27)),none⟩,⟨some 29,.op (.bin .neq (.t 28) (.c (.int .i64 0))),none⟩]) (.cond (.t 29) (.seq (.reg [2] [
 ⟨some 2,.op (.mv (.c (.nilsl))),none⟩]) (.ret)) (.skip))) (.seq (.reg [0,3,4] [
 ⟨some 30,.op (.mv (.t 0)),none⟩,⟨some 31,.op (.nilCheck (.t 30)),none⟩,⟨some 32,.op (.fieldAddr 0 (.t 31)),none⟩,⟨some 33,.op (.ld1 (.t 32)),none⟩,⟨some 34,.op (.mv (.t 3)),none⟩,⟨some 35,.op (.slice 1 (.t 33) none (some (.t 34)) none),none⟩,⟨some 4,.op (.mv (.t 35)),none⟩]) (.seq (.reg [4] [
 ⟨some 36,.op (.mv (.t 0)),none⟩,⟨some 37,.op (.mv (.t 0)),none⟩,⟨some 38,.op (.nilCheck (.t 37)),none⟩,⟨some 39,.op (.fieldAddr 0 (.t 38)),none⟩,⟨some 40,.op (.ld1 (.t 39)),none⟩,⟨some 41,.op (.mv (.t 3)),none⟩,⟨some 42,.op (.slice 1 (.t 40) (some (.t 41)) none none),none⟩,⟨some 43,.op (.nilCheck (.t 36)),none⟩,⟨some 44,.op (.fieldAddr 0 (.t 43)),none⟩,⟨none,.op (.st 1 (.t 44) (.t 42)),none⟩]) (.seq (.reg [2] [
 ⟨some 45,.op (.mv (.t 4)),none⟩,⟨some 2,.op (.mv (.t 45)),none⟩]) (.ret)))))))
theorem cf74 : compF Tryz.prog Tryz.f74 h74 = some (ac74,rs74) := by kernel_rfl
/-! mailcoach/mailcoachref03.Same params 2 -/
def h75 : Hints := ⟨[(8,[4]),(5,[0,1,5]),(7,[4]),(6,[0,1,5,25]),(4,[0,1,5,14]),(3,[0,1,5]),(2,[4]),(1,[0,1,10]),(0,[0,1])],[(4,[0,1,5])],[(6,[(0,[]),(1,[]),(2,[]),(3,[]),(4,[]),(5,[]),(6,[]),(7,[]),(8,[])])]⟩
def rs75 : List ARes := [.t 4]
def ac75 : ACode :=
 .seq (.reg [0,1] [
 ⟨some 4,.op (.mv (.c (.bool false))),none⟩]) (.seq (.seq (.reg [0,1,10] [
 ⟨some 6,.op (.mv (.t 0)),none⟩,⟨some 7,.op (.len 1 (.t 6)),none⟩,⟨some 8,.op (.mv (.t 1)),none⟩,⟨some 9,.op (.len 1 (.t 8)),none⟩,⟨some 10,.op (.bin .neq (.t 7) (.t 9)),none⟩]) (.cond (.t 10) (.seq (.reg [4] [
 ⟨some 4,.op (.mv (.c (.bool false))),none⟩]) (.ret)) (.skip))) (.seq (.seq (.reg [0,1,5] [
 ⟨some 5,.op (.mv (.c (.int .i64 0))),none⟩]) (.block 0 (.loop [0,1,5] (.seq (.seq (.reg [0,1,5,14] [
 ⟨some 11,.op (.mv (.t 5)),none⟩,⟨some 12,.op (.mv (.t 0)),none⟩,⟨some 13,.op (.len 1 (.t 12)),none⟩,⟨some 14,.op (.bin .lss (.t 11) (.t 13)),none⟩]) (.cond (.t 14) (.skip) (.exit 0))) (.seq (.block 1 (.seq (.dreg [0,1,5,25] [
 (⟨some 17,.op (.mv (.t 0)),none⟩,[]),(⟨some 18,.op (.mv (.t 5)),none⟩,[]),(⟨some 19,.op (.idxAddr 2 (.t 17) (.t 18)),none⟩,[]),(⟨some 20,.op (.ldn 2 (.t 19)),none⟩,[]),(⟨some 21,.op (.mv (.t 1)),none⟩,[]),(⟨some 22,.op (.mv (.t 5)),none⟩,[]),(⟨some 23,.op (.idxAddr 2 (.t 21) (.t 22)),none⟩,[]),(⟨some 24,.op (.ldn 2 (.t 23)),none⟩,[]),(⟨some 25,.op (.eqs true [1,1] (.t 20) (.t 24)),none⟩,[])]) (.cond (.t 25) (.seq (.reg [4] [
 ⟨some 4,.op (.mv (.c (.bool false))),none⟩]) (.ret)) (.skip)))) (.reg [0,1,5] [
 ⟨some 15,.op (.mv (.t 5)),none⟩,⟨some 16,.op (.bin .add (.t 15) (.c (.int .i64 1))),none⟩,⟨some 5,.op (.mv (.t 16)),none⟩])))))) (.seq (.reg [4] [
 ⟨some 4,.op (.mv (.c (.bool true))),none⟩]) (.ret))))
theorem cf75 : compF Tryz.prog Tryz.f75 h75 = some (ac75,rs75) := by kernel_rfl
/-! (*mailcoach/pack.Writer).number params 3 -/
def h78 : Hints := ⟨[(7,[]),(6,[0,2,6,21]),(5,[0,1,2,6,8]),(4,[0,1,2,6,8]),(3,[0,1,2,6,7,8]),(2,[0,1,2,6,8,9]),(1,[0,1,2,6,8]),(0,[0,1,2,6])],[(2,[0,1,2,6,8])],[(7,[(0,[]),(1,[]),(2,[]),(3,[]),(4,[]),(5,[]),(6,[]),(7,[]),(8,[]),(9,[]),(10,[]),(11,[])])]⟩
def rs78 : List ARes := []
def ac78 : ACode :=
 .seq (.reg [0,1,2,6] [
 ⟨some 6,.op (.allocA 1 [.int .u8 0,.int .u8 0,.int .u8 0,.int .u8 0,.int .u8 0,.int .u8 0,.int .u8 0,.int .u8 0]),none⟩]) (.seq (.seq (.reg [0,1,2,6,8] [
 ⟨some 8,.op (.mv (.c (.int .i64 0))),none⟩]) (.block 0 (.loop [0,1,2,6,8] (.seq (.reg [0,1,2,6,8,9] [
 ⟨some 9,.op (.bin .lss (.t 8) (.c (.int .i64 8))),none⟩]) (.seq (.cond (.t 9) (.skip) (.exit 0)) (.seq (.block 1 (.seq (.reg [0,1,2,6,7,8] [
 ⟨some 10,.op (.mv (.t 8)),none⟩,⟨some 7,.op (.mv (.t 10)),none⟩]) (.reg [0,1,2,6,8] [
 ⟨some 11,.op (.mv (.t 7)),none⟩,⟨some 12,.op (.bin .sub (.c (.int .i64 7)) (.t 11)),none⟩,⟨some 13,.op (.mv (.t 1)),none⟩,⟨some 14,.op (.mv (.t 7)),none⟩,⟨some 15,.op (.bin .mul (.c (.int .i64 8)) (.t 14)),none⟩,⟨some 16,.op (.bin .shr (.t 13) (.t 15)),none⟩,⟨some 17,.op (.toInt .u8 (.t 16)),none⟩,⟨some 18,.op (.idxArr 8 1 (.t 6) (.t 12)),none⟩,⟨none,.op (.st 1 (.t 18) (.t 17)),none⟩]))) (.reg [0,1,2,6,8] [
 ⟨some 19,.op (.bin .add (.t 8) (.c (.int .i64 1))),none⟩,⟨some 8,.op (.mv (.t 19)),none⟩]))))))) (.seq (.reg [0,2,6,21] [
 ⟨some 20,.op (.mv (.t 0)),none⟩,⟨some 21,.op (.eqn 0 true (.t 20) (.c (.nilp))),none⟩]) (.cond (.t 21) (.dreg [] [
 (⟨some 22,.op (.mv (.t 0)),none⟩,[]),(⟨some 23,.op (.mv (.t 0)),none⟩,[]),(⟨some 24,.op (.nilCheck (.t 23)),none⟩,[]),(⟨some 25,.op (.fieldAddr 0 (.t 24)),none⟩,[]),(⟨some 26,.op (.ld1 (.t 25)),none⟩,[]),(⟨some 27,.op (.mv (.t 2)),none⟩,[]),(⟨some 28,.op (.bin .sub (.c (.int .i64 8)) (.t 27)),none⟩,[]),(⟨some 29,.op (.sliceArr 8 1 (.t 6) (some (.t 28)) none none),none⟩,[]),(⟨some 30,.op (.append 1 1 (.t 26) (.t 29)),none⟩,[]),(⟨some 31,.op (.nilCheck (.t 22)),none⟩,[]),(⟨some 32,.op (.fieldAddr 0 (.t 31)),none⟩,[]),(⟨none,.op (.st 1 (.t 32) (.t 30)),none⟩,[])]) (.skip))))
theorem cf78 : compF Tryz.prog Tryz.f78 h78 = some (ac78,rs78) := by kernel_rfl
/-! slices.Clone[[]byte,byte] params 1 -/
def h79 : Hints := ⟨[(3,[2]),(2,[2]),(1,[0,4]),(0,[0])],[],[]⟩
def rs79 : List ARes := [.t 2]
def ac79 : ACode :=
 .seq (.reg [0] [
 ⟨some 2,.op (.mv (.c (.nilsl))),none⟩]) (.seq (.seq (.reg [0,4] [
 ⟨some 3,.op (.mv (.t 0)),none⟩,⟨some 4,.op (.eqn 1 false (.t 3) (.c (.nilsl))),none⟩]) (.cond (.t 4) (.seq (.reg [2] [
 ⟨some 2,.op (.mv (.c (.nilsl))),none⟩]) (.ret)) (.skip))) (.seq (.reg [2] [
 ⟨some 5,.op (.buildSl 1 [.int .u8 0] 0 []),none⟩,⟨some 6,.op (.mv (.t 0)),none⟩,⟨some 7,.op (.append 1 1 (.t 5) (.t 6)),none⟩,⟨some 2,.op (.mv (.t 7)),none⟩]) (.ret)))
theorem cf79 : compF Tryz.prog Tryz.f79 h79 = some (ac79,rs79) := by kernel_rfl
/-! (*mailcoach/pack.Reader).take params 2 -/
def h80 : Hints := ⟨[(5,[4]),(4,[5]),(3,[0,1,5]),(2,[0,1]),(1,[0,1,13]),(0,[0,1])],[],[]⟩
def rs80 : List ARes := [.t 4]
def ac80 : ACode :=
 .seq (.reg [0,1] [
 ⟨some 4,.op (.mv (.c (.nilsl))),none⟩]) (.seq (.seq (.reg [0,1,13] [
 ⟨some 6,.op (.mv (.t 1)),none⟩,⟨some 7,.op (.mv (.t 0)),none⟩,⟨some 8,.op (.nilCheck (.t 7)),none⟩,⟨some 9,.op (.fieldAddr 0 (.t 8)),none⟩,⟨some 10,.op (.ld1 (.t 9)),none⟩,⟨some 11,.op (.len 1 (.t 10)),none⟩,⟨some 12,.op (.toInt .u64 (.t 11)),none⟩,⟨some 13,.op (.bin .gtr (.t 6) (.t 12)),none⟩]) (.cond (.t 13) (.reg [0,1] [
 ⟨some 14,.op (.build [.int .i64 0] [(0,1,(.c (.int .i64 4)))]),none⟩,⟨some 15,.op (.mkIface 138 (.t 14)),none⟩,⟨none,.panic (.t 15),none⟩]) (.skip))) (.seq (.reg [0,1,5] [
 ⟨some 16,.op (.mv (.t 0)),none⟩,⟨some 17,.op (.nilCheck (.t 16)),none⟩,⟨some 18,.op (.fieldAddr 0 (.t 17)),none⟩,⟨some 19,.op (.ld1 (.t 18)),none⟩,⟨some 20,.op (.mv (.t 1)),none⟩,⟨some 21,.op (.slice 1 (.t 19) none (some (.t 20)) none),none⟩,⟨some 5,.op (.mv (.t 21)),none⟩]) (.seq (.reg [5] [
 ⟨some 22,.op (.mv (.t 0)),none⟩,⟨some 23,.op (.mv (.t 0)),none⟩,⟨some 24,.op (.nilCheck (.t 23)),none⟩,⟨some 25,.op (.fieldAddr 0 (.t 24)),none⟩,⟨some 26,.op (.ld1 (.t 25)),none⟩,⟨some 27,.op (.mv (.t 1)),none⟩,⟨some 28,.op (.slice 1 (.t 26) (some (.t 27)) none none),none⟩,⟨some 29,.op (.nilCheck (.t 22)),none⟩,⟨some 30,.op (.fieldAddr 0 (.t 29)),none⟩,⟨none,.op (.st 1 (.t 30) (.t 28)),none⟩]) (.seq (.reg [4] [
 ⟨some 31,.op (.mv (.t 5)),none⟩,⟨some 4,.op (.mv (.t 31)),none⟩]) (.ret)))))
theorem cf80 : compF Tryz.prog Tryz.f80 h80 = some (ac80,rs80) := by kernel_rfl
/-! mailcoach/mailcoachref03.Right params 1 -/
def h81 : Hints := ⟨[(8,[2]),(3,[0,3]),(7,[2]),(6,[0,3,36]),(5,[2]),(4,[0,3,20]),(2,[0,3,7]),(1,[0,3]),(0,[0])],[(2,[0,3])],[(4,[(0,[]),(1,[]),(2,[]),(3,[]),(4,[]),(5,[]),(6,[]),(7,[]),(8,[]),(9,[]),(10,[])]),(6,[(0,[]),(1,[]),(2,[]),(3,[]),(4,[]),(5,[]),(6,[]),(7,[]),(8,[]),(9,[]),(10,[]),(11,[]),(12,[]),(13,[]),(14,[]),(15,[])])]⟩
def rs81 : List ARes := [.t 2]
def ac81 : ACode :=
 .seq (.reg [0] [
 ⟨some 2,.op (.mv (.c (.bool false))),none⟩]) (.seq (.seq (.reg [0,3] [
 ⟨some 3,.op (.mv (.c (.int .i64 0))),none⟩]) (.block 0 (.loop [0,3] (.seq (.seq (.reg [0,3,7] [
 ⟨some 4,.op (.mv (.t 3)),none⟩,⟨some 5,.op (.mv (.t 0)),none⟩,⟨some 6,.op (.len 1 (.t 5)),none⟩,⟨some 7,.op (.bin .lss (.t 4) (.t 6)),none⟩]) (.cond (.t 7) (.skip) (.exit 0))) (.seq (.block 1 (.seq (.seq (.dreg [0,3,20] [
 (⟨some 10,.op (.mv (.t 0)),none⟩,[]),(⟨some 11,.op (.mv (.t 3)),none⟩,[]),(⟨some 12,.op (.idxAddr 2 (.t 10) (.t 11)),none⟩,[]),(⟨some 13,.op (.fieldAddr 0 (.t 12)),none⟩,[]),(⟨some 14,.op (.ld1 (.t 13)),none⟩,[]),(⟨some 15,.op (.mv (.t 0)),none⟩,[]),(⟨some 16,.op (.mv (.t 3)),none⟩,[]),(⟨some 17,.op (.idxAddr 2 (.t 15) (.t 16)),none⟩,[]),(⟨some 18,.op (.fieldAddr 1 (.t 17)),none⟩,[]),(⟨some 19,.op (.ld1 (.t 18)),none⟩,[]),(⟨some 20,.op (.bin .geq (.t 14) (.t 19)),none⟩,[])]) (.cond (.t 20) (.seq (.reg [2] [
 ⟨some 2,.op (.mv (.c (.bool false))),none⟩]) (.ret)) (.skip))) (.seq (.dreg [0,3,36] [
 (⟨some 21,.op (.mv (.t 3)),none⟩,[]),(⟨some 22,.op (.bin .gtr (.t 21) (.c (.int .i64 0))),none⟩,[]),(⟨some 23,.op (.mv (.t 22)),none⟩,[]),(⟨some 24,.op (.mv (.t 0)),some (23,true)⟩,[]),(⟨some 25,.op (.mv (.t 3)),some (23,true)⟩,[]),(⟨some 26,.op (.idxAddr 2 (.t 24) (.t 25)),some (23,true)⟩,[]),(⟨some 27,.op (.fieldAddr 0 (.t 26)),some (23,true)⟩,[]),(⟨some 28,.op (.ld1 (.t 27)),some (23,true)⟩,[]),(⟨some 29,.op (.mv (.t 0)),some (23,true)⟩,[]),(⟨some 30,.op (.mv (.t 3)),some (23,true)⟩,[]),(⟨some 31,.op (.bin .sub (.t 30) (.c (.int .i64 1))),some (23,true)⟩,[]),(⟨some 32,.op (.idxAddr 2 (.t 29) (.t 31)),some (23,true)⟩,[]),(⟨some 33,.op (.fieldAddr 1 (.t 32)),some (23,true)⟩,[]),(⟨some 34,.op (.ld1 (.t 33)),some (23,true)⟩,[]),(⟨some 35,.op (.bin .leq (.t 28) (.t 34)),some (23,true)⟩,[]),(⟨some 36,.pick (.t 23) (.t 35) (.c (.bool false)),none⟩,[])]) (.cond (.t 36) (.seq (.reg [2] [
 ⟨some 2,.op (.mv (.c (.bool false))),none⟩]) (.ret)) (.skip))))) (.reg [0,3] [
 ⟨some 8,.op (.mv (.t 3)),none⟩,⟨some 9,.op (.bin .add (.t 8) (.c (.int .i64 1))),none⟩,⟨some 3,.op (.mv (.t 9)),none⟩])))))) (.seq (.reg [2] [
 ⟨some 2,.op (.mv (.c (.bool true))),none⟩]) (.ret)))
theorem cf81 : compF Tryz.prog Tryz.f81 h81 = some (ac81,rs81) := by kernel_rfl
/-! mailcoach/mailcoachref13.Order params 2 -/
def h82 : Hints := ⟨[(5,[4]),(2,[4]),(4,[4]),(3,[25]),(1,[2,3,5]),(0,[2,3])],[],[]⟩
def rs82 : List ARes := [.t 4]
def ac82 : ACode :=
 .seq (.reg [2,3] [
 ⟨some 2,.op (.box (.t 0)),none⟩,⟨some 3,.op (.box (.t 1)),none⟩,⟨some 4,.op (.mv (.c (.int .i64 0))),none⟩]) (.seq (.block 0 (.seq (.reg [2,3,5] [
 ⟨some 6,.op (.fieldAddr 0 (.t 2)),none⟩,⟨some 7,.op (.ld1 (.t 6)),none⟩,⟨some 8,.op (.fieldAddr 0 (.t 3)),none⟩,⟨some 9,.op (.ld1 (.t 8)),none⟩,⟨some 10,.op (.bin .lss (.t 7) (.t 9)),none⟩,⟨some 11,.op (.mv (.t 10)),none⟩,⟨some 12,.op (.fieldAddr 0 (.t 2)),some (11,false)⟩,⟨some 13,.op (.ld1 (.t 12)),some (11,false)⟩,⟨some 14,.op (.fieldAddr 0 (.t 3)),some (11,false)⟩,⟨some 15,.op (.ld1 (.t 14)),some (11,false)⟩,⟨some 16,.op (.bin .eql (.t 13) (.t 15)),some (11,false)⟩,⟨some 17,.op (.mv (.t 16)),some (11,false)⟩,⟨some 18,.op (.fieldAddr 1 (.t 2)),some (17,true)⟩,⟨some 19,.op (.ld1 (.t 18)),some (17,true)⟩,⟨some 20,.op (.fieldAddr 1 (.t 3)),some (17,true)⟩,⟨some 21,.op (.ld1 (.t 20)),some (17,true)⟩,⟨some 22,.op (.bin .lss (.t 19) (.t 21)),some (17,true)⟩,⟨some 23,.pick (.t 17) (.t 22) (.c (.bool false)),some (11,false)⟩,⟨some 24,.pick (.t 11) (.c (.bool true)) (.t 23),none⟩,⟨some 5,.op (.mv (.t 24)),none⟩]) (.cond (.t 5) (.seq (.reg [4] [
 ⟨some 4,.op (.mv (.c (.int .i64 (-1)))),none⟩]) (.ret)) (.seq (.reg [25] [
 ⟨some 26,.op (.ldn 2 (.t 2)),none⟩,⟨some 27,.op (.ldn 2 (.t 3)),none⟩,⟨some 28,.op (.eqs false [1,1] (.t 26) (.t 27)),none⟩,⟨some 25,.op (.mv (.t 28)),none⟩]) (.cond (.t 25) (.seq (.reg [4] [
 ⟨some 4,.op (.mv (.c (.int .i64 0))),none⟩]) (.ret)) (.skip)))))) (.seq (.reg [4] [
 ⟨some 4,.op (.mv (.c (.int .i64 1))),none⟩]) (.ret)))
theorem cf82 : compF Tryz.prog Tryz.f82 h82 = some (ac82,rs82) := by kernel_rfl
/-! mailcoach/mailcoachref03.ends params 1 -/
def h83 : Hints := ⟨[(6,[2]),(4,[0,3,4]),(5,[0,3,4]),(3,[0,3,4,8]),(2,[0,3,4]),(1,[0,3]),(0,[0])],[(3,[0,3,4])],[(5,[(0,[]),(1,[]),(2,[]),(3,[]),(4,[]),(5,[]),(7,[]),(8,[]),(9,[]),(10,[]),(11,[]),(6,[10]),(12,[]),(13,[])])]⟩
def rs83 : List ARes := [.t 2]
def ac83 : ACode :=
 .seq (.reg [0] [
 ⟨some 2,.op (.mv (.c (.nilsl))),none⟩]) (.seq (.reg [0,3] [
 ⟨some 3,.op (.mv (.c (.nilsl))),none⟩]) (.seq (.seq (.reg [0,3,4] [
 ⟨some 4,.op (.mv (.c (.int .i64 0))),none⟩]) (.block 0 (.loop [0,3,4] (.seq (.seq (.reg [0,3,4,8] [
 ⟨some 5,.op (.mv (.t 4)),none⟩,⟨some 6,.op (.mv (.t 0)),none⟩,⟨some 7,.op (.len 1 (.t 6)),none⟩,⟨some 8,.op (.bin .lss (.t 5) (.t 7)),none⟩]) (.cond (.t 8) (.skip) (.exit 0))) (.seq (.block 1 (.dreg [0,3,4] [
 (⟨some 11,.op (.mv (.t 3)),none⟩,[]),(⟨some 12,.op (.mv (.t 0)),none⟩,[]),(⟨some 13,.op (.mv (.t 4)),none⟩,[]),(⟨some 14,.op (.idxAddr 2 (.t 12) (.t 13)),none⟩,[]),(⟨some 15,.op (.fieldAddr 0 (.t 14)),none⟩,[]),(⟨some 16,.op (.ld1 (.t 15)),none⟩,[]),(⟨some 18,.op (.mv (.t 0)),none⟩,[]),(⟨some 19,.op (.mv (.t 4)),none⟩,[]),(⟨some 20,.op (.idxAddr 2 (.t 18) (.t 19)),none⟩,[]),(⟨some 21,.op (.fieldAddr 1 (.t 20)),none⟩,[]),(⟨some 22,.op (.ld1 (.t 21)),none⟩,[]),(⟨some 17,.call (.c (.fn 92 [] [])) [(.t 11),(.t 16)],none⟩,[10]),(⟨some 23,.call (.c (.fn 92 [] [])) [(.t 17),(.t 22)],none⟩,[]),(⟨some 3,.op (.mv (.t 23)),none⟩,[])])) (.reg [0,3,4] [
 ⟨some 9,.op (.mv (.t 4)),none⟩,⟨some 10,.op (.bin .add (.t 9) (.c (.int .i64 1))),none⟩,⟨some 4,.op (.mv (.t 10)),none⟩])))))) (.seq (.reg [2] [
 ⟨some 24,.op (.mv (.t 3)),none⟩,⟨some 2,.op (.mv (.t 24)),none⟩]) (.ret))))
theorem cf83 : compF Tryz.prog Tryz.f83 h83 = some (ac83,rs83) := by kernel_rfl
/-! mailcoach/mailcoachref03.In params 2 -/
def h84 : Hints := ⟨[(6,[4]),(3,[0,1,5]),(5,[4]),(4,[0,1,5,27]),(2,[0,1,5,9]),(1,[0,1,5]),(0,[0,1])],[(2,[0,1,5])],[]⟩
def rs84 : List ARes := [.t 4]
def ac84 : ACode :=
 .seq (.reg [0,1] [
 ⟨some 4,.op (.mv (.c (.bool false))),none⟩]) (.seq (.seq (.reg [0,1,5] [
 ⟨some 5,.op (.mv (.c (.int .i64 0))),none⟩]) (.block 0 (.loop [0,1,5] (.seq (.seq (.reg [0,1,5,9] [
 ⟨some 6,.op (.mv (.t 5)),none⟩,⟨some 7,.op (.mv (.t 0)),none⟩,⟨some 8,.op (.len 1 (.t 7)),none⟩,⟨some 9,.op (.bin .lss (.t 6) (.t 8)),none⟩]) (.cond (.t 9) (.skip) (.exit 0))) (.seq (.block 1 (.seq (.reg [0,1,5,27] [
 ⟨some 12,.op (.mv (.t 0)),none⟩,⟨some 13,.op (.mv (.t 5)),none⟩,⟨some 14,.op (.idxAddr 2 (.t 12) (.t 13)),none⟩,⟨some 15,.op (.fieldAddr 0 (.t 14)),none⟩,⟨some 16,.op (.ld1 (.t 15)),none⟩,⟨some 17,.op (.mv (.t 1)),none⟩,⟨some 18,.op (.bin .leq (.t 16) (.t 17)),none⟩,⟨some 19,.op (.mv (.t 18)),none⟩,⟨some 20,.op (.mv (.t 1)),some (19,true)⟩,⟨some 21,.op (.mv (.t 0)),some (19,true)⟩,⟨some 22,.op (.mv (.t 5)),some (19,true)⟩,⟨some 23,.op (.idxAddr 2 (.t 21) (.t 22)),some (19,true)⟩,⟨some 24,.op (.fieldAddr 1 (.t 23)),some (19,true)⟩,⟨some 25,.op (.ld1 (.t 24)),some (19,true)⟩,⟨some 26,.op (.bin .lss (.t 20) (.t 25)),some (19,true)⟩,⟨some 27,.pick (.t 19) (.t 26) (.c (.bool false)),none⟩]) (.cond (.t 27) (.seq (.reg [4] [
 ⟨some 4,.op (.mv (.c (.bool true))),none⟩]) (.ret)) (.skip)))) (.reg [0,1,5] [
 ⟨some 10,.op (.mv (.t 5)),none⟩,⟨some 11,.op (.bin .add (.t 10) (.c (.int .i64 1))),none⟩,⟨some 5,.op (.mv (.t 11)),none⟩])))))) (.seq (.reg [4] [
 ⟨some 4,.op (.mv (.c (.bool false))),none⟩]) (.ret)))
theorem cf84 : compF Tryz.prog Tryz.f84 h84 = some (ac84,rs84) := by kernel_rfl
/-! unicode/utf8.word[[]byte] params 1 -/
def h85 : Hints := ⟨[(2,[2]),(1,[2]),(0,[0])],[],[(1,[(0,[]),(1,[]),(2,[]),(3,[]),(4,[]),(5,[]),(6,[]),(7,[]),(8,[]),(9,[]),(10,[]),(11,[]),(12,[]),(13,[]),(14,[]),(15,[]),(16,[]),(17,[]),(18,[]),(19,[]),(20,[]),(21,[]),(22,[])]),(2,[(0,[]),(1,[]),(2,[]),(3,[]),(4,[]),(5,[]),(6,[]),(7,[]),(8,[]),(9,[]),(10,[]),(11,[]),(12,[]),(13,[]),(14,[]),(15,[]),(16,[]),(17,[]),(18,[]),(19,[]),(20,[]),(21,[]),(22,[]),(23,[]),(24,[]),(25,[]),(26,[]),(27,[]),(28,[]),(29,[]),(30,[]),(31,[]),(32,[]),(33,[]),(34,[]),(35,[]),(36,[]),(37,[]),(38,[]),(39,[]),(40,[]),(41,[]),(42,[]),(43,[]),(44,[]),(45,[]),(46,[])])]⟩
def rs85 : List ARes := [.t 2]
def ac85 : ACode :=
 .seq (.reg [0] [
 ⟨some 2,.op (.mv (.c (.int .u64 0))),none⟩]) (.seq (.cond (.c (.bool false)) (.seq (.dreg [2] [
 (⟨some 3,.op (.mv (.t 0)),none⟩,[]),(⟨some 4,.op (.idxAddr 1 (.t 3) (.c (.int .i64 0))),none⟩,[]),(⟨some 5,.op (.ld1 (.t 4)),none⟩,[]),(⟨some 6,.op (.toInt .u64 (.t 5)),none⟩,[]),(⟨some 7,.op (.mv (.t 0)),none⟩,[]),(⟨some 8,.op (.idxAddr 1 (.t 7) (.c (.int .i64 1))),none⟩,[]),(⟨some 9,.op (.ld1 (.t 8)),none⟩,[]),(⟨some 10,.op (.toInt .u64 (.t 9)),none⟩,[]),(⟨some 11,.op (.bin .shl (.t 10) (.c (.int .u64 8))),none⟩,[]),(⟨some 12,.op (.bin .or (.t 6) (.t 11)),none⟩,[]),(⟨some 13,.op (.mv (.t 0)),none⟩,[]),(⟨some 14,.op (.idxAddr 1 (.t 13) (.c (.int .i64 2))),none⟩,[]),(⟨some 15,.op (.ld1 (.t 14)),none⟩,[]),(⟨some 16,.op (.toInt .u64 (.t 15)),none⟩,[]),(⟨some 17,.op (.bin .shl (.t 16) (.c (.int .u64 16))),none⟩,[]),(⟨some 18,.op (.bin .or (.t 12) (.t 17)),none⟩,[]),(⟨some 19,.op (.mv (.t 0)),none⟩,[]),(⟨some 20,.op (.idxAddr 1 (.t 19) (.c (.int .i64 3))),none⟩,[]),(⟨some 21,.op (.ld1 (.t 20)),none⟩,[]),(⟨some 22,.op (.toInt .u64 (.t 21)),none⟩,[]),(⟨some 23,.op (.bin .shl (.t 22) (.c (.int .u64 24))),none⟩,[]),(⟨some 24,.op (.bin .or (.t 18) (.t 23)),none⟩,[]),(⟨some 2,.op (.mv (.t 24)),none⟩,[])]) (.ret)) (.skip)) (.seq (.dreg [2] [
 (⟨some 25,.op (.mv (.t 0)),none⟩,[]),(⟨some 26,.op (.idxAddr 1 (.t 25) (.c (.int .i64 0))),none⟩,[]),(⟨some 27,.op (.ld1 (.t 26)),none⟩,[]),(⟨some 28,.op (.toInt .u64 (.t 27)),none⟩,[]),(⟨some 29,.op (.mv (.t 0)),none⟩,[]),(⟨some 30,.op (.idxAddr 1 (.t 29) (.c (.int .i64 1))),none⟩,[]),(⟨some 31,.op (.ld1 (.t 30)),none⟩,[]),(⟨some 32,.op (.toInt .u64 (.t 31)),none⟩,[]),(⟨some 33,.op (.bin .shl (.t 32) (.c (.int .u64 8))),none⟩,[]),(⟨some 34,.op (.bin .or (.t 28) (.t 33)),none⟩,[]),(⟨some 35,.op (.mv (.t 0)),none⟩,[]),(⟨some 36,.op (.idxAddr 1 (.t 35) (.c (.int .i64 2))),none⟩,[]),(⟨some 37,.op (.ld1 (.t 36)),none⟩,[]),(⟨some 38,.op (.toInt .u64 (.t 37)),none⟩,[]),(⟨some 39,.op (.bin .shl (.t 38) (.c (.int .u64 16))),none⟩,[]),(⟨some 40,.op (.bin .or (.t 34) (.t 39)),none⟩,[]),(⟨some 41,.op (.mv (.t 0)),none⟩,[]),(⟨some 42,.op (.idxAddr 1 (.t 41) (.c (.int .i64 3))),none⟩,[]),(⟨some 43,.op (.ld1 (.t 42)),none⟩,[]),(⟨some 44,.op (.toInt .u64 (.t 43)),none⟩,[]),(⟨some 45,.op (.bin .shl (.t 44) (.c (.int .u64 24))),none⟩,[]),(⟨some 46,.op (.bin .or (.t 40) (.t 45)),none⟩,[]),(⟨some 47,.op (.mv (.t 0)),none⟩,[]),(⟨some 48,.op (.idxAddr 1 (.t 47) (.c (.int .i64 4))),none⟩,[]),(⟨some 49,.op (.ld1 (.t 48)),none⟩,[]),(⟨some 50,.op (.toInt .u64 (.t 49)),none⟩,[]),(⟨some 51,.op (.bin .shl (.t 50) (.c (.int .u64 32))),none⟩,[]),(⟨some 52,.op (.bin .or (.t 46) (.t 51)),none⟩,[]),(⟨some 53,.op (.mv (.t 0)),none⟩,[]),(⟨some 54,.op (.idxAddr 1 (.t 53) (.c (.int .i64 5))),none⟩,[]),(⟨some 55,.op (.ld1 (.t 54)),none⟩,[]),(⟨some 56,.op (.toInt .u64 (.t 55)),none⟩,[]),(⟨some 57,.op (.bin .shl (.t 56) (.c (.int .u64 40))),none⟩,[]),(⟨some 58,.op (.bin .or (.t 52) (.t 57)),none⟩,[]),(⟨some 59,.op (.mv (.t 0)),none⟩,[]),(⟨some 60,.op (.idxAddr 1 (.t 59) (.c (.int .i64 6))),none⟩,[]),(⟨some 61,.op (.ld1 (.t 60)),none⟩,[]),(⟨some 62,.op (.toInt .u64 (.t 61)),none⟩,[]),(⟨some 63,.op (.bin .shl (.t 62) (.c (.int .u64 48))),none⟩,[]),(⟨some 64,.op (.bin .or (.t 58) (.t 63)),none⟩,[]),(⟨some 65,.op (.mv (.t 0)),none⟩,[]),(⟨some 66,.op (.idxAddr 1 (.t 65) (.c (.int .i64 7))),none⟩,[]),(⟨some 67,.op (.ld1 (.t 66)),none⟩,[]),(⟨some 68,.op (.toInt .u64 (.t 67)),none⟩,[]),(⟨some 69,.op (.bin .shl (.t 68) (.c (.int .u64 56))),none⟩,[]),(⟨some 70,.op (.bin .or (.t 64) (.t 69)),none⟩,[]),(⟨some 2,.op (.mv (.t 70)),none⟩,[])]) (.ret)))
theorem cf85 : compF Tryz.prog Tryz.f85 h85 = some (ac85,rs85) := by kernel_rfl
/-! mailcoach/ranges.Check params 1 -/
def h86 : Hints := ⟨[(7,[2]),(6,[0,5,6,7]),(5,[2]),(4,[0,5,6,7,31]),(3,[0,3,4,5,6,7]),(2,[0,5,6,7,8]),(1,[0,5,6,7]),(0,[0])],[(2,[0,5,6,7])],[(4,[(0,[]),(1,[]),(2,[]),(3,[]),(4,[]),(5,[]),(6,[]),(7,[]),(8,[]),(9,[]),(10,[]),(11,[]),(12,[]),(13,[]),(14,[]),(15,[]),(16,[]),(17,[]),(18,[]),(19,[])])]⟩
def rs86 : List ARes := [.t 2]
def ac86 : ACode :=
 .seq (.reg [0] [
 ⟨some 2,.op (.mv (.c (.bool false))),none⟩]) (.seq (.seq (.reg [0,5,6,7] [
 ⟨some 5,.op (.mv (.t 0)),none⟩,⟨some 6,.op (.len 1 (.t 5)),none⟩,⟨some 7,.op (.mv (.c (.int .i64 0))),none⟩]) (.block 0 (.loop [0,5,6,7] (.seq (.reg [0,5,6,7,8] [
 ⟨some 8,.op (.bin .lss (.t 7) (.t 6)),none⟩]) (.seq (.cond (.t 8) (.skip) (.exit 0)) (.seq (.block 1 (.seq (.reg [0,3,4,5,6,7] [
 ⟨some 9,.op (.mv (.t 7)),none⟩,⟨some 10,.op (.idxAddr 2 (.t 5) (.t 7)),none⟩,⟨some 11,.op (.ldn 2 (.t 10)),none⟩,⟨some 4,.op (.alloc [.int .u64 0,.int .u64 0]),none⟩,⟨some 3,.op (.mv (.t 9)),none⟩,⟨none,.op (.st 2 (.t 4) (.t 11)),none⟩]) (.seq (.dreg [0,5,6,7,31] [
 (⟨some 12,.op (.fieldAddr 0 (.t 4)),none⟩,[]),(⟨some 13,.op (.ld1 (.t 12)),none⟩,[]),(⟨some 14,.op (.fieldAddr 1 (.t 4)),none⟩,[]),(⟨some 15,.op (.ld1 (.t 14)),none⟩,[]),(⟨some 16,.op (.bin .geq (.t 13) (.t 15)),none⟩,[]),(⟨some 17,.op (.mv (.t 16)),none⟩,[]),(⟨some 18,.op (.mv (.t 3)),some (17,false)⟩,[]),(⟨some 19,.op (.bin .gtr (.t 18) (.c (.int .i64 0))),some (17,false)⟩,[]),(⟨some 20,.op (.mv (.t 19)),some (17,false)⟩,[]),(⟨some 21,.op (.mv (.t 0)),some (20,true)⟩,[]),(⟨some 22,.op (.mv (.t 3)),some (20,true)⟩,[]),(⟨some 23,.op (.bin .sub (.t 22) (.c (.int .i64 1))),some (20,true)⟩,[]),(⟨some 24,.op (.idxAddr 2 (.t 21) (.t 23)),some (20,true)⟩,[]),(⟨some 25,.op (.fieldAddr 1 (.t 24)),some (20,true)⟩,[]),(⟨some 26,.op (.ld1 (.t 25)),some (20,true)⟩,[]),(⟨some 27,.op (.fieldAddr 0 (.t 4)),some (20,true)⟩,[]),(⟨some 28,.op (.ld1 (.t 27)),some (20,true)⟩,[]),(⟨some 29,.op (.bin .geq (.t 26) (.t 28)),some (20,true)⟩,[]),(⟨some 30,.pick (.t 20) (.t 29) (.c (.bool false)),some (17,false)⟩,[]),(⟨some 31,.pick (.t 17) (.c (.bool true)) (.t 30),none⟩,[])]) (.cond (.t 31) (.seq (.reg [2] [
 ⟨some 2,.op (.mv (.c (.bool false))),none⟩]) (.ret)) (.skip))))) (.reg [0,5,6,7] [
 ⟨some 32,.op (.bin .add (.t 7) (.c (.int .i64 1))),none⟩,⟨some 7,.op (.mv (.t 32)),none⟩]))))))) (.seq (.reg [2] [
 ⟨some 2,.op (.mv (.c (.bool true))),none⟩]) (.ret)))
theorem cf86 : compF Tryz.prog Tryz.f86 h86 = some (ac86,rs86) := by kernel_rfl
/-! mailcoach/ledgers.Order params 2 -/
def h87 : Hints := ⟨[(1,[4]),(0,[2,3])],[],[(1,[(0,[]),(1,[]),(2,[]),(3,[]),(5,[]),(6,[]),(7,[]),(8,[]),(4,[5,7]),(9,[]),(10,[]),(11,[]),(12,[])])]⟩
def rs87 : List ARes := [.t 4]
def ac87 : ACode :=
 .seq (.reg [2,3] [
 ⟨some 2,.op (.box (.t 0)),none⟩,⟨some 3,.op (.box (.t 1)),none⟩,⟨some 4,.op (.mv (.c (.int .i64 0))),none⟩]) (.seq (.dreg [4] [
 (⟨some 5,.op (.fieldAddr 0 (.t 2)),none⟩,[]),(⟨some 6,.op (.ld1 (.t 5)),none⟩,[]),(⟨some 7,.op (.fieldAddr 0 (.t 3)),none⟩,[]),(⟨some 8,.op (.ld1 (.t 7)),none⟩,[]),(⟨some 10,.op (.fieldAddr 1 (.t 2)),none⟩,[]),(⟨some 11,.op (.ld1 (.t 10)),none⟩,[]),(⟨some 12,.op (.fieldAddr 1 (.t 3)),none⟩,[]),(⟨some 13,.op (.ld1 (.t 12)),none⟩,[]),(⟨some 9,.call (.c (.fn 94 [] [])) [(.t 6),(.t 8)],none⟩,[5,7]),(⟨some 14,.call (.c (.fn 94 [] [])) [(.t 11),(.t 13)],none⟩,[]),(⟨some 15,.op (.buildSl 1 [.int .i64 0] 2 [(0,(.t 9)),(1,(.t 14))]),none⟩,[]),(⟨some 16,.call (.c (.fn 93 [] [])) [(.t 15)],none⟩,[]),(⟨some 4,.op (.mv (.t 16)),none⟩,[])]) (.ret))
theorem cf87 : compF Tryz.prog Tryz.f87 h87 = some (ac87,rs87) := by kernel_rfl
/-! slices.Collect[mailcoach/api.Line] params 1 -/
def h88 : Hints := ⟨[(1,[2]),(0,[0])],[],[]⟩
def rs88 : List ARes := [.t 2]
def ac88 : ACode :=
 .seq (.reg [0] [
 ⟨some 2,.op (.mv (.c (.nilsl))),none⟩]) (.seq (.reg [2] [
 ⟨some 3,.op (.mv (.t 0)),none⟩,⟨some 4,.call (.c (.fn 95 [] [])) [(.c (.nilsl)),(.t 3)],none⟩,⟨some 2,.op (.mv (.t 4)),none⟩]) (.ret))
theorem cf88 : compF Tryz.prog Tryz.f88 h88 = some (ac88,rs88) := by kernel_rfl
/-! maps.Values[map[string]mailcoach/api.Line,string,mailcoach/api.Line]$1 params 2 -/
def h90 : Hints := ⟨[(3,[0,6,14]),(2,[0,4,6]),(1,[0,6,8]),(0,[0,6])],[(1,[0,6])],[]⟩
def rs90 : List ARes := []
def ac90 : ACode :=
 .seq (.reg [0,6] [
 ⟨some 5,.op (.ld1 (.t 1)),none⟩,⟨some 6,.op (.rangeM (.t 5)),none⟩]) (.block 0 (.loop [0,6] (.seq (.reg [0,6,8] [
 ⟨some 7,.next (.t 6),none⟩,⟨some 8,.op (.extract (.t 7) 0),none⟩]) (.seq (.cond (.t 8) (.skip) (.exit 0)) (.block 1 (.seq (.reg [0,4,6] [
 ⟨some 9,.op (.entryM (.t 6)),none⟩,⟨some 10,.op (.extract (.t 9) 1),none⟩,⟨some 4,.op (.alloc [.str ⟨#[]⟩,.int .u64 0,.int .u64 0,.int .u64 0,.int .u64 0]),none⟩,⟨none,.op (.st 5 (.t 4) (.t 10)),none⟩]) (.seq (.reg [0,6,14] [
 ⟨some 11,.op (.mv (.t 0)),none⟩,⟨some 12,.op (.ldn 5 (.t 4)),none⟩,⟨some 13,.call (.t 11) [(.t 12)],none⟩,⟨some 14,.op (.un .not (.t 13)),none⟩]) (.cond (.t 14) (.ret) (.skip)))))))))
theorem cf90 : compF Tryz.prog Tryz.f90 h90 = some (ac90,rs90) := by kernel_rfl
/-! cmp.isNaN[string] params 1 -/
def h91 : Hints := ⟨[(1,[2]),(0,[0])],[],[]⟩
def rs91 : List ARes := [.t 2]
def ac91 : ACode :=
 .seq (.reg [0] [
 ⟨some 2,.op (.mv (.c (.bool false))),none⟩]) (.seq (.reg [2] [
 ⟨some 3,.op (.mv (.t 0)),none⟩,⟨some 4,.op (.mv (.t 0)),none⟩,⟨some 5,.op (.bin .neq (.t 3) (.t 4)),none⟩,⟨some 2,.op (.mv (.t 5)),none⟩]) (.ret))
theorem cf91 : compF Tryz.prog Tryz.f91 h91 = some (ac91,rs91) := by kernel_rfl
/-! mailcoach/mailcoachref03.put params 2 -/
def h92 : Hints := ⟨[(6,[4]),(5,[4]),(4,[0,1,5,31]),(3,[0,1,5]),(2,[0,1,5,17]),(1,[0,1,5]),(0,[0,1])],[(2,[0,1,5])],[(6,[(0,[]),(1,[]),(2,[]),(3,[]),(5,[]),(6,[]),(8,[]),(9,[]),(10,[]),(4,[8]),(7,[8]),(11,[]),(12,[])])]⟩
def rs92 : List ARes := [.t 4]
def ac92 : ACode :=
 .seq (.reg [0,1] [
 ⟨some 4,.op (.mv (.c (.nilsl))),none⟩]) (.seq (.reg [0,1,5] [
 ⟨some 5,.op (.mv (.c (.int .i64 0))),none⟩]) (.seq (.block 0 (.loop [0,1,5] (.seq (.seq (.reg [0,1,5,17] [
 ⟨some 6,.op (.mv (.t 5)),none⟩,⟨some 7,.op (.mv (.t 0)),none⟩,⟨some 8,.op (.len 1 (.t 7)),none⟩,⟨some 9,.op (.bin .lss (.t 6) (.t 8)),none⟩,⟨some 10,.op (.mv (.t 9)),none⟩,⟨some 11,.op (.mv (.t 0)),some (10,true)⟩,⟨some 12,.op (.mv (.t 5)),some (10,true)⟩,⟨some 13,.op (.idxAddr 1 (.t 11) (.t 12)),some (10,true)⟩,⟨some 14,.op (.ld1 (.t 13)),some (10,true)⟩,⟨some 15,.op (.mv (.t 1)),some (10,true)⟩,⟨some 16,.op (.bin .lss (.t 14) (.t 15)),some (10,true)⟩,⟨some 17,.pick (.t 10) (.t 16) (.c (.bool false)),none⟩]) (.cond (.t 17) (.skip) (.exit 0))) (.block 1 (.reg [0,1,5] [
 ⟨some 18,.op (.mv (.t 5)),none⟩,⟨some 19,.op (.bin .add (.t 18) (.c (.int .i64 1))),none⟩,⟨some 5,.op (.mv (.t 19)),none⟩]))))) (.seq (.seq (.reg [0,1,5,31] [
 ⟨some 20,.op (.mv (.t 5)),none⟩,⟨some 21,.op (.mv (.t 0)),none⟩,⟨some 22,.op (.len 1 (.t 21)),none⟩,⟨some 23,.op (.bin .lss (.t 20) (.t 22)),none⟩,⟨some 24,.op (.mv (.t 23)),none⟩,⟨some 25,.op (.mv (.t 0)),some (24,true)⟩,⟨some 26,.op (.mv (.t 5)),some (24,true)⟩,⟨some 27,.op (.idxAddr 1 (.t 25) (.t 26)),some (24,true)⟩,⟨some 28,.op (.ld1 (.t 27)),some (24,true)⟩,⟨some 29,.op (.mv (.t 1)),some (24,true)⟩,⟨some 30,.op (.bin .eql (.t 28) (.t 29)),some (24,true)⟩,⟨some 31,.pick (.t 24) (.t 30) (.c (.bool false)),none⟩]) (.cond (.t 31) (.seq (.reg [4] [
 ⟨some 32,.op (.mv (.t 0)),none⟩,⟨some 4,.op (.mv (.t 32)),none⟩]) (.ret)) (.skip))) (.seq (.dreg [4] [
 (⟨some 33,.op (.buildSl 1 [.int .u64 0] 0 []),none⟩,[]),(⟨some 34,.op (.mv (.t 0)),none⟩,[]),(⟨some 35,.op (.mv (.t 5)),none⟩,[]),(⟨some 36,.op (.slice 1 (.t 34) none (some (.t 35)) none),none⟩,[]),(⟨some 38,.op (.mv (.t 1)),none⟩,[]),(⟨some 39,.op (.buildSl 1 [.int .u64 0] 1 [(0,(.t 38))]),none⟩,[]),(⟨some 41,.op (.mv (.t 0)),none⟩,[]),(⟨some 42,.op (.mv (.t 5)),none⟩,[]),(⟨some 43,.op (.slice 1 (.t 41) (some (.t 42)) none none),none⟩,[]),(⟨some 37,.op (.append 1 8 (.t 33) (.t 36)),none⟩,[8]),(⟨some 40,.op (.append 1 8 (.t 37) (.t 39)),none⟩,[8]),(⟨some 44,.op (.append 1 8 (.t 40) (.t 43)),none⟩,[]),(⟨some 4,.op (.mv (.t 44)),none⟩,[])]) (.ret)))))
theorem cf92 : compF Tryz.prog Tryz.f92 h92 = some (ac92,rs92) := by kernel_rfl
/-! cmp.Or[int] params 1 -/
def h93 : Hints := ⟨[(8,[2]),(7,[3,6,7,8]),(6,[2]),(5,[3,5,6,7,8,14]),(4,[3,5,6,7,8]),(3,[3,6,7,8,9]),(2,[3,6,7,8]),(1,[0,3]),(0,[0])],[(3,[3,6,7,8])],[]⟩
def rs93 : List ARes := [.t 2]
def ac93 : ACode :=
 .seq (.reg [0] [
 ⟨some 2,.op (.mv (.c (.int .i64 0))),none⟩]) (.seq (.reg [0,3] [
 ⟨some 3,.op (.mv (.c (.int .i64 0))),none⟩]) (.seq (.seq (.reg [3,6,7,8] [
 ⟨some 6,.op (.mv (.t 0)),none⟩,⟨some 7,.op (.len 1 (.t 6)),none⟩,⟨some 8,.op (.mv (.c (.int .i64 0))),none⟩]) (.block 0 (.loop [3,6,7,8] (.seq (.reg [3,6,7,8,9] [
 ⟨some 9,.op (.bin .lss (.t 8) (.t 7)),none⟩]) (.seq (.cond (.t 9) (.skip) (.exit 0)) (.seq (.block 1 (.seq (.reg [3,5,6,7,8] [
 ⟨some 10,.op (.idxAddr 1 (.t 6) (.t 8)),none⟩,⟨some 11,.op (.ld1 (.t 10)),none⟩,⟨some 5,.op (.mv (.t 11)),none⟩]) (.seq (.reg [3,5,6,7,8,14] [
 ⟨some 12,.op (.mv (.t 5)),none⟩,⟨some 13,.op (.mv (.t 3)),none⟩,⟨some 14,.op (.bin .neq (.t 12) (.t 13)),none⟩]) (.cond (.t 14) (.seq (.reg [2] [
 ⟨some 15,.op (.mv (.t 5)),none⟩,⟨some 2,.op (.mv (.t 15)),none⟩]) (.ret)) (.skip))))) (.reg [3,6,7,8] [
 ⟨some 16,.op (.bin .add (.t 8) (.c (.int .i64 1))),none⟩,⟨some 8,.op (.mv (.t 16)),none⟩]))))))) (.seq (.reg [2] [
 ⟨some 17,.op (.mv (.t 3)),none⟩,⟨some 2,.op (.mv (.t 17)),none⟩]) (.ret))))
theorem cf93 : compF Tryz.prog Tryz.f93 h93 = some (ac93,rs93) := by kernel_rfl
/-! cmp.Compare[uint64] params 2 -/
def h94 : Hints := ⟨[(13,[4]),(12,[4]),(11,[19]),(10,[4]),(9,[0,1,16]),(8,[4]),(7,[0,1,13]),(6,[4]),(5,[4]),(4,[12]),(3,[0,1,6,11]),(2,[0,1,5,6]),(1,[0,1,5]),(0,[0,1])],[],[]⟩
def rs94 : List ARes := [.t 4]
def ac94 : ACode :=
 .seq (.reg [0,1] [
 ⟨some 4,.op (.mv (.c (.int .i64 0))),none⟩]) (.seq (.reg [0,1,5] [
 ⟨some 7,.op (.mv (.t 0)),none⟩,⟨some 8,.call (.c (.fn 98 [] [])) [(.t 7)],none⟩,⟨some 5,.op (.mv (.t 8)),none⟩]) (.seq (.reg [0,1,5,6] [
 ⟨some 9,.op (.mv (.t 1)),none⟩,⟨some 10,.call (.c (.fn 98 [] [])) [(.t 9)],none⟩,⟨some 6,.op (.mv (.t 10)),none⟩]) (.seq (.seq (.reg [0,1,6,11] [
 ⟨some 11,.op (.mv (.t 5)),none⟩]) (.cond (.t 11) (.seq (.seq (.reg [12] [
 ⟨some 12,.op (.mv (.t 6)),none⟩]) (.cond (.t 12) (.seq (.reg [4] [
 ⟨some 4,.op (.mv (.c (.int .i64 0))),none⟩]) (.ret)) (.skip))) (.seq (.reg [4] [
 ⟨some 4,.op (.mv (.c (.int .i64 (-1)))),none⟩]) (.ret))) (.skip))) (.seq (.seq (.reg [0,1,13] [
 ⟨some 13,.op (.mv (.t 6)),none⟩]) (.cond (.t 13) (.seq (.reg [4] [
 ⟨some 4,.op (.mv (.c (.int .i64 1))),none⟩]) (.ret)) (.skip))) (.seq (.seq (.reg [0,1,16] [
 ⟨some 14,.op (.mv (.t 0)),none⟩,⟨some 15,.op (.mv (.t 1)),none⟩,⟨some 16,.op (.bin .lss (.t 14) (.t 15)),none⟩]) (.cond (.t 16) (.seq (.reg [4] [
 ⟨some 4,.op (.mv (.c (.int .i64 (-1)))),none⟩]) (.ret)) (.skip))) (.seq (.seq (.reg [19] [
 ⟨some 17,.op (.mv (.t 0)),none⟩,⟨some 18,.op (.mv (.t 1)),none⟩,⟨some 19,.op (.bin .gtr (.t 17) (.t 18)),none⟩]) (.cond (.t 19) (.seq (.reg [4] [
 ⟨some 4,.op (.mv (.c (.int .i64 1))),none⟩]) (.ret)) (.skip))) (.seq (.reg [4] [
 ⟨some 4,.op (.mv (.c (.int .i64 0))),none⟩]) (.ret))))))))
theorem cf94 : compF Tryz.prog Tryz.f94 h94 = some (ac94,rs94) := by kernel_rfl
/-! slices.AppendSeq[[]mailcoach/api.Line,mailcoach/api.Line] params 2 -/
def h95 : Hints := ⟨[(4,[4]),(3,[2]),(2,[2,5]),(1,[2,6]),(0,[1,2])],[],[]⟩
def rs95 : List ARes := [.t 4]
def ac95 : ACode :=
 .seq (.reg [1,2] [
 ⟨some 2,.op (.box (.t 0)),none⟩,⟨some 4,.op (.mv (.c (.nilsl))),none⟩]) (.seq (.seq (.reg [2,6] [
 ⟨some 6,.op (.mv (.t 1)),none⟩]) (.block 0 (.rangef (.t 6) [7] (.reg [2,5] [
 ⟨some 5,.op (.alloc [.str ⟨#[]⟩,.int .u64 0,.int .u64 0,.int .u64 0,.int .u64 0]),none⟩,⟨none,.op (.st 5 (.t 5) (.t 7)),none⟩]) (.block 1 (.reg [2] [
 ⟨some 8,.op (.ld1 (.t 2)),none⟩,⟨some 9,.op (.ldn 5 (.t 5)),none⟩,⟨some 10,.op (.buildSl 5 [.str ⟨#[]⟩,.int .u64 0,.int .u64 0,.int .u64 0,.int .u64 0] 1 [(0,(.t 9))]),none⟩,⟨some 11,.op (.append 5 48 (.t 8) (.t 10)),none⟩,⟨none,.op (.st 1 (.t 2) (.t 11)),none⟩]))))) (.seq (.reg [4] [
 ⟨some 12,.op (.ld1 (.t 2)),none⟩,⟨some 4,.op (.mv (.t 12)),none⟩]) (.ret)))
theorem cf95 : compF Tryz.prog Tryz.f95 h95 = some (ac95,rs95) := by kernel_rfl
/-! cmp.isNaN[uint64] params 1 -/
def h98 : Hints := ⟨[(1,[2]),(0,[0])],[],[]⟩
def rs98 : List ARes := [.t 2]
def ac98 : ACode :=
 .seq (.reg [0] [
 ⟨some 2,.op (.mv (.c (.bool false))),none⟩]) (.seq (.reg [2] [
 ⟨some 3,.op (.mv (.t 0)),none⟩,⟨some 4,.op (.mv (.t 0)),none⟩,⟨some 5,.op (.bin .neq (.t 3) (.t 4)),none⟩,⟨some 2,.op (.mv (.t 5)),none⟩]) (.ret))
theorem cf98 : compF Tryz.prog Tryz.f98 h98 = some (ac98,rs98) := by kernel_rfl

end Go.Proofs.YticefdfhcahlfaaGreatDoor.AM
