/- Any bytes as a topic. -/
import Derived.Test.YticefdfhcahlfaaGreatDoorCtxx221
import Derived.Test.YticefdfhcahlfaaGreatDoorCt221
import Derived.Test.YticefdfhcahlfaaGreatDoorOkCodecReads
namespace Go.Proofs.YticefdfhcahlfaaGreatDoor.AM
open Go.RowKit
set_option maxRecDepth 100000
set_option linter.unusedVariables false
set_option linter.unusedSimpArgs false

open OkCodecReads in
theorem lawCodecReads (a0:AVal) (o0:ok22 [a0]) (us1:List AVal) (o1:ok28 us1) (a2:AVal) (o2:ok22 [a2]) (a3:AVal) (o3:ok4 [a3]) (a4:AVal) (o4:ok29 [a4]) (a5:AVal) (o5:ok22 [a5]):ACall Tryz.prog 3 [a0,.agg us1,a2,a3,a4,a5] σ0 fun v _=>v=.bool true := by
  obtain ⟨ep,last,lv,sv,nv,t,s,cs,T,rfl,h1,h2,h3,h4,h5,h6,h7,h8⟩ := topicArg o1
  obtain ⟨lb,hb,hl⟩ := bytes_arg (fun _ h=>h) o0
  obtain ⟨dl,hd,hdl⟩ := bytes_arg (fun _ h=>h) o2
  obtain ⟨op,e⟩ := o3
  obtain rfl := (List.cons.inj e).1
  obtain ⟨xs,hx⟩ := intsArg o4
  obtain ⟨gl,hg,hgl⟩ := bytes_arg (fun _ h=>h) o5
  exact reads_c h1 h2 h3 h4 h5 h6 h7 h8 hd (by omega) op hb hx hg
end Go.Proofs.YticefdfhcahlfaaGreatDoor.AM
