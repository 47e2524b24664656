/- A list of bools, opened. -/
import Derived.Test.YtcbopdbbcgdkcaaGreatDoorJFrameG
set_option linter.all false
namespace Go.Proofs.YtcbopdbbcgdkcaaGreatDoor
open Go Go.RowKit Go.ChangeShapes Go.WideShapes Go.ChangeAt
theorem opens_bool:Opens Bool 4:=by
 intro H enc w spare held fuel cs x h
 obtain ⟨b,rfl,-⟩:=DataW.trod_bool Tryz.underlying4 h
 exact ⟨rfl,b,rfl⟩
end Go.Proofs.YtcbopdbbcgdkcaaGreatDoor
