/-
  Four kinds of proofs by default.
-/
import Derived.WalkKit
namespace Go.Proofs.YtmbndhciflilbaaGreatDoor
theorem ω {p:Prop} (h:p:=by omega):p:=h
theorem κ {p:Prop} (h:p:=by kernel_rfl):p:=h
theorem μ {p:Prop} (h:p:=by simp):p:=h
theorem ν {p:Prop} (h:p:=by decide):p:=h
end Go.Proofs.YtmbndhciflilbaaGreatDoor
