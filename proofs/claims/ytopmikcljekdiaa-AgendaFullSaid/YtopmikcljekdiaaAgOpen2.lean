/- A law's argument that is an event, opened. -/
import Derived.Test.YtopmikcljekdiaaAgOpen
import Derived.Lib.SmallJoins
namespace Go.Proofs.Ytopmikcljekdiaa.Ag
open Go.Joins Go.RowKit Go.Proofs.YtopmikcljekdiaaW.PrintWords Go.Proofs.Ytopmikcljekdiaa.PA Go.ChangeShapes Go.WideShapes Go.Deep
section
variable {H : Type} {enc : TypeId × Value → H} {w : World} {base : Nat} {spare : Nat → Bool} {held : Bool}
theorem open_event_val {r : Reach} {b0 : Nat} {v : Value} {d : DataW H} {p : List MemPlace} (hv : Value.okWide Try.prog w r b0 31 v) (h : DataW.Trod enc Try.prog w base spare held 31 v d p) : ∃ x : S31, v = ag31 x ∧ wf31 x := by
  obtain ⟨cs, rfl, hsz⟩ := okWide_struct Try.underlying31 hv
  obtain ⟨fuel, hf⟩ := h
  obtain ⟨x, hx, hw⟩ := open_event hf
  refine ⟨x, ?_, hw⟩
  have h1 : cs.toList = enc31 x := hx
  have h2 : cs = (enc31 x).toArray := by rw [← h1]
  rw [h2]
  rfl
end
end Go.Proofs.Ytopmikcljekdiaa.Ag
