/- The methods of *queue, as heap.Interface calls them. -/
import Derived.Test.YtopmikcljekdiaaAgSwap
namespace Go.Proofs.Ytopmikcljekdiaa.Ag
open Go.RowKit
theorem find_less : (Array.find? (fun x => x.name == "Less") Try.t79.methods).map (fun m => (m.path, m.func)) = some (#[], some (85, false)) := by kernel_rfl
theorem find_swap : (Array.find? (fun x => x.name == "Swap") Try.t79.methods).map (fun m => (m.path, m.func)) = some (#[], some (86, false)) := by kernel_rfl
theorem find_len : (Array.find? (fun x => x.name == "Len") Try.t79.methods).map (fun m => (m.path, m.func)) = some (#[], some (84, false)) := by kernel_rfl
theorem find_parts {α β γ : Type} {o : Option α} {f : α → β} {g : α → γ} {b : β} {c : γ} (h : o.map (fun m => (f m, g m)) = some (b, c)) : ∃ m, o = some m ∧ f m = b ∧ g m = c := by
  obtain ⟨m, h1, h2⟩ := Option.map_eq_some_iff.1 h
  simp only [Prod.mk.injEq] at h2
  exact ⟨m, h1, h2.1, h2.2⟩
theorem meth_push (a : Addr) (w : World) : (method 220 79 (.pointer (some a)) "Push").run Try.prog w = .ok (88, .pointer (some a)) w := by kernel_rfl
theorem meth_pop (a : Addr) (w : World) : (method 220 79 (.pointer (some a)) "Pop").run Try.prog w = .ok (87, .pointer (some a)) w := by kernel_rfl
theorem wrapNil (a : Addr) (s : String) (w : World) : (Builtin.ssaWrapNilChk_ #[79] 79 #[.pointer (some a), strVal "", strVal s]).run Try.prog w = .ok (.pointer (some a)) w := by kernel_rfl
theorem meth_less {a : Addr} {w : World} {A : Option Addr} {n c : Nat} (h : w.cell? a = some (.slice A n c)) : (method 220 79 (.pointer (some a)) "Less").run Try.prog w = .ok (85, .slice A n c) w := by
  obtain ⟨m, hm, hp, hf⟩ := find_parts find_less
  unfold method
  go_simp
  have hw := fun s => wrapNil a s w
  simp [follow, receiverAt, Place.get]
  go_simp
theorem meth_swap {a : Addr} {w : World} {A : Option Addr} {n c : Nat} (h : w.cell? a = some (.slice A n c)) : (method 220 79 (.pointer (some a)) "Swap").run Try.prog w = .ok (86, .slice A n c) w := by
  obtain ⟨m, hm, hp, hf⟩ := find_parts find_swap
  unfold method
  go_simp
  have hw := fun s => wrapNil a s w
  simp [follow, receiverAt, Place.get]
  go_simp
theorem meth_len {a : Addr} {w : World} {A : Option Addr} {n c : Nat} (h : w.cell? a = some (.slice A n c)) : (method 220 79 (.pointer (some a)) "Len").run Try.prog w = .ok (84, .slice A n c) w := by
  obtain ⟨m, hm, hp, hf⟩ := find_parts find_len
  unfold method
  go_simp
  have hw := fun s => wrapNil a s w
  simp [follow, receiverAt, Place.get]
  go_simp
end Go.Proofs.Ytopmikcljekdiaa.Ag
