/- The law MailNil of the machine: from any numbers its call answers true. Own work. -/
import Derived.Test.YtgbkpiaonlabgaaCMailNil
import Derived.Test.YtgbkpiaonlabgaaAmOc
namespace Go.Proofs.Ytgbkpiaonlabgaa
open Go Go.Am
theorem law_mailNil : ∀ xs, TyAs [(.agg [(.int .i64), (.int .i64), (.agg [(.int .i64), (.int .i64), (.int .i64)])]), (.int .i64), (.int .i64)] .empty xs → ACalls F 8 xs .empty fun v _ => v = .bool true := by
  intro xs ht
  simp only [TyAs, TyA, TyCs, TyC] at ht
  obtain ⟨_, _, rfl, ⟨_, rfl, _, _, rfl, ⟨m0, rfl, _⟩, _, _, rfl, ⟨m1, rfl, _⟩, _, _, rfl, ⟨_, _, rfl, ⟨m2, rfl, _⟩, _, _, rfl, ⟨m3, rfl, _⟩, _, _, rfl, ⟨m4, rfl, _⟩, rfl⟩, rfl⟩, _, _, rfl, ⟨_, hx, _⟩, _, _, rfl, ⟨_, hy, _⟩, rfl⟩ := ht
  cases hx
  cases hy
  exact acalls_run 300 (by kernel_rfl)
end Go.Proofs.Ytgbkpiaonlabgaa
