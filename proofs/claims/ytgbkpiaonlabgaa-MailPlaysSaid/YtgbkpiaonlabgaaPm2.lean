/- Parts of a heap, what they stand for, and what each operation makes of them. No condition. Own work. -/
import Derived.Test.YtgbkpiaonlabgaaPm1
import Derived.IntWalk
/- Loops that count, and other plain help for the pure functions. Own work. -/
namespace Go.Am
set_option linter.unusedVariables false
set_option linter.unusedSimpArgs false
open Go
theorem wrap64 {n : Int} (h1 : -9223372036854775808 ≤ n) (h2 : n ≤ 9223372036854775807) : IntKind.wrap .i64 n = n := IntWalk.i64_in _ (by omega)
theorem room_of {n b : Nat} (hn : n ≤ 1000000000) (hb : b ≤ 1000) : n * b ≤ roomCells := by
  have : n * b ≤ 1000000000 * 1000 := Nat.mul_le_mul hn hb
  unfold roomCells; omega
theorem app_ok {α : Type} {b : Nat} {l k : List α} (h : l.length + k.length ≤ 1000000000) (hb : b ≤ 1000 := by decide) : app b l k = some (l ++ k) := by
  unfold app; rw [if_pos (room_of h hb)]
theorem mkS_ok {α : Type} {b : Nat} {n : Int} {x : α} (h0 : 0 ≤ n) (h : n ≤ 1000000000) (hb : b ≤ 1000 := by decide) : mkS b n n x = some (List.replicate n.toNat x) := by
  unfold mkS
  have h1 := room_of (n := n.toNat) (b := b) (by omega) hb
  have h2 := room_of (n := n.toNat) (b := 1) (by omega) (by decide)
  have h3 : n * (b : Int) = ((n.toNat * b : Nat) : Int) := by rw [Int.natCast_mul, Int.toNat_of_nonneg h0]
  have h4 : n * (b : Int) ≤ roomCells := by rw [h3]; exact_mod_cast h1
  have h5 : n ≤ (roomCells : Int) := by omega
  exact if_pos ⟨h0, Int.le_refl _, h4, h5⟩
theorem idx_ok {α : Type} {l : List α} {k : Nat} {x : α} (h : l[k]? = some x) : idx l (k : Int) = some x := by
  unfold idx; rw [if_pos (by omega), Int.toNat_natCast]; exact h
theorem idx_get {α : Type} {l : List α} {k : Nat} (h : k < l.length) : idx l (k : Int) = some l[k] := idx_ok (List.getElem?_eq_getElem h)
theorem idx_int {α : Type} {l : List α} {i : Int} (h0 : 0 ≤ i) (h : i < (l.length : Int)) : ∃ x, idx l i = some x ∧ l[i.toNat]? = some x := by
  have hl : i.toNat < l.length := by omega
  refine ⟨l[i.toNat], ?_, List.getElem?_eq_getElem hl⟩
  unfold idx; rw [if_pos h0, List.getElem?_eq_getElem hl]
/-- A loop that counts up, with a state. -/
theorem loop_up {σ ρ : Type} {f : Int × σ → Option ((Int × σ) ⊕ ρ)} (n : Nat) (hn : n ≤ 1000000000) (I : Nat → σ → Prop) (Q : ρ → Prop)
    (step : ∀ k s, k < n → I k s → (∃ s', f ((k : Int), s) = some (.inl (IntKind.wrap .i64 ((k : Int) + 1), s')) ∧ I (k + 1) s') ∨ ∃ r, f ((k : Int), s) = some (.inr r) ∧ Q r)
    (done : ∀ s, I n s → ∃ r, f ((n : Int), s) = some (.inr r) ∧ Q r) {s : σ} (h0 : I 0 s) : ∃ r, loopC f ((0 : Int), s) = some r ∧ Q r := by
  refine loopC_rule (fun p => ∃ k : Nat, p.1 = (k : Int) ∧ k ≤ n ∧ I k p.2) (fun p => n + 1 - p.1.toNat) Q ?_ ⟨0, rfl, Nat.zero_le _, h0⟩
  rintro ⟨i, s⟩ ⟨k, hk, hle, hI⟩
  simp only at hk
  subst hk
  rcases Nat.lt_or_ge k n with hlt | hge
  · rcases step k s hlt hI with ⟨s', h1, h2⟩ | ⟨r, h1, h2⟩
    · refine .inl ⟨_, h1, ⟨k + 1, ?_, hlt, h2⟩, ?_⟩
      · simp only; rw [wrap64 (by omega) (by omega)]; rfl
      · simp only; rw [wrap64 (by omega) (by omega)]; omega
    · exact .inr ⟨r, h1, h2⟩
  · obtain rfl : k = n := by omega
    exact .inr (done s hI)
/-- A loop that counts up, alone. -/
theorem loop_up0 {ρ : Type} {f : Int → Option (Int ⊕ ρ)} (n : Nat) (hn : n ≤ 1000000000) (I : Nat → Prop) (Q : ρ → Prop)
    (step : ∀ k, k < n → I k → (f (k : Int) = some (.inl (IntKind.wrap .i64 ((k : Int) + 1))) ∧ I (k + 1)) ∨ ∃ r, f (k : Int) = some (.inr r) ∧ Q r)
    (done : I n → ∃ r, f (n : Int) = some (.inr r) ∧ Q r) (h0 : I 0) : ∃ r, loopC f (0 : Int) = some r ∧ Q r := by
  refine loopC_rule (fun p => ∃ k : Nat, p = (k : Int) ∧ k ≤ n ∧ I k) (fun p => n + 1 - p.toNat) Q ?_ ⟨0, rfl, Nat.zero_le _, h0⟩
  rintro i ⟨k, rfl, hle, hI⟩
  rcases Nat.lt_or_ge k n with hlt | hge
  · rcases step k hlt hI with ⟨h1, h2⟩ | ⟨r, h1, h2⟩
    · refine .inl ⟨_, h1, ⟨k + 1, ?_, hlt, h2⟩, ?_⟩
      · rw [wrap64 (by omega) (by omega)]; rfl
      · rw [wrap64 (by omega) (by omega)]; omega
    · exact .inr ⟨r, h1, h2⟩
  · obtain rfl : k = n := by omega
    exact .inr (done hI)
theorem catS_ok {a b : List UInt8} (h : a.length + b.length ≤ 1000000000) : catS a b = some (a ++ b) := by
  unfold catS; rw [if_pos (by omega)]
theorem remI_ok {k : IntKind} {a b : Int} (h : b ≠ 0) : remI k a b = some (a.tmod b) := by unfold remI; rw [if_neg h]
/-- One step of a relation, or more. -/
inductive Walk {α : Type} (E : α → α → Prop) : α → α → Prop where
  | one {a b : α} : E a b → Walk E a b
  | step {a b c : α} : Walk E a b → E b c → Walk E a c
theorem Walk.trans {α : Type} {E : α → α → Prop} {a b c : α} (h : Walk E a b) (k : Walk E b c) : Walk E a c := by
  induction k with
  | one e => exact .step h e
  | step _ e ih => exact .step ih e
end Go.Am
