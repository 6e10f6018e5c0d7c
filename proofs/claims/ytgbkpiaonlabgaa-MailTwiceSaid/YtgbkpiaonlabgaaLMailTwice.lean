/- The law MailTwice: its pure function answers true, whatever it is called with; so does the machine's function. No condition. Own work. -/
import Derived.Test.YtgbkpiaonlabgaaPMailTwice
import Derived.Test.YtgbkpiaonlabgaaPm2
import Derived.Test.YtgbkpiaonlabgaaPm1
/- The box of mails, plainly. Own work. -/
namespace Go.Proofs.Ytgbkpiaonlabgaa
open Go Go.Am
set_option linter.unusedVariables false
set_option linter.unusedSimpArgs false
/-- A loop that is told how many rounds are left. -/
theorem loop_cnt {τ ρ : Type} {f : τ → Option (τ ⊕ ρ)} (n : Nat) (I : Nat → τ → Prop) (Q : ρ → Prop)
    (step : ∀ k s, k < n → I k s → (∃ s', f s = some (.inl s') ∧ I (k + 1) s') ∨ ∃ r, f s = some (.inr r) ∧ Q r)
    (done : ∀ s, I n s → ∃ r, f s = some (.inr r) ∧ Q r) {s : τ} (h0 : I 0 s) : ∃ r, loopC f s = some r ∧ Q r := by
  suffices key : ∀ d k s, k + d = n → I k s → ∃ r, iter f (d + 1) s = some r ∧ Q r by
    obtain ⟨r, h1, h2⟩ := key n 0 s (by omega) h0
    exact ⟨r, loopC_iff.2 ⟨_, h1⟩, h2⟩
  intro d
  induction d with
  | zero =>
    intro k s hk hI
    obtain rfl : k = n := by omega
    obtain ⟨r, h1, h2⟩ := done s hI
    exact ⟨r, by simp only [iter, h1], h2⟩
  | succ d ih =>
    intro k s hk hI
    rcases step k s (by omega) hI with ⟨s', h1, h2⟩ | ⟨r, h1, h2⟩
    · obtain ⟨r, h3, h4⟩ := ih (k + 1) s' (by omega) h2
      exact ⟨r, by rw [iter]; simp only [h1]; exact h3, h4⟩
    · exact ⟨r, by rw [iter]; simp only [h1], h2⟩
/-- A lane from f to t. -/
def lanB (f t : Int) (x : TLane) : Bool := decide (x.From = f) && decide (x.To = t)
/-- Where the first lane from f to t stands. -/
def fi (L : List TLane) (f t : Int) : Nat := L.findIdx (lanB f t)
theorem p51_eq (x : TLane) (f t : Int) : p51 x f t = some (lanB f t x) := by
  unfold p51 p51_j0 lanB
  split <;> rename_i h <;> simp [h]
theorem idx_step {α : Type} {g : α → Bool} {L : List α} {k : Nat} (hk : k < L.length) (h : k ≤ L.findIdx g) : g L[k] = true ↔ L.findIdx g = k := by
  constructor
  · intro hg
    rcases Nat.lt_or_ge k (L.findIdx g) with h1 | h1
    · have := List.not_of_lt_findIdx h1
      rw [hg] at this; cases this
    · omega
  · intro e
    have h1 : L.findIdx g < L.length := by omega
    have := List.findIdx_getElem (w := h1)
    simpa [e] using this
theorem p37_eq {L : List TLane} (hL : L.length ≤ 1000000) (f t : Int) : p37 L f t = some (if fi L f t < L.length then (fi L f t : Int) else -1) := by
  have key : ∃ r, loopC (p50_l0 L (fun y0 => p51 y0 f t)) (0 : Int) = some r ∧ (match r with | .inl y => fi L f t < L.length ∧ y = (fi L f t : Int) | .inr _ => ¬ fi L f t < L.length) := by
    refine loop_up0 L.length (by omega) (fun k => k ≤ fi L f t) _ ?_ ?_ (Nat.zero_le _)
    · intro k hk hI
      unfold p50_l0
      rw [if_pos (by omega), idx_get hk]
      simp only [Option.bind_some, p51_eq]
      have hs := idx_step (g := lanB f t) hk hI
      by_cases hg : lanB f t L[k] = true
      · rw [if_pos hg]
        refine .inr ⟨_, rfl, ?_⟩
        have e : fi L f t = k := hs.1 hg
        simp only
        omega
      · rw [if_neg hg]
        refine .inl ⟨rfl, ?_⟩
        have e : fi L f t ≠ k := fun e => hg (hs.2 e)
        omega
    · intro hI
      unfold p50_l0
      rw [if_neg (by omega)]
      exact ⟨_, rfl, by simp only; omega⟩
  obtain ⟨r, h1, h2⟩ := key
  unfold p37 p50
  rw [h1]
  simp only [Option.bind_some]
  rcases r with y | y
  · simp only [Option.bind_some]
    rw [if_pos h2.1, h2.2]
  · simp only [Option.bind_some]
    rw [if_neg h2]
/-- A box that holds together. -/
def BoxOk (B : TBox) : Prop := B.l.length = B.lanes.length ∧ B.lanes.length ≤ 1000000
theorem p26_eq {L : List TLane} (hL : L.length ≤ 1000000) : p26 L = some (some ⟨L, List.replicate L.length [], 0⟩) := by
  unfold p26
  rw [app_ok (by simp; omega)]
  simp only [Option.bind_some, List.nil_append]
  rw [mkS_ok (by omega) (by omega)]
  simp
theorem p29_none {B : TBox} (h : BoxOk B) {f t : Int} (hn : ¬ fi B.lanes f t < B.lanes.length) : p29 (some B) f t = some 0 := by
  unfold p29
  simp only [Option.isNone_some, Bool.false_eq_true, if_false, Option.bind_some]
  rw [p37_eq h.2, if_neg hn]
  rfl
theorem p29_some {B : TBox} (h : BoxOk B) {f t : Int} {q : List TEvent} (hq : B.l[fi B.lanes f t]? = some q) : p29 (some B) f t = some (q.length : Int) := by
  have hn : fi B.lanes f t < B.lanes.length := by
    have := (List.getElem?_eq_some_iff.1 hq).1
    have := h.1; omega
  unfold p29
  simp only [Option.isNone_some, Bool.false_eq_true, if_false, Option.bind_some]
  rw [p37_eq h.2, if_pos hn]
  simp only [Option.bind_some]
  unfold p29_j0
  rw [if_neg (by simp)]
  simp only [Option.bind_some]
  rw [p37_eq h.2, if_pos hn]
  simp only [Option.bind_some]
  rw [idx_ok hq]; rfl
theorem p27_none {B : TBox} (h : BoxOk B) {m : TMail} (hn : ¬ fi B.lanes m.From m.To < B.lanes.length) : p27 (some B) m = some (false, some B) := by
  unfold p27
  simp only [Option.isNone_some, Bool.false_eq_true, if_false, Option.bind_some]
  rw [p37_eq h.2, if_neg hn]
  rfl
theorem p27_some {B : TBox} (h : BoxOk B) {m : TMail} {q : List TEvent} (hq : B.l[fi B.lanes m.From m.To]? = some q) (hl : q.length ≤ 1000000) :
    p27 (some B) m = some (true, some ⟨B.lanes, B.l.set (fi B.lanes m.From m.To) (q ++ [m.E]), IntKind.wrap .i64 (B.sent + 1)⟩) := by
  have hn : fi B.lanes m.From m.To < B.lanes.length := by
    have := (List.getElem?_eq_some_iff.1 hq).1
    have := h.1; omega
  unfold p27
  simp only [Option.isNone_some, Bool.false_eq_true, if_false, Option.bind_some]
  rw [p37_eq h.2, if_pos hn]
  simp only [Option.bind_some]
  unfold p27_j0
  rw [if_neg (by simp)]
  simp only [Option.bind_some]
  rw [p37_eq h.2, if_pos hn]
  simp only [Option.bind_some]
  rw [idx_ok hq]
  simp only [Option.bind_some]
  rw [app_ok (by simp; omega)]
  rfl
/-- The mail of nothing. -/
def noMail : TMail := ⟨0, 0, ⟨0, 0, 0⟩⟩
theorem p28_none {B : TBox} (h : BoxOk B) {f t : Int} (hn : ¬ fi B.lanes f t < B.lanes.length) : p28 (some B) f t = some (noMail, false, some B) := by
  unfold p28
  rw [p29_none h hn]
  rfl
theorem p28_nil {B : TBox} (h : BoxOk B) {f t : Int} (hq : B.l[fi B.lanes f t]? = some []) : p28 (some B) f t = some (noMail, false, some B) := by
  unfold p28
  rw [p29_some h hq]
  rfl
theorem p28_cons {B : TBox} (h : BoxOk B) {f t : Int} {e : TEvent} {q : List TEvent} (hq : B.l[fi B.lanes f t]? = some (e :: q)) :
    p28 (some B) f t = some (⟨f, t, e⟩, true, some ⟨B.lanes, B.l.set (fi B.lanes f t) q, B.sent⟩) := by
  have hn : fi B.lanes f t < B.lanes.length := by
    have := (List.getElem?_eq_some_iff.1 hq).1
    have := h.1; omega
  unfold p28
  rw [p29_some h hq]
  simp only [Option.bind_some]
  rw [if_neg (by simp; omega)]
  rw [p37_eq h.2, if_pos hn]
  simp only [Option.bind_some]
  rw [idx_ok hq]
  simp only [Option.bind_some]
  rw [show idx (e :: q) 0 = some e from rfl]
  simp only [Option.bind_some]
  have : slc (e :: q) 1 ((e :: q).length : Int) = some q := by
    unfold slc
    rw [if_pos (by simp; omega)]
    simp
  rw [this]
  rfl
theorem p30_eq {B : TBox} (hs : (B.l.map List.length).sum ≤ 1000000) (hl : B.l.length ≤ 1000000) : p30 (some B) = some (((B.l.map List.length).sum : Nat) : Int) := by
  have key : ∃ r, loopC (p30_l0 B) ((0 : Int), (0 : Int)) = some r ∧ r = (((B.l.map List.length).sum : Nat) : Int) := by
    refine loop_cnt B.l.length (fun k (s : Int × Int) => s.2 = (k : Int) ∧ s.1 = ((((B.l.take k).map List.length).sum : Nat) : Int)) _ ?_ ?_ ⟨rfl, by simp⟩
    · rintro k ⟨n, y⟩ hk ⟨e1, e2⟩
      simp only at e1 e2
      subst e1
      have h1 : (B.l.take (k + 1)).map List.length = (B.l.take k).map List.length ++ [B.l[k].length] := by
        rw [List.take_succ_eq_append_getElem hk, List.map_append]; rfl
      have h2 : ((B.l.take (k + 1)).map List.length).sum = ((B.l.take k).map List.length).sum + B.l[k].length := by rw [h1]; simp
      have h3 : ((B.l.take (k + 1)).map List.length).sum ≤ (B.l.map List.length).sum := by
        conv => rhs; rw [← List.take_append_drop (k + 1) B.l, List.map_append, List.sum_append]
        omega
      refine .inl ⟨(IntKind.wrap .i64 (n + (B.l[k].length : Int)), IntKind.wrap .i64 ((k : Int) + 1)), ?_, ?_⟩
      · unfold p30_l0
        simp only
        rw [if_pos (by omega), idx_get hk]
        rfl
      · simp only
        rw [wrap64 (by omega) (by omega), wrap64 (by omega) (by omega)]
        refine ⟨rfl, ?_⟩
        rw [h2, e2]; push_cast; rfl
    · rintro ⟨n, y⟩ ⟨e1, e2⟩
      simp only at e1 e2
      subst e1
      unfold p30_l0
      simp only
      rw [if_neg (by omega)]
      refine ⟨_, rfl, ?_⟩
      rw [e2, List.take_length]
  obtain ⟨r, h1, h2⟩ := key
  unfold p30
  simp only [Option.isNone_some, Bool.false_eq_true, if_false, Option.bind_some]
  rw [h1]
  simp only [Option.bind_some, h2]
theorem p31_eq (B : TBox) : p31 (some B) = some B.sent := by
  unfold p31
  simp
theorem box_set {L : List TLane} {l : List (List TEvent)} {s s' : Int} {i : Nat} {q : List TEvent} (h : BoxOk ⟨L, l, s⟩) : BoxOk ⟨L, l.set i q, s'⟩ := ⟨by simpa using h.1, h.2⟩
/-- The document's example. -/
theorem p24_eq : p24 = some true := by
  unfold p24
  rw [p26_eq (by simp)]
  simp only [Option.bind_some]
  rw [p27_some (q := []) ⟨rfl, by simp⟩ rfl (by simp)]
  simp only [Option.bind_some]
  rw [p27_some (q := [⟨1, 0, 0⟩]) ⟨rfl, by simp⟩ rfl (by simp)]
  simp only [Option.bind_some]
  rw [p28_cons (e := ⟨1, 0, 0⟩) (q := [⟨2, 0, 0⟩]) ⟨rfl, by simp⟩ rfl]
  simp only [Option.bind_some, if_true]
  unfold p24_j1
  simp only [decide_true, if_true]
  rw [p29_some (q := [⟨2, 0, 0⟩]) ⟨rfl, by simp⟩ rfl]
  rfl
end Go.Proofs.Ytgbkpiaonlabgaa

/- MailTwice and MailRows, plainly. Own work. -/
namespace Go.Proofs.Ytgbkpiaonlabgaa
open Go Go.Am
set_option linter.unusedVariables false
set_option linter.unusedSimpArgs false
/-- The lanes of MailTwice. -/
def L3 : List TLane := [⟨1, 2, 1⟩, ⟨1, 2, 9⟩, ⟨2, 1, 0⟩]
theorem p10_true {n : Int} (h0 : 0 ≤ n) (h1 : n ≤ 255) (m : TMail) : p10 n m = some true := by
  have hw : IntKind.wrap .i64 n = n := wrap64 (by omega) (by omega)
  obtain ⟨N, rfl⟩ : ∃ N : Nat, n = (N : Int) := ⟨n.toNat, by omega⟩
  have ok : ∀ q a b s, BoxOk ⟨L3, [q, a, b], s⟩ := fun q a b s => ⟨rfl, by show 3 ≤ _; omega⟩
  obtain ⟨r1, e1, hr1⟩ : ∃ r, loopC (p10_l0 N m) (false, (0 : Int), some ⟨L3, [[], [], []], 0⟩) = some r ∧ r = .inr (false, some ⟨L3, [List.replicate N m.E, [], []], (N : Int)⟩) := by
    refine loop_cnt N (fun k s => s = (false, (k : Int), some ⟨L3, [List.replicate k m.E, [], []], (k : Int)⟩)) _ ?_ ?_ rfl
    · rintro k _ hk rfl
      have e27 : p27 (some ⟨L3, [List.replicate k m.E, [], []], (k : Int)⟩) ⟨1, 2, ⟨m.E.Time, m.E.Place, m.E.N⟩⟩ = some (true, some ⟨L3, [List.replicate k m.E ++ [m.E], [], []], IntKind.wrap .i64 ((k : Int) + 1)⟩) :=
        p27_some (q := List.replicate k m.E) (ok _ _ _ _) rfl (by simp; omega)
      have e29 := p29_some (B := ⟨L3, [List.replicate k m.E ++ [m.E], [], []], IntKind.wrap .i64 ((k : Int) + 1)⟩) (f := 1) (t := 2) (ok _ _ _ _) (q := List.replicate k m.E ++ [m.E]) rfl
      have e29' := p29_some (B := ⟨L3, [List.replicate k m.E ++ [m.E], [], []], IntKind.wrap .i64 ((k : Int) + 1)⟩) (f := 2) (t := 1) (ok _ _ _ _) (q := []) rfl
      refine .inl ⟨_, ?_, rfl⟩
      unfold p10_l0
      simp only
      rw [hw, if_pos (by omega), e27]
      simp only [Option.bind_some]
      rw [if_neg (by simp), e29]
      simp only [Option.bind_some]
      rw [wrap64 (by omega) (by omega)]
      have : ((List.replicate k m.E ++ [m.E]).length : Int) = (k : Int) + 1 := by simp
      rw [this]
      simp only [decide_true, Bool.not_true]
      unfold p10_j1
      rw [if_neg (by simp), wrap64 (by omega) (by omega)] at *
      rw [e29']
      simp only [Option.bind_some]
      unfold p10_j0
      rw [if_neg (by simp), wrap64 (by omega) (by omega), List.replicate_succ']
      rfl
    · rintro _ rfl
      unfold p10_l0
      simp only
      rw [hw, if_neg (by omega)]
      exact ⟨_, rfl, rfl⟩
  obtain ⟨r2, e2, hr2⟩ : ∃ r, loopC (p10_l1 N m) ((0 : Int), some ⟨L3, [List.replicate N m.E, [], []], (N : Int)⟩) = some r ∧ r = .inr (some ⟨L3, [[], [], []], (N : Int)⟩) := by
    refine loop_cnt N (fun k s => s = ((k : Int), some ⟨L3, [List.replicate (N - k) m.E, [], []], (N : Int)⟩)) _ ?_ ?_ rfl
    · rintro k _ hk rfl
      obtain ⟨d, hd⟩ : ∃ d, N - k = d + 1 := ⟨N - k - 1, by omega⟩
      have e28 := p28_cons (B := ⟨L3, [List.replicate (d + 1) m.E, [], []], (N : Int)⟩) (f := 1) (t := 2) (ok _ _ _ _) (e := m.E) (q := List.replicate d m.E) rfl
      refine .inl ⟨_, ?_, rfl⟩
      unfold p10_l1
      simp only
      rw [hw, if_pos (by omega), hd, e28]
      simp only [Option.bind_some]
      rw [if_neg (by simp)]
      unfold p10_j2
      simp only [decide_true, Bool.and_self, Bool.not_true, Bool.false_eq_true, if_false]
      rw [wrap64 (by omega) (by omega), show N - (k + 1) = d by omega]
      rfl
    · rintro _ rfl
      unfold p10_l1
      simp only
      rw [hw, if_neg (by omega), Nat.sub_self]
      exact ⟨_, rfl, rfl⟩
  subst hr1 hr2
  unfold p10
  rw [p26_eq (by simp)]
  simp only [Option.bind_some]
  rw [show ((some ⟨[⟨1, 2, 1⟩, ⟨1, 2, 9⟩, ⟨2, 1, 0⟩], List.replicate [(⟨1, 2, 1⟩ : TLane), ⟨1, 2, 9⟩, ⟨2, 1, 0⟩].length [], 0⟩ : Option TBox)) = some ⟨L3, [[], [], []], 0⟩ from rfl, e1]
  simp only [Option.bind_some]
  rw [e2]
  simp only [Option.bind_some, p24_eq, if_true]
  rw [p30_eq (by simp) (by simp)]
  simp only [Option.bind_some]
  unfold p10_j4
  rw [if_pos (by simp), p31_eq]
  simp only [Option.bind_some, hw, decide_true]
  rfl
end Go.Proofs.Ytgbkpiaonlabgaa

/- The law MailTwice of the machine: whatever it is called with, it answers true. Own work. -/
namespace Go.Proofs.Ytgbkpiaonlabgaa
open Go Go.Am
set_option linter.unusedVariables false
set_option linter.unusedSimpArgs false
theorem wf8 {n : Int} (h : (Lit.int .u8 n).wf = true) : 0 ≤ n ∧ n ≤ 255 := by
  simp only [Lit.wf, Bool.and_eq_true, decide_eq_true_eq] at h
  exact h
theorem law_mailTwice : ∀ h xs, TyAs [(.int .u8), (.agg [(.int .i64), (.int .i64), (.agg [(.int .i64), (.int .i64), (.int .i64)])])] h xs → ACalls F 10 xs h fun v _ => v = .bool true := by
  intro h xs ht
  obtain ⟨a, b, rfl, ⟨n1, e1, w1⟩, c, d, rfl, h1, h4⟩ := ht
  simp only [TyAs] at h4
  subst h4
  cases e1
  obtain ⟨cs, rfl, h1⟩ := h1
  simp only [TyCs, TyC] at h1
  obtain ⟨_, _, rfl, ⟨m1, rfl, _⟩, _, _, rfl, ⟨m2, rfl, _⟩, _, _, rfl, h2, rfl⟩ := h1
  obtain ⟨_, _, rfl, ⟨m3, rfl, _⟩, _, _, rfl, ⟨m4, rfl, _⟩, _, _, rfl, ⟨m5, rfl, _⟩, rfl⟩ := h2
  exact (r10 (x1 := ⟨m1, m2, ⟨m3, m4, m5⟩⟩) (p10_true (wf8 w1).1 (wf8 w1).2 _)).val fun v h' hq => hq.1
end Go.Proofs.Ytgbkpiaonlabgaa
