/- The law MailRows: its pure function answers true, whatever it is called with; so does the machine's function. No condition. Own work. -/
import Derived.Test.YtgbkpiaonlabgaaPMailRows
import Derived.Test.YtgbkpiaonlabgaaPm2
import Derived.Test.YtgbkpiaonlabgaaPm1
/- The box of mails, plainly. Own work. -/
namespace Go.Proofs.Ytgbkpiaonlabgaa
open Go Go.Am
set_option linter.unusedVariables false
set_option linter.unusedSimpArgs false
/-- A loop that is told how many rounds are left. -/
theorem loop_cnt {τ ρ : Type} {f : τ → Option (τ ⊕ ρ)} (n : Nat) (I : Nat → τ → Prop) (Q : ρ → Prop)
    (step : ∀ k s, k < n → I k s → (∃ s', f s = some (.inl s') ∧ I (k + 1) s') ∨ ∃ r, f s = some (.inr r) ∧ Q r)
    (done : ∀ s, I n s → ∃ r, f s = some (.inr r) ∧ Q r) {s : τ} (h0 : I 0 s) : ∃ r, loopC f s = some r ∧ Q r := by
  suffices key : ∀ d k s, k + d = n → I k s → ∃ r, iter f (d + 1) s = some r ∧ Q r by
    obtain ⟨r, h1, h2⟩ := key n 0 s (by omega) h0
    exact ⟨r, loopC_iff.2 ⟨_, h1⟩, h2⟩
  intro d
  induction d with
  | zero =>
    intro k s hk hI
    obtain rfl : k = n := by omega
    obtain ⟨r, h1, h2⟩ := done s hI
    exact ⟨r, by simp only [iter, h1], h2⟩
  | succ d ih =>
    intro k s hk hI
    rcases step k s (by omega) hI with ⟨s', h1, h2⟩ | ⟨r, h1, h2⟩
    · obtain ⟨r, h3, h4⟩ := ih (k + 1) s' (by omega) h2
      exact ⟨r, by rw [iter]; simp only [h1]; exact h3, h4⟩
    · exact ⟨r, by rw [iter]; simp only [h1], h2⟩
/-- A lane from f to t. -/
def lanB (f t : Int) (x : TLane) : Bool := decide (x.From = f) && decide (x.To = t)
/-- Where the first lane from f to t stands. -/
def fi (L : List TLane) (f t : Int) : Nat := L.findIdx (lanB f t)
theorem p51_eq (x : TLane) (f t : Int) : p51 x f t = some (lanB f t x) := by
  unfold p51 p51_j0 lanB
  split <;> rename_i h <;> simp [h]
theorem idx_step {α : Type} {g : α → Bool} {L : List α} {k : Nat} (hk : k < L.length) (h : k ≤ L.findIdx g) : g L[k] = true ↔ L.findIdx g = k := by
  constructor
  · intro hg
    rcases Nat.lt_or_ge k (L.findIdx g) with h1 | h1
    · have := List.not_of_lt_findIdx h1
      rw [hg] at this; cases this
    · omega
  · intro e
    have h1 : L.findIdx g < L.length := by omega
    have := List.findIdx_getElem (w := h1)
    simpa [e] using this
theorem p37_eq {L : List TLane} (hL : L.length ≤ 1000000) (f t : Int) : p37 L f t = some (if fi L f t < L.length then (fi L f t : Int) else -1) := by
  have key : ∃ r, loopC (p50_l0 L (fun y0 => p51 y0 f t)) (0 : Int) = some r ∧ (match r with | .inl y => fi L f t < L.length ∧ y = (fi L f t : Int) | .inr _ => ¬ fi L f t < L.length) := by
    refine loop_up0 L.length (by omega) (fun k => k ≤ fi L f t) _ ?_ ?_ (Nat.zero_le _)
    · intro k hk hI
      unfold p50_l0
      rw [if_pos (by omega), idx_get hk]
      simp only [Option.bind_some, p51_eq]
      have hs := idx_step (g := lanB f t) hk hI
      by_cases hg : lanB f t L[k] = true
      · rw [if_pos hg]
        refine .inr ⟨_, rfl, ?_⟩
        have e : fi L f t = k := hs.1 hg
        simp only
        omega
      · rw [if_neg hg]
        refine .inl ⟨rfl, ?_⟩
        have e : fi L f t ≠ k := fun e => hg (hs.2 e)
        omega
    · intro hI
      unfold p50_l0
      rw [if_neg (by omega)]
      exact ⟨_, rfl, by simp only; omega⟩
  obtain ⟨r, h1, h2⟩ := key
  unfold p37 p50
  rw [h1]
  simp only [Option.bind_some]
  rcases r with y | y
  · simp only [Option.bind_some]
    rw [if_pos h2.1, h2.2]
  · simp only [Option.bind_some]
    rw [if_neg h2]
/-- A box that holds together. -/
def BoxOk (B : TBox) : Prop := B.l.length = B.lanes.length ∧ B.lanes.length ≤ 1000000
theorem p26_eq {L : List TLane} (hL : L.length ≤ 1000000) : p26 L = some (some ⟨L, List.replicate L.length [], 0⟩) := by
  unfold p26
  rw [app_ok (by simp; omega)]
  simp only [Option.bind_some, List.nil_append]
  rw [mkS_ok (by omega) (by omega)]
  simp
theorem p29_none {B : TBox} (h : BoxOk B) {f t : Int} (hn : ¬ fi B.lanes f t < B.lanes.length) : p29 (some B) f t = some 0 := by
  unfold p29
  simp only [Option.isNone_some, Bool.false_eq_true, if_false, Option.bind_some]
  rw [p37_eq h.2, if_neg hn]
  rfl
theorem p29_some {B : TBox} (h : BoxOk B) {f t : Int} {q : List TEvent} (hq : B.l[fi B.lanes f t]? = some q) : p29 (some B) f t = some (q.length : Int) := by
  have hn : fi B.lanes f t < B.lanes.length := by
    have := (List.getElem?_eq_some_iff.1 hq).1
    have := h.1; omega
  unfold p29
  simp only [Option.isNone_some, Bool.false_eq_true, if_false, Option.bind_some]
  rw [p37_eq h.2, if_pos hn]
  simp only [Option.bind_some]
  unfold p29_j0
  rw [if_neg (by simp)]
  simp only [Option.bind_some]
  rw [p37_eq h.2, if_pos hn]
  simp only [Option.bind_some]
  rw [idx_ok hq]; rfl
theorem p27_none {B : TBox} (h : BoxOk B) {m : TMail} (hn : ¬ fi B.lanes m.From m.To < B.lanes.length) : p27 (some B) m = some (false, some B) := by
  unfold p27
  simp only [Option.isNone_some, Bool.false_eq_true, if_false, Option.bind_some]
  rw [p37_eq h.2, if_neg hn]
  rfl
theorem p27_some {B : TBox} (h : BoxOk B) {m : TMail} {q : List TEvent} (hq : B.l[fi B.lanes m.From m.To]? = some q) (hl : q.length ≤ 1000000) :
    p27 (some B) m = some (true, some ⟨B.lanes, B.l.set (fi B.lanes m.From m.To) (q ++ [m.E]), IntKind.wrap .i64 (B.sent + 1)⟩) := by
  have hn : fi B.lanes m.From m.To < B.lanes.length := by
    have := (List.getElem?_eq_some_iff.1 hq).1
    have := h.1; omega
  unfold p27
  simp only [Option.isNone_some, Bool.false_eq_true, if_false, Option.bind_some]
  rw [p37_eq h.2, if_pos hn]
  simp only [Option.bind_some]
  unfold p27_j0
  rw [if_neg (by simp)]
  simp only [Option.bind_some]
  rw [p37_eq h.2, if_pos hn]
  simp only [Option.bind_some]
  rw [idx_ok hq]
  simp only [Option.bind_some]
  rw [app_ok (by simp; omega)]
  rfl
/-- The mail of nothing. -/
def noMail : TMail := ⟨0, 0, ⟨0, 0, 0⟩⟩
theorem p28_none {B : TBox} (h : BoxOk B) {f t : Int} (hn : ¬ fi B.lanes f t < B.lanes.length) : p28 (some B) f t = some (noMail, false, some B) := by
  unfold p28
  rw [p29_none h hn]
  rfl
theorem p28_nil {B : TBox} (h : BoxOk B) {f t : Int} (hq : B.l[fi B.lanes f t]? = some []) : p28 (some B) f t = some (noMail, false, some B) := by
  unfold p28
  rw [p29_some h hq]
  rfl
theorem p28_cons {B : TBox} (h : BoxOk B) {f t : Int} {e : TEvent} {q : List TEvent} (hq : B.l[fi B.lanes f t]? = some (e :: q)) :
    p28 (some B) f t = some (⟨f, t, e⟩, true, some ⟨B.lanes, B.l.set (fi B.lanes f t) q, B.sent⟩) := by
  have hn : fi B.lanes f t < B.lanes.length := by
    have := (List.getElem?_eq_some_iff.1 hq).1
    have := h.1; omega
  unfold p28
  rw [p29_some h hq]
  simp only [Option.bind_some]
  rw [if_neg (by simp; omega)]
  rw [p37_eq h.2, if_pos hn]
  simp only [Option.bind_some]
  rw [idx_ok hq]
  simp only [Option.bind_some]
  rw [show idx (e :: q) 0 = some e from rfl]
  simp only [Option.bind_some]
  have : slc (e :: q) 1 ((e :: q).length : Int) = some q := by
    unfold slc
    rw [if_pos (by simp; omega)]
    simp
  rw [this]
  rfl
theorem p30_eq {B : TBox} (hs : (B.l.map List.length).sum ≤ 1000000) (hl : B.l.length ≤ 1000000) : p30 (some B) = some (((B.l.map List.length).sum : Nat) : Int) := by
  have key : ∃ r, loopC (p30_l0 B) ((0 : Int), (0 : Int)) = some r ∧ r = (((B.l.map List.length).sum : Nat) : Int) := by
    refine loop_cnt B.l.length (fun k (s : Int × Int) => s.2 = (k : Int) ∧ s.1 = ((((B.l.take k).map List.length).sum : Nat) : Int)) _ ?_ ?_ ⟨rfl, by simp⟩
    · rintro k ⟨n, y⟩ hk ⟨e1, e2⟩
      simp only at e1 e2
      subst e1
      have h1 : (B.l.take (k + 1)).map List.length = (B.l.take k).map List.length ++ [B.l[k].length] := by
        rw [List.take_succ_eq_append_getElem hk, List.map_append]; rfl
      have h2 : ((B.l.take (k + 1)).map List.length).sum = ((B.l.take k).map List.length).sum + B.l[k].length := by rw [h1]; simp
      have h3 : ((B.l.take (k + 1)).map List.length).sum ≤ (B.l.map List.length).sum := by
        conv => rhs; rw [← List.take_append_drop (k + 1) B.l, List.map_append, List.sum_append]
        omega
      refine .inl ⟨(IntKind.wrap .i64 (n + (B.l[k].length : Int)), IntKind.wrap .i64 ((k : Int) + 1)), ?_, ?_⟩
      · unfold p30_l0
        simp only
        rw [if_pos (by omega), idx_get hk]
        rfl
      · simp only
        rw [wrap64 (by omega) (by omega), wrap64 (by omega) (by omega)]
        refine ⟨rfl, ?_⟩
        rw [h2, e2]; push_cast; rfl
    · rintro ⟨n, y⟩ ⟨e1, e2⟩
      simp only at e1 e2
      subst e1
      unfold p30_l0
      simp only
      rw [if_neg (by omega)]
      refine ⟨_, rfl, ?_⟩
      rw [e2, List.take_length]
  obtain ⟨r, h1, h2⟩ := key
  unfold p30
  simp only [Option.isNone_some, Bool.false_eq_true, if_false, Option.bind_some]
  rw [h1]
  simp only [Option.bind_some, h2]
theorem p31_eq (B : TBox) : p31 (some B) = some B.sent := by
  unfold p31
  simp
theorem box_set {L : List TLane} {l : List (List TEvent)} {s s' : Int} {i : Nat} {q : List TEvent} (h : BoxOk ⟨L, l, s⟩) : BoxOk ⟨L, l.set i q, s'⟩ := ⟨by simpa using h.1, h.2⟩
/-- The document's example. -/
theorem p24_eq : p24 = some true := by
  unfold p24
  rw [p26_eq (by simp)]
  simp only [Option.bind_some]
  rw [p27_some (q := []) ⟨rfl, by simp⟩ rfl (by simp)]
  simp only [Option.bind_some]
  rw [p27_some (q := [⟨1, 0, 0⟩]) ⟨rfl, by simp⟩ rfl (by simp)]
  simp only [Option.bind_some]
  rw [p28_cons (e := ⟨1, 0, 0⟩) (q := [⟨2, 0, 0⟩]) ⟨rfl, by simp⟩ rfl]
  simp only [Option.bind_some, if_true]
  unfold p24_j1
  simp only [decide_true, if_true]
  rw [p29_some (q := [⟨2, 0, 0⟩]) ⟨rfl, by simp⟩ rfl]
  rfl
end Go.Proofs.Ytgbkpiaonlabgaa

/- MailRows, plainly. Own work. -/
namespace Go.Proofs.Ytgbkpiaonlabgaa
open Go Go.Am
set_option linter.unusedVariables false
set_option linter.unusedSimpArgs false
/-- The lanes of MailRows. -/
def L4 : List TLane := [⟨0, 1, 0⟩, ⟨1, 2, 0⟩, ⟨2, 3, 0⟩, ⟨3, 0, 0⟩]
def ev (n : Nat) : TEvent := ⟨0, 0, (n : Int)⟩
/-- The mails a, .., b - 1. -/
def evs (a b : Nat) : List TEvent := (List.range' a (b - a)).map ev
theorem evs_nil (a : Nat) : evs a a = [] := by unfold evs; simp
theorem evs_snoc {a b : Nat} (h : a ≤ b) : evs a b ++ [ev b] = evs a (b + 1) := by
  unfold evs
  rw [show b + 1 - a = (b - a) + 1 by omega, List.range'_1_concat, List.map_append]
  rw [show a + (b - a) = b by omega]; rfl
theorem evs_cons {a b : Nat} (h : a < b) : evs a b = ev a :: evs (a + 1) b := by
  unfold evs
  rw [show b - a = (b - (a + 1)) + 1 by omega, List.range'_succ]; rfl
theorem evs_len (a b : Nat) : (evs a b).length = b - a := by unfold evs; simp
theorem p9_lanes : loopC p9_l0 ((0 : Int), []) = some L4 := by
  refine loopC_iff.2 ⟨5, ?_⟩
  have h : ∀ (k : Nat) (l : List TLane), k < 4 → l.length ≤ 4 → p9_l0 ((k : Int), l) = some (.inl (((k + 1 : Nat) : Int), l ++ [⟨(k : Int), Int.tmod ((k + 1 : Nat) : Int) 4, 0⟩])) := by
    intro k l hk hl
    unfold p9_l0
    simp only
    rw [if_pos (by omega), app_ok (by simp; omega)]
    simp only [Option.bind_some]
    rw [wrap64 (by omega) (by omega)]
    rfl
  have h0 := h 0 [] (by omega) (by simp)
  have h1 := h 1 [⟨0, 1, 0⟩] (by omega) (by simp)
  have h2 := h 2 [⟨0, 1, 0⟩, ⟨1, 2, 0⟩] (by omega) (by simp)
  have h3 := h 3 [⟨0, 1, 0⟩, ⟨1, 2, 0⟩, ⟨2, 3, 0⟩] (by omega) (by simp)
  have h4 : p9_l0 ((4 : Int), L4) = some (.inr L4) := by
    unfold p9_l0
    simp
  simp only [iter]
  rw [show p9_l0 ((0 : Int), []) = some (.inl (1, [⟨0, 1, 0⟩])) from h0]
  simp only
  rw [show p9_l0 ((1 : Int), [⟨0, 1, 0⟩]) = some (.inl (2, [⟨0, 1, 0⟩, ⟨1, 2, 0⟩])) from h1]
  simp only
  rw [show p9_l0 ((2 : Int), [⟨0, 1, 0⟩, ⟨1, 2, 0⟩]) = some (.inl (3, [⟨0, 1, 0⟩, ⟨1, 2, 0⟩, ⟨2, 3, 0⟩])) from h2]
  simp only
  rw [show p9_l0 ((3 : Int), [⟨0, 1, 0⟩, ⟨1, 2, 0⟩, ⟨2, 3, 0⟩]) = some (.inl (4, L4)) from h3]
  simp only
  rw [h4]
/-- What the box is where s.k mails were sent on lane k and g.k were taken. -/
def box4 (g s : Nat → Nat) (n : Nat) : TBox := ⟨L4, [evs (g 0) (s 0), evs (g 1) (s 1), evs (g 2) (s 2), evs (g 3) (s 3)], (n : Int)⟩
def row4 (s : Nat → Nat) : List Int := [(s 0 : Int), s 1, s 2, s 3]
def up (s : Nat → Nat) (k : Nat) : Nat → Nat := fun j => if j = k then s k + 1 else s j
theorem box4_ok (g s : Nat → Nat) (n : Nat) : BoxOk (box4 g s n) := ⟨rfl, by show 4 ≤ _; omega⟩
theorem row4_idx (s : Nat → Nat) {k : Nat} (hk : k < 4) : idx (row4 s) (k : Int) = some (s k : Int) := by
  rcases k with _ | _ | _ | _ | k
  · rfl
  · rfl
  · rfl
  · rfl
  · omega
theorem row4_set (s : Nat → Nat) {k : Nat} (hk : k < 4) : (row4 s).set k (s k + 1) = row4 (up s k) := by
  rcases k with _ | _ | _ | _ | k
  · simp [row4, up]
  · simp [row4, up]
  · simp [row4, up]
  · simp [row4, up]
  · omega
theorem fi4 {k : Nat} (hk : k < 4) : fi L4 (k : Int) (Int.tmod ((k + 1 : Nat) : Int) 4) = k := by
  rcases k with _ | _ | _ | _ | k
  · rfl
  · rfl
  · rfl
  · rfl
  · omega
theorem up_sum (s : Nat → Nat) {k : Nat} (hk : k < 4) : up s k 0 + up s k 1 + up s k 2 + up s k 3 = s 0 + s 1 + s 2 + s 3 + 1 := by
  rcases k with _ | _ | _ | _ | k
  · simp [up]; omega
  · simp [up]; omega
  · simp [up]; omega
  · simp [up]; omega
  · omega
theorem box4_at (g s : Nat → Nat) (n : Nat) {k : Nat} (hk : k < 4) : (box4 g s n).l[k]? = some (evs (g k) (s k)) := by
  rcases k with _ | _ | _ | _ | k
  · rfl
  · rfl
  · rfl
  · rfl
  · omega
theorem box4_send (g s : Nat → Nat) (n : Nat) {k : Nat} (hk : k < 4) (h : g k ≤ s k) : (box4 g s n).l.set k (evs (g k) (s k) ++ [ev (s k)]) = (box4 g (up s k) (n + 1)).l := by
  rw [evs_snoc h]
  rcases k with _ | _ | _ | _ | k
  · simp [box4, up]
  · simp [box4, up]
  · simp [box4, up]
  · simp [box4, up]
  · omega
theorem box4_take (g s : Nat → Nat) (n : Nat) {k : Nat} (hk : k < 4) : (box4 g s n).l.set k (evs (g k + 1) (s k)) = (box4 (up g k) s n).l := by
  rcases k with _ | _ | _ | _ | k
  · simp [box4, up]
  · simp [box4, up]
  · simp [box4, up]
  · simp [box4, up]
  · omega
theorem mod4 {n : Int} (h0 : 0 ≤ n) (h1 : n ≤ 255) : ∃ k : Nat, k < 4 ∧ IntKind.wrap .i64 (Int.tmod n 4) = (k : Int) ∧ IntKind.wrap .i64 ((k : Int) + 1) = ((k + 1 : Nat) : Int) := by
  have e : Int.tmod n 4 = n % 4 := Int.tmod_eq_emod_of_nonneg h0
  refine ⟨(n % 4).toNat, by omega, ?_, ?_⟩
  · rw [e, wrap64 (by omega) (by omega)]; omega
  · rw [wrap64 (by omega) (by omega)]; omega
theorem le4 (s : Nat → Nat) : ∀ {k : Nat}, k < 4 → s k ≤ s 0 + s 1 + s 2 + s 3
  | 0, _ => by omega
  | 1, _ => by omega
  | 2, _ => by omega
  | 3, _ => by omega
  | k + 4, h => by omega
theorem p9_sent {x0 : List Int} (hx : ∀ n, n ∈ x0 → 0 ≤ n ∧ n ≤ 255) (hl : x0.length ≤ 60) :
    ∃ s : Nat → Nat, loopC (p9_l1 x0) (false, (0 : Int), some (box4 (fun _ => 0) (fun _ => 0) 0), row4 (fun _ => 0)) = some (.inr (false, some (box4 (fun _ => 0) s x0.length), row4 s)) ∧ s 0 + s 1 + s 2 + s 3 = x0.length := by
  have key : ∃ r, loopC (p9_l1 x0) (false, (0 : Int), some (box4 (fun _ => 0) (fun _ => 0) 0), row4 (fun _ => 0)) = some r ∧ ∃ s : Nat → Nat, r = .inr (false, some (box4 (fun _ => 0) s x0.length), row4 s) ∧ s 0 + s 1 + s 2 + s 3 = x0.length := by
    refine loop_cnt x0.length (fun i st => ∃ s : Nat → Nat, st = (false, (i : Int), some (box4 (fun _ => 0) s i), row4 s) ∧ s 0 + s 1 + s 2 + s 3 = i) _ ?_ ?_ ⟨_, rfl, rfl⟩
    · rintro i _ hi ⟨s, rfl, hs⟩
      obtain ⟨k, hk, hw, hw1⟩ := mod4 (hx _ (List.getElem_mem hi)).1 (hx _ (List.getElem_mem hi)).2
      have hsk : s k ≤ i := hs ▸ le4 s hk
      have e27 : p27 (some (box4 (fun _ => 0) s i)) ⟨(k : Int), Int.tmod ((k + 1 : Nat) : Int) 4, ⟨0, 0, (s k : Int)⟩⟩ = some (true, some (box4 (fun _ => 0) (up s k) (i + 1))) := by
        rw [p27_some (q := evs 0 (s k)) (box4_ok _ _ _) (by simp only; rw [show fi (box4 (fun _ => 0) s i).lanes (k : Int) (Int.tmod ((k + 1 : Nat) : Int) 4) = k from fi4 hk]; exact box4_at _ _ _ hk) (by rw [evs_len]; omega)]
        simp only
        rw [show fi (box4 (fun _ => 0) s i).lanes (k : Int) (Int.tmod ((k + 1 : Nat) : Int) 4) = k from fi4 hk]
        rw [show (⟨0, 0, (s k : Int)⟩ : TEvent) = ev (s k) from rfl, box4_send (fun _ => 0) s i hk (Nat.zero_le _)]
        rw [show (box4 (fun _ => 0) s i).sent = (i : Int) from rfl, wrap64 (by omega) (by omega)]
        rfl
      refine .inl ⟨_, ?_, up s k, rfl, by rw [up_sum s hk, hs]⟩
      unfold p9_l1
      simp only
      rw [if_pos (by omega), idx_get hi]
      simp only [Option.bind_some]
      rw [hw, hw1, row4_idx s hk]
      simp only [Option.bind_some]
      rw [e27]
      simp only [Option.bind_some]
      rw [if_neg (by simp)]
      simp only [Int.toNat_natCast]
      rw [wrap64 (n := (s k : Int) + 1) (by omega) (by omega), wrap64 (n := (i : Int) + 1) (by omega) (by omega), row4_set s hk]
      rfl
    · rintro _ ⟨s, rfl, hs⟩
      unfold p9_l1
      simp only
      rw [if_neg (by omega)]
      exact ⟨_, rfl, s, rfl, hs⟩
  obtain ⟨r, h1, s, rfl, hs⟩ := key
  exact ⟨s, h1, hs⟩
theorem p9_taken {x1 : List Int} (hx : ∀ n, n ∈ x1 → 0 ≤ n ∧ n ≤ 255) (hl : x1.length ≤ 90) {s : Nat → Nat} {n : Nat} (hs : s 0 + s 1 + s 2 + s 3 = n) (hn : n ≤ 60) :
    ∃ g : Nat → Nat, loopC (p9_l2 x1 (row4 s)) ((0 : Int), some (box4 (fun _ => 0) s n), row4 (fun _ => 0)) = some (.inr (some (box4 g s n), row4 g)) ∧ g 0 ≤ s 0 ∧ g 1 ≤ s 1 ∧ g 2 ≤ s 2 ∧ g 3 ≤ s 3 := by
  have key : ∃ r, loopC (p9_l2 x1 (row4 s)) ((0 : Int), some (box4 (fun _ => 0) s n), row4 (fun _ => 0)) = some r ∧ ∃ g : Nat → Nat, r = .inr (some (box4 g s n), row4 g) ∧ ∀ k, k < 4 → g k ≤ s k := by
    refine loop_cnt x1.length (fun i st => ∃ g : Nat → Nat, st = ((i : Int), some (box4 g s n), row4 g) ∧ ∀ k, k < 4 → g k ≤ s k) _ ?_ ?_ ⟨_, rfl, fun k _ => Nat.zero_le _⟩
    · rintro i _ hi ⟨g, rfl, hg⟩
      obtain ⟨k, hk, hw, hw1⟩ := mod4 (hx _ (List.getElem_mem hi)).1 (hx _ (List.getElem_mem hi)).2
      have hsk : s k ≤ n := hs ▸ le4 s hk
      have hfi : fi (box4 g s n).lanes (k : Int) (Int.tmod ((k + 1 : Nat) : Int) 4) = k := fi4 hk
      have hgk := hg k hk
      rcases Nat.lt_or_ge (g k) (s k) with hlt | hge
      · have e28 := p28_cons (B := box4 g s n) (f := (k : Int)) (t := Int.tmod ((k + 1 : Nat) : Int) 4) (box4_ok _ _ _) (e := ev (g k)) (q := evs (g k + 1) (s k)) (by rw [hfi, box4_at _ _ _ hk, evs_cons hlt])
        rw [hfi, box4_take g s n hk] at e28
        refine .inl ⟨((i + 1 : Nat), some (box4 (up g k) s n), row4 (up g k)), ?_, up g k, rfl, ?_⟩
        · unfold p9_l2
          simp only
          rw [if_pos (by omega), idx_get hi]
          simp only [Option.bind_some]
          rw [hw, hw1, e28]
          simp only [Option.bind_some]
          rw [row4_idx g hk]
          simp only [Option.bind_some]
          rw [row4_idx s hk]
          simp only [Option.bind_some]
          rw [if_neg (by simp; omega), if_pos trivial]
          unfold p9_j2 p9_j1
          rw [if_neg (by simp [ev]), if_pos rfl]
          rw [hw, row4_idx g hk]
          simp only [Option.bind_some, Int.toNat_natCast]
          rw [wrap64 (n := (g k : Int) + 1) (by omega) (by omega), row4_set g hk]
          unfold p9_j0
          rw [wrap64 (n := (i : Int) + 1) (by omega) (by omega)]
          rfl
        · intro j hj
          unfold up
          split
          · rename_i e; subst e; omega
          · exact hg j hj
      · have e : g k = s k := by omega
        have e28 := p28_nil (B := box4 g s n) (f := (k : Int)) (t := Int.tmod ((k + 1 : Nat) : Int) 4) (box4_ok _ _ _) (by rw [hfi, box4_at _ _ _ hk, e, evs_nil])
        refine .inl ⟨((i + 1 : Nat), some (box4 g s n), row4 g), ?_, g, rfl, hg⟩
        unfold p9_l2
        simp only
        rw [if_pos (by omega), idx_get hi]
        simp only [Option.bind_some]
        rw [hw, hw1, e28]
        simp only [Option.bind_some]
        rw [row4_idx g hk]
        simp only [Option.bind_some]
        rw [row4_idx s hk]
        simp only [Option.bind_some]
        rw [if_neg (by simp; omega), if_neg (by simp)]
        unfold p9_j2 p9_j1
        rw [if_neg (by simp), if_neg (by simp)]
        unfold p9_j0
        rw [wrap64 (n := (i : Int) + 1) (by omega) (by omega)]
        rfl
    · rintro _ ⟨g, rfl, hg⟩
      unfold p9_l2
      simp only
      rw [if_neg (by omega)]
      exact ⟨_, rfl, g, rfl, hg⟩
  obtain ⟨r, h1, g, rfl, hg⟩ := key
  exact ⟨g, h1, hg 0 (by omega), hg 1 (by omega), hg 2 (by omega), hg 3 (by omega)⟩
theorem p9_left {g s : Nat → Nat} (h : ∀ k, k < 4 → g k ≤ s k) (hs : s 0 + s 1 + s 2 + s 3 ≤ 60) : loopC (p9_l3 (row4 s) (row4 g)) ((0 : Int), (0 : Int)) = some (((s 0 - g 0 + (s 1 - g 1) + (s 2 - g 2) + (s 3 - g 3) : Nat)) : Int) := by
  have st : ∀ (n k : Nat), k < 4 → n ≤ 60 → p9_l3 (row4 s) (row4 g) ((n : Int), (k : Int)) = some (.inl (((n + (s k - g k) : Nat) : Int), ((k + 1 : Nat) : Int))) := by
    intro n k hk hn
    have hsk : s k ≤ 60 := Nat.le_trans (le4 s hk) hs
    have hgk := h k hk
    unfold p9_l3
    simp only
    rw [if_pos (by omega), row4_idx s hk]
    simp only [Option.bind_some]
    rw [row4_idx g hk]
    simp only [Option.bind_some]
    rw [wrap64 (n := (s k : Int) - g k) (by omega) (by omega), wrap64 (n := (k : Int) + 1) (by omega) (by omega), wrap64 (by omega) (by omega)]
    rw [show (n : Int) + ((s k : Int) - (g k : Int)) = ((n + (s k - g k) : Nat) : Int) by omega]
    rfl
  have h0 := st 0 0 (by omega) (by omega)
  have h1 := st (0 + (s 0 - g 0)) 1 (by omega) (by omega)
  have h2 := st (0 + (s 0 - g 0) + (s 1 - g 1)) 2 (by omega) (by omega)
  have h3 := st (0 + (s 0 - g 0) + (s 1 - g 1) + (s 2 - g 2)) 3 (by omega) (by omega)
  have h4 : p9_l3 (row4 s) (row4 g) (((0 + (s 0 - g 0) + (s 1 - g 1) + (s 2 - g 2) + (s 3 - g 3) : Nat) : Int), ((4 : Nat) : Int)) = some (.inr ((0 + (s 0 - g 0) + (s 1 - g 1) + (s 2 - g 2) + (s 3 - g 3) : Nat) : Int)) := by
    unfold p9_l3
    simp
  refine loopC_iff.2 ⟨5, ?_⟩
  simp only [iter]
  rw [show p9_l3 (row4 s) (row4 g) ((0 : Int), (0 : Int)) = _ from h0]
  simp only
  rw [h1]
  simp only
  rw [h2]
  simp only
  rw [h3]
  simp only
  rw [h4]
  simp only [Nat.zero_add]
theorem p9_true {x0 x1 : List Int} (hx0 : ∀ n, n ∈ x0 → 0 ≤ n ∧ n ≤ 255) (hx1 : ∀ n, n ∈ x1 → 0 ≤ n ∧ n ≤ 255) : p9 x0 x1 = some true := by
  unfold p9
  rw [p24_eq]
  simp only [Option.bind_some]
  rw [if_neg (by simp)]
  unfold p9_j5
  by_cases hl0 : (60 : Int) < (x0.length : Int)
  · rw [if_pos (by simpa using hl0)]
    unfold p9_j4
    rw [if_pos rfl, p24_eq]; rfl
  rw [if_neg (by simpa using hl0)]
  unfold p9_j4
  by_cases hl1 : (90 : Int) < (x1.length : Int)
  · rw [if_pos (by simpa using hl1), p24_eq]; rfl
  rw [if_neg (by simpa using hl1), p9_lanes]
  simp only [Option.bind_some]
  rw [p26_eq (by show 4 ≤ _; omega)]
  simp only [Option.bind_some]
  rw [mkS_ok (by omega) (by omega)]
  simp only [Option.bind_some]
  obtain ⟨s, e1, hs⟩ := p9_sent hx0 (by omega)
  rw [show (some ⟨L4, List.replicate L4.length [], 0⟩ : Option TBox) = some (box4 (fun _ => 0) (fun _ => 0) 0) from rfl, show (List.replicate (4 : Int).toNat (0 : Int)) = row4 (fun _ => 0) from rfl, e1]
  simp only [Option.bind_some]
  obtain ⟨g, e2, hg0, hg1, hg2, hg3⟩ := p9_taken hx1 (by omega) hs (by omega)
  rw [e2]
  simp only [Option.bind_some]
  rw [p9_left (fun k hk => by rcases k with _ | _ | _ | _ | k <;> first | assumption | omega) (by omega)]
  simp only [Option.bind_some]
  have hsum : ((box4 g s x0.length).l.map List.length).sum = s 0 - g 0 + (s 1 - g 1) + (s 2 - g 2) + (s 3 - g 3) := by
    simp [box4, evs_len]; omega
  rw [p30_eq (by rw [hsum]; omega) (by show 4 ≤ _; omega), hsum]
  simp only [Option.bind_some]
  rw [if_pos trivial, p31_eq]
  unfold p9_j3
  simp [box4]
end Go.Proofs.Ytgbkpiaonlabgaa

/- The law MailRows of the machine: whatever it is called with, it answers true. Own work. -/
namespace Go.Proofs.Ytgbkpiaonlabgaa
open Go Go.Am
set_option linter.unusedVariables false
set_option linter.unusedSimpArgs false
theorem wf8 {n : Int} (h : (Lit.int .u8 n).wf = true) : 0 ≤ n ∧ n ≤ 255 := by
  simp only [Lit.wf, Bool.and_eq_true, decide_eq_true_eq] at h
  exact h
theorem law_mailRows : ∀ h xs, TyAs [(.sl (.int .u8)), (.sl (.int .u8))] h xs → ACalls F 9 xs h fun v _ => v = .bool true := by
  intro h xs ht
  obtain ⟨a, b, rfl, h1, c, d, rfl, h2, h4⟩ := ht
  simp only [TyAs] at h4
  subst h4
  obtain ⟨s0, l0, e0, k1, k2, _⟩ := sl_open (r := rI .u8) (ok := fun n => 0 ≤ n ∧ n ≤ 255) (cs := [a]) rfl (fun c hc => by obtain ⟨n, q1, q2⟩ := int_open hc; exact ⟨n, q1, wf8 q2⟩) h1
  obtain ⟨s1, l1, e1, k3, k4, _⟩ := sl_open (r := rI .u8) (ok := fun n => 0 ≤ n ∧ n ≤ 255) (cs := [c]) rfl (fun c hc => by obtain ⟨n, q1, q2⟩ := int_open hc; exact ⟨n, q1, wf8 q2⟩) h2
  obtain rfl : a = s0 := by injection e0
  obtain rfl : c = s1 := by injection e1
  exact (r9 k1.frz k3.frz (p9_true k2 k4)).val fun v h' hq => hq.1
end Go.Proofs.Ytgbkpiaonlabgaa
