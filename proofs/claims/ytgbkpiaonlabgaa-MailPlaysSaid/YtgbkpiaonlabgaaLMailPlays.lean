/- The law MailPlays: its pure function answers true, whatever it is called with; so does the machine's function. No condition. Own work. -/
import Derived.Test.YtgbkpiaonlabgaaPMailPlays
import Derived.Test.YtgbkpiaonlabgaaPm2
import Derived.Test.YtgbkpiaonlabgaaPm1
/- The box of mails, plainly. Own work. -/
namespace Go.Proofs.Ytgbkpiaonlabgaa
open Go Go.Am
set_option linter.unusedVariables false
set_option linter.unusedSimpArgs false
/-- A loop that is told how many rounds are left. -/
theorem loop_cnt {τ ρ : Type} {f : τ → Option (τ ⊕ ρ)} (n : Nat) (I : Nat → τ → Prop) (Q : ρ → Prop)
    (step : ∀ k s, k < n → I k s → (∃ s', f s = some (.inl s') ∧ I (k + 1) s') ∨ ∃ r, f s = some (.inr r) ∧ Q r)
    (done : ∀ s, I n s → ∃ r, f s = some (.inr r) ∧ Q r) {s : τ} (h0 : I 0 s) : ∃ r, loopC f s = some r ∧ Q r := by
  suffices key : ∀ d k s, k + d = n → I k s → ∃ r, iter f (d + 1) s = some r ∧ Q r by
    obtain ⟨r, h1, h2⟩ := key n 0 s (by omega) h0
    exact ⟨r, loopC_iff.2 ⟨_, h1⟩, h2⟩
  intro d
  induction d with
  | zero =>
    intro k s hk hI
    obtain rfl : k = n := by omega
    obtain ⟨r, h1, h2⟩ := done s hI
    exact ⟨r, by simp only [iter, h1], h2⟩
  | succ d ih =>
    intro k s hk hI
    rcases step k s (by omega) hI with ⟨s', h1, h2⟩ | ⟨r, h1, h2⟩
    · obtain ⟨r, h3, h4⟩ := ih (k + 1) s' (by omega) h2
      exact ⟨r, by rw [iter]; simp only [h1]; exact h3, h4⟩
    · exact ⟨r, by rw [iter]; simp only [h1], h2⟩
/-- A lane from f to t. -/
def lanB (f t : Int) (x : TLane) : Bool := decide (x.From = f) && decide (x.To = t)
/-- Where the first lane from f to t stands. -/
def fi (L : List TLane) (f t : Int) : Nat := L.findIdx (lanB f t)
theorem p51_eq (x : TLane) (f t : Int) : p51 x f t = some (lanB f t x) := by
  unfold p51 p51_j0 lanB
  split <;> rename_i h <;> simp [h]
theorem idx_step {α : Type} {g : α → Bool} {L : List α} {k : Nat} (hk : k < L.length) (h : k ≤ L.findIdx g) : g L[k] = true ↔ L.findIdx g = k := by
  constructor
  · intro hg
    rcases Nat.lt_or_ge k (L.findIdx g) with h1 | h1
    · have := List.not_of_lt_findIdx h1
      rw [hg] at this; cases this
    · omega
  · intro e
    have h1 : L.findIdx g < L.length := by omega
    have := List.findIdx_getElem (w := h1)
    simpa [e] using this
theorem p37_eq {L : List TLane} (hL : L.length ≤ 1000000) (f t : Int) : p37 L f t = some (if fi L f t < L.length then (fi L f t : Int) else -1) := by
  have key : ∃ r, loopC (p50_l0 L (fun y0 => p51 y0 f t)) (0 : Int) = some r ∧ (match r with | .inl y => fi L f t < L.length ∧ y = (fi L f t : Int) | .inr _ => ¬ fi L f t < L.length) := by
    refine loop_up0 L.length (by omega) (fun k => k ≤ fi L f t) _ ?_ ?_ (Nat.zero_le _)
    · intro k hk hI
      unfold p50_l0
      rw [if_pos (by omega), idx_get hk]
      simp only [Option.bind_some, p51_eq]
      have hs := idx_step (g := lanB f t) hk hI
      by_cases hg : lanB f t L[k] = true
      · rw [if_pos hg]
        refine .inr ⟨_, rfl, ?_⟩
        have e : fi L f t = k := hs.1 hg
        simp only
        omega
      · rw [if_neg hg]
        refine .inl ⟨rfl, ?_⟩
        have e : fi L f t ≠ k := fun e => hg (hs.2 e)
        omega
    · intro hI
      unfold p50_l0
      rw [if_neg (by omega)]
      exact ⟨_, rfl, by simp only; omega⟩
  obtain ⟨r, h1, h2⟩ := key
  unfold p37 p50
  rw [h1]
  simp only [Option.bind_some]
  rcases r with y | y
  · simp only [Option.bind_some]
    rw [if_pos h2.1, h2.2]
  · simp only [Option.bind_some]
    rw [if_neg h2]
/-- A box that holds together. -/
def BoxOk (B : TBox) : Prop := B.l.length = B.lanes.length ∧ B.lanes.length ≤ 1000000
theorem p26_eq {L : List TLane} (hL : L.length ≤ 1000000) : p26 L = some (some ⟨L, List.replicate L.length [], 0⟩) := by
  unfold p26
  rw [app_ok (by simp; omega)]
  simp only [Option.bind_some, List.nil_append]
  rw [mkS_ok (by omega) (by omega)]
  simp
theorem p29_none {B : TBox} (h : BoxOk B) {f t : Int} (hn : ¬ fi B.lanes f t < B.lanes.length) : p29 (some B) f t = some 0 := by
  unfold p29
  simp only [Option.isNone_some, Bool.false_eq_true, if_false, Option.bind_some]
  rw [p37_eq h.2, if_neg hn]
  rfl
theorem p29_some {B : TBox} (h : BoxOk B) {f t : Int} {q : List TEvent} (hq : B.l[fi B.lanes f t]? = some q) : p29 (some B) f t = some (q.length : Int) := by
  have hn : fi B.lanes f t < B.lanes.length := by
    have := (List.getElem?_eq_some_iff.1 hq).1
    have := h.1; omega
  unfold p29
  simp only [Option.isNone_some, Bool.false_eq_true, if_false, Option.bind_some]
  rw [p37_eq h.2, if_pos hn]
  simp only [Option.bind_some]
  unfold p29_j0
  rw [if_neg (by simp)]
  simp only [Option.bind_some]
  rw [p37_eq h.2, if_pos hn]
  simp only [Option.bind_some]
  rw [idx_ok hq]; rfl
theorem p27_none {B : TBox} (h : BoxOk B) {m : TMail} (hn : ¬ fi B.lanes m.From m.To < B.lanes.length) : p27 (some B) m = some (false, some B) := by
  unfold p27
  simp only [Option.isNone_some, Bool.false_eq_true, if_false, Option.bind_some]
  rw [p37_eq h.2, if_neg hn]
  rfl
theorem p27_some {B : TBox} (h : BoxOk B) {m : TMail} {q : List TEvent} (hq : B.l[fi B.lanes m.From m.To]? = some q) (hl : q.length ≤ 1000000) :
    p27 (some B) m = some (true, some ⟨B.lanes, B.l.set (fi B.lanes m.From m.To) (q ++ [m.E]), IntKind.wrap .i64 (B.sent + 1)⟩) := by
  have hn : fi B.lanes m.From m.To < B.lanes.length := by
    have := (List.getElem?_eq_some_iff.1 hq).1
    have := h.1; omega
  unfold p27
  simp only [Option.isNone_some, Bool.false_eq_true, if_false, Option.bind_some]
  rw [p37_eq h.2, if_pos hn]
  simp only [Option.bind_some]
  unfold p27_j0
  rw [if_neg (by simp)]
  simp only [Option.bind_some]
  rw [p37_eq h.2, if_pos hn]
  simp only [Option.bind_some]
  rw [idx_ok hq]
  simp only [Option.bind_some]
  rw [app_ok (by simp; omega)]
  rfl
/-- The mail of nothing. -/
def noMail : TMail := ⟨0, 0, ⟨0, 0, 0⟩⟩
theorem p28_none {B : TBox} (h : BoxOk B) {f t : Int} (hn : ¬ fi B.lanes f t < B.lanes.length) : p28 (some B) f t = some (noMail, false, some B) := by
  unfold p28
  rw [p29_none h hn]
  rfl
theorem p28_nil {B : TBox} (h : BoxOk B) {f t : Int} (hq : B.l[fi B.lanes f t]? = some []) : p28 (some B) f t = some (noMail, false, some B) := by
  unfold p28
  rw [p29_some h hq]
  rfl
theorem p28_cons {B : TBox} (h : BoxOk B) {f t : Int} {e : TEvent} {q : List TEvent} (hq : B.l[fi B.lanes f t]? = some (e :: q)) :
    p28 (some B) f t = some (⟨f, t, e⟩, true, some ⟨B.lanes, B.l.set (fi B.lanes f t) q, B.sent⟩) := by
  have hn : fi B.lanes f t < B.lanes.length := by
    have := (List.getElem?_eq_some_iff.1 hq).1
    have := h.1; omega
  unfold p28
  rw [p29_some h hq]
  simp only [Option.bind_some]
  rw [if_neg (by simp; omega)]
  rw [p37_eq h.2, if_pos hn]
  simp only [Option.bind_some]
  rw [idx_ok hq]
  simp only [Option.bind_some]
  rw [show idx (e :: q) 0 = some e from rfl]
  simp only [Option.bind_some]
  have : slc (e :: q) 1 ((e :: q).length : Int) = some q := by
    unfold slc
    rw [if_pos (by simp; omega)]
    simp
  rw [this]
  rfl
theorem p30_eq {B : TBox} (hs : (B.l.map List.length).sum ≤ 1000000) (hl : B.l.length ≤ 1000000) : p30 (some B) = some (((B.l.map List.length).sum : Nat) : Int) := by
  have key : ∃ r, loopC (p30_l0 B) ((0 : Int), (0 : Int)) = some r ∧ r = (((B.l.map List.length).sum : Nat) : Int) := by
    refine loop_cnt B.l.length (fun k (s : Int × Int) => s.2 = (k : Int) ∧ s.1 = ((((B.l.take k).map List.length).sum : Nat) : Int)) _ ?_ ?_ ⟨rfl, by simp⟩
    · rintro k ⟨n, y⟩ hk ⟨e1, e2⟩
      simp only at e1 e2
      subst e1
      have h1 : (B.l.take (k + 1)).map List.length = (B.l.take k).map List.length ++ [B.l[k].length] := by
        rw [List.take_succ_eq_append_getElem hk, List.map_append]; rfl
      have h2 : ((B.l.take (k + 1)).map List.length).sum = ((B.l.take k).map List.length).sum + B.l[k].length := by rw [h1]; simp
      have h3 : ((B.l.take (k + 1)).map List.length).sum ≤ (B.l.map List.length).sum := by
        conv => rhs; rw [← List.take_append_drop (k + 1) B.l, List.map_append, List.sum_append]
        omega
      refine .inl ⟨(IntKind.wrap .i64 (n + (B.l[k].length : Int)), IntKind.wrap .i64 ((k : Int) + 1)), ?_, ?_⟩
      · unfold p30_l0
        simp only
        rw [if_pos (by omega), idx_get hk]
        rfl
      · simp only
        rw [wrap64 (by omega) (by omega), wrap64 (by omega) (by omega)]
        refine ⟨rfl, ?_⟩
        rw [h2, e2]; push_cast; rfl
    · rintro ⟨n, y⟩ ⟨e1, e2⟩
      simp only at e1 e2
      subst e1
      unfold p30_l0
      simp only
      rw [if_neg (by omega)]
      refine ⟨_, rfl, ?_⟩
      rw [e2, List.take_length]
  obtain ⟨r, h1, h2⟩ := key
  unfold p30
  simp only [Option.isNone_some, Bool.false_eq_true, if_false, Option.bind_some]
  rw [h1]
  simp only [Option.bind_some, h2]
theorem p31_eq (B : TBox) : p31 (some B) = some B.sent := by
  unfold p31
  simp
theorem box_set {L : List TLane} {l : List (List TEvent)} {s s' : Int} {i : Nat} {q : List TEvent} (h : BoxOk ⟨L, l, s⟩) : BoxOk ⟨L, l.set i q, s'⟩ := ⟨by simpa using h.1, h.2⟩
/-- The document's example. -/
theorem p24_eq : p24 = some true := by
  unfold p24
  rw [p26_eq (by simp)]
  simp only [Option.bind_some]
  rw [p27_some (q := []) ⟨rfl, by simp⟩ rfl (by simp)]
  simp only [Option.bind_some]
  rw [p27_some (q := [⟨1, 0, 0⟩]) ⟨rfl, by simp⟩ rfl (by simp)]
  simp only [Option.bind_some]
  rw [p28_cons (e := ⟨1, 0, 0⟩) (q := [⟨2, 0, 0⟩]) ⟨rfl, by simp⟩ rfl]
  simp only [Option.bind_some, if_true]
  unfold p24_j1
  simp only [decide_true, if_true]
  rw [p29_some (q := [⟨2, 0, 0⟩]) ⟨rfl, by simp⟩ rfl]
  rfl
end Go.Proofs.Ytgbkpiaonlabgaa

/- MailPlays, plainly. Own work. -/
namespace Go.Proofs.Ytgbkpiaonlabgaa
open Go Go.Am
set_option linter.unusedVariables false
set_option linter.unusedSimpArgs false
/-- A mail from f to t. -/
def fromTo (f t : Int) (m : TMail) : Bool := decide (m.From = f) && decide (m.To = t)
/-- What the law takes for the second process of an act. -/
def toOf (e : TActlaw18) : Int := IntKind.wrap .i64 (Int.tmod (IntKind.wrap .u64 e.B) (6 : Int))
theorem p7_there {L : List TLane} (hL : L.length ≤ 1000000) (e : TActlaw18) (f : Int) : loopC (p7_l0 L e f) (false, (0 : Int)) = some (decide (fi L f (toOf e) < L.length)) := by
  obtain ⟨r, h1, h2⟩ : ∃ r, loopC (p7_l0 L e f) (false, (0 : Int)) = some r ∧ r = decide (fi L f (toOf e) < L.length) := by
    refine loop_cnt L.length (fun k st => st = (decide (fi L f (toOf e) < k), (k : Int))) _ ?_ ?_ (by simp)
    · rintro k _ hk rfl
      refine .inl ⟨_, ?_, rfl⟩
      unfold p7_l0
      simp only
      rw [if_pos (by omega)]
      have fin : ∀ b : Bool, b = decide (fi L f (toOf e) < k + 1) → p7_j0 (k : Int) b = some (.inl (decide (fi L f (toOf e) < k + 1), ((k + 1 : Nat) : Int))) := by
        rintro b rfl
        unfold p7_j0
        rw [wrap64 (by omega) (by omega)]; rfl
      by_cases hf : fi L f (toOf e) < k
      · rw [if_pos (by simpa using hf)]
        exact fin _ (by simp; omega)
      · rw [if_neg (by simpa using hf), idx_get hk]
        have hs := idx_step (g := lanB f (toOf e)) hk (by unfold fi at hf; omega)
        have hs' : lanB f (toOf e) L[k] = decide (fi L f (toOf e) < k + 1) := by
          rw [Bool.eq_iff_iff, hs, decide_eq_true_iff]
          unfold fi at hf ⊢
          omega
        simp only [Option.bind_some]
        unfold p7_j1
        by_cases h1 : L[k].From = f
        · rw [if_pos h1]
          refine fin _ ?_
          rw [← hs']
          simp only [lanB, h1, decide_true, Bool.true_and]; rfl
        · rw [if_neg h1]
          refine fin _ ?_
          rw [← hs']
          simp [lanB, h1]
    · rintro _ rfl
      unfold p7_l0
      simp only
      rw [if_neg (by omega)]
      exact ⟨_, rfl, rfl⟩
  rw [h1, h2]
/-- The first one from k on. -/
def atOf (P : TMail → Bool) (hv : List TMail) (k : Nat) : Int := if (hv.drop k).findIdx P < (hv.drop k).length then ((k + (hv.drop k).findIdx P : Nat) : Int) else -1
theorem atOf_step (P : TMail → Bool) {hv : List TMail} {k : Nat} (hk : k < hv.length) : atOf P hv k = if P hv[k] = true then (k : Int) else atOf P hv (k + 1) := by
  unfold atOf
  rw [List.drop_eq_getElem_cons hk, List.findIdx_cons]
  by_cases h : P hv[k] = true
  · rw [if_pos h, h]
    simp; omega
  · rw [if_neg h]
    have h' : P hv[k] = false := by simpa using h
    rw [h']
    simp only [List.length_cons, cond_false]
    by_cases h2 : (hv.drop (k + 1)).findIdx P < (hv.drop (k + 1)).length
    · rw [if_pos h2, if_pos (by omega)]
      congr 1
      omega
    · rw [if_neg h2, if_neg (by omega)]
theorem p7_at {hv : List TMail} (hl : hv.length ≤ 1000000) (e : TActlaw18) (f : Int) : loopC (p7_l1 hv e f) (((-1) : Int), (IntKind.wrap .i64 ((hv.length : Int) - (1 : Int)))) = some (atOf (fromTo f (toOf e)) hv 0) := by
  rw [wrap64 (by omega) (by omega)]
  obtain ⟨r, h1, h2⟩ : ∃ r, loopC (p7_l1 hv e f) (((-1) : Int), ((hv.length : Int) - (1 : Int))) = some r ∧ r = atOf (fromTo f (toOf e)) hv 0 := by
    refine loop_cnt hv.length (fun d st => st = (atOf (fromTo f (toOf e)) hv (hv.length - d), (hv.length : Int) - d - 1)) _ ?_ ?_ (by simp [atOf])
    · rintro d _ hd rfl
      obtain ⟨k, hk⟩ : ∃ k, hv.length = k + d + 1 := ⟨hv.length - d - 1, by omega⟩
      have hk' : k < hv.length := by omega
      have e1 : (hv.length : Int) - d - 1 = (k : Int) := by omega
      have e2 : hv.length - d = k + 1 := by omega
      refine .inl ⟨(atOf (fromTo f (toOf e)) hv k, (k : Int) - 1), ?_, ?_⟩
      · unfold p7_l1
        simp only
        rw [e1, e2, if_pos (by omega), idx_get hk']
        simp only [Option.bind_some]
        have st := atOf_step (fromTo f (toOf e)) hk'
        have fin : ∀ b : Bool, b = fromTo f (toOf e) hv[k] → p7_j8 (atOf (fromTo f (toOf e)) hv (k + 1)) (k : Int) b = some (.inl (atOf (fromTo f (toOf e)) hv k, (k : Int) - 1)) := by
          rintro b rfl
          unfold p7_j8 p7_j7
          rw [wrap64 (by omega) (by omega), st]
          split <;> rfl
        by_cases h1 : hv[k].From = f
        · rw [if_pos h1]
          exact fin _ (by simp only [fromTo, h1, decide_true, Bool.true_and]; rfl)
        · rw [if_neg h1]
          exact fin _ (by simp [fromTo, h1])
      · rw [show hv.length - (d + 1) = k by omega, show (hv.length : Int) - ((d + 1 : Nat) : Int) - 1 = (k : Int) - 1 by omega]
    · rintro _ rfl
      unfold p7_l1
      simp only
      rw [if_neg (by omega), Nat.sub_self]
      exact ⟨_, rfl, rfl⟩
  rw [h1, h2]
theorem p7_n {hv : List TMail} (hl : hv.length ≤ 1000000) (e : TActlaw18) (f : Int) : loopC (p7_l2 e f hv) ((0 : Int), (0 : Int)) = some ((hv.countP (fromTo f (toOf e)) : Nat) : Int) := by
  obtain ⟨r, h1, h2⟩ : ∃ r, loopC (p7_l2 e f hv) ((0 : Int), (0 : Int)) = some r ∧ r = ((hv.countP (fromTo f (toOf e)) : Nat) : Int) := by
    refine loop_cnt hv.length (fun k (st : Int × Int) => st = ((((hv.take k).countP (fromTo f (toOf e)) : Nat) : Int), (k : Int))) _ ?_ ?_ (by simp)
    · rintro k _ hk rfl
      refine .inl ⟨_, ?_, rfl⟩
      have hc : (hv.take k).countP (fromTo f (toOf e)) ≤ k := Nat.le_trans List.countP_le_length (by simp; omega)
      have st : (hv.take (k + 1)).countP (fromTo f (toOf e)) = (hv.take k).countP (fromTo f (toOf e)) + if fromTo f (toOf e) hv[k] = true then 1 else 0 := by
        rw [List.take_succ_eq_append_getElem hk, List.countP_append, List.countP_singleton]
      unfold p7_l2
      simp only
      rw [if_pos (by omega), idx_get hk]
      simp only [Option.bind_some]
      have fin : ∀ b : Bool, b = fromTo f (toOf e) hv[k] → p7_j3 (((hv.take k).countP (fromTo f (toOf e)) : Nat) : Int) (k : Int) b = some (.inl ((((hv.take (k + 1)).countP (fromTo f (toOf e)) : Nat) : Int), ((k + 1 : Nat) : Int))) := by
        rintro b rfl
        unfold p7_j3 p7_j2
        rw [st, wrap64 (n := (k : Int) + 1) (by omega) (by omega), wrap64 (by omega) (by omega)]
        split <;> rfl
      by_cases h1 : hv[k].From = f
      · rw [if_pos h1]
        exact fin _ (by simp only [fromTo, h1, decide_true, Bool.true_and]; rfl)
      · rw [if_neg h1]
        exact fin _ (by simp [fromTo, h1])
    · rintro _ rfl
      unfold p7_l2
      simp only
      rw [if_neg (by omega), List.take_length]
      exact ⟨_, rfl, rfl⟩
  rw [h1, h2]
theorem at_cases (P : TMail → Bool) (hv : List TMail) : (atOf P hv 0 = -1 ∧ ∀ m, m ∈ hv → P m = false) ∨ ∃ pre m post, hv = pre ++ m :: post ∧ atOf P hv 0 = (pre.length : Int) ∧ P m = true ∧ ∀ x, x ∈ pre → P x = false := by
  have key : ∀ hv : List TMail, (hv.findIdx P = hv.length ∧ ∀ m, m ∈ hv → P m = false) ∨ ∃ pre m post, hv = pre ++ m :: post ∧ hv.findIdx P = pre.length ∧ P m = true ∧ ∀ x, x ∈ pre → P x = false := by
    intro hv
    induction hv with
    | nil => exact .inl ⟨rfl, fun m hm => by cases hm⟩
    | cons a hv ih =>
      rw [List.findIdx_cons]
      cases ha : P a with
      | true => exact .inr ⟨[], a, hv, rfl, rfl, ha, fun x hx => by cases hx⟩
      | false =>
        rcases ih with ⟨h1, h2⟩ | ⟨pre, m, post, rfl, h2, h3, h4⟩
        · refine .inl ⟨by simp [h1], fun m hm => ?_⟩
          rcases List.mem_cons.1 hm with rfl | hm
          · exact ha
          · exact h2 m hm
        · refine .inr ⟨a :: pre, m, post, rfl, by simp [h2], h3, fun x hx => ?_⟩
          rcases List.mem_cons.1 hx with rfl | hx
          · exact ha
          · exact h4 x hx
  unfold atOf
  rw [List.drop_zero]
  rcases key hv with ⟨h1, h2⟩ | ⟨pre, m, post, rfl, h2, h3, h4⟩
  · exact .inl ⟨by rw [h1, if_neg (by omega)], h2⟩
  · exact .inr ⟨pre, m, post, rfl, by rw [h2, if_pos (by simp), Nat.zero_add], h3, h4⟩
/-- The queue of the mails whose lane stands at j. -/
def qof (L : List TLane) (hv : List TMail) (j : Nat) : List TEvent := (hv.filter (fun m => decide (fi L m.From m.To = j))).map (·.E)
structure Inv (L : List TLane) (hv : List TMail) (l : List (List TEvent)) : Prop where
  len : l.length = L.length
  q : ∀ j, j < L.length → l[j]? = some (qof L hv j)
  ok : ∀ m, m ∈ hv → fi L m.From m.To < L.length
  sum : (l.map List.length).sum = hv.length
theorem fi_inj {L : List TLane} {f t f' t' : Int} (h : fi L f t < L.length) : fi L f' t' = fi L f t ↔ f' = f ∧ t' = t := by
  constructor
  · intro e
    have h1 : lanB f t L[fi L f t] = true := List.findIdx_getElem (w := h)
    have h2' : fi L f' t' < L.length := by omega
    have h2 : lanB f' t' L[fi L f' t'] = true := List.findIdx_getElem (w := h2')
    simp only [e] at h2
    simp only [lanB, Bool.and_eq_true, decide_eq_true_eq] at h1 h2
    exact ⟨h2.1.symm.trans h1.1, h2.2.symm.trans h1.2⟩
  · rintro ⟨rfl, rfl⟩; rfl
theorem sum_set : ∀ {l : List (List TEvent)} {i : Nat} {q x : List TEvent}, l[i]? = some q → ((l.set i x).map List.length).sum + q.length = (l.map List.length).sum + x.length
  | [], i, q, x, h => by simp at h
  | a :: l, 0, q, x, h => by
    simp only [List.getElem?_cons_zero, Option.some.injEq] at h
    subst h
    simp; omega
  | a :: l, i + 1, q, x, h => by
    simp only [List.getElem?_cons_succ] at h
    have := sum_set (x := x) h
    rw [List.set_cons_succ, List.map_cons, List.map_cons, List.sum_cons, List.sum_cons]; omega
theorem Inv.send {L : List TLane} {hv : List TMail} {l : List (List TEvent)} (I : Inv L hv l) {m : TMail} (hm : fi L m.From m.To < L.length) :
    Inv L (hv ++ [m]) (l.set (fi L m.From m.To) (qof L hv (fi L m.From m.To) ++ [m.E])) := by
  refine ⟨by simpa using I.len, fun j hj => ?_, fun x hx => ?_, ?_⟩
  · rw [List.getElem?_set]
    by_cases e : fi L m.From m.To = j
    · rw [if_pos e, if_pos (by rw [I.len]; omega)]
      subst e
      simp [qof, List.filter_append]
    · rw [if_neg e, I.q j hj]
      simp [qof, List.filter_append, e]
  · rcases List.mem_append.1 hx with hx | hx
    · exact I.ok x hx
    · rw [List.mem_singleton] at hx; subst hx; exact hm
  · have h1 := sum_set (x := qof L hv (fi L m.From m.To) ++ [m.E]) (I.q _ hm)
    have h2 := I.sum
    rw [List.length_append, List.length_singleton] at h1
    rw [List.length_append, List.length_singleton]
    omega
theorem qof_take {L : List TLane} {pre post : List TMail} {m : TMail} {f t : Int} (hi : fi L f t < L.length) (hm : fromTo f t m = true) (hp : ∀ x, x ∈ pre → fromTo f t x = false) (j : Nat) :
    qof L (pre ++ m :: post) j = if fi L f t = j then m.E :: qof L (pre ++ post) j else qof L (pre ++ post) j := by
  have hmf : fi L m.From m.To = fi L f t := by
    simp only [fromTo, Bool.and_eq_true, decide_eq_true_eq] at hm
    rw [hm.1, hm.2]
  split
  · rename_i e
    subst e
    have hpre : pre.filter (fun x => decide (fi L x.From x.To = fi L f t)) = [] := by
      rw [List.filter_eq_nil_iff]
      intro x hx hc
      have h1 := (fi_inj hi).1 (of_decide_eq_true hc)
      have h2 := hp x hx
      simp [fromTo, h1.1, h1.2] at h2
    simp [qof, List.filter_append, hpre, hmf]
  · rename_i e
    simp [qof, List.filter_append, List.filter_cons, hmf, e]
theorem Inv.take {L : List TLane} {pre post : List TMail} {m : TMail} {f t : Int} {l : List (List TEvent)} (I : Inv L (pre ++ m :: post) l) (hi : fi L f t < L.length) (hm : fromTo f t m = true) (hp : ∀ x, x ∈ pre → fromTo f t x = false) :
    Inv L (pre ++ post) (l.set (fi L f t) (qof L (pre ++ post) (fi L f t))) := by
  refine ⟨by simpa using I.len, fun j hj => ?_, fun x hx => ?_, ?_⟩
  · rw [List.getElem?_set]
    by_cases e : fi L f t = j
    · rw [if_pos e, if_pos (by rw [I.len]; omega), e]
    · rw [if_neg e, I.q j hj, qof_take hi hm hp, if_neg e]
  · refine I.ok x ?_
    rcases List.mem_append.1 hx with hx | hx
    · exact List.mem_append_left _ hx
    · exact List.mem_append_right _ (List.mem_cons_of_mem _ hx)
  · have h1 := sum_set (x := qof L (pre ++ post) (fi L f t)) (I.q _ hi)
    have h2 := I.sum
    rw [qof_take hi hm hp, if_pos rfl] at h1
    simp only [List.length_cons, List.length_append] at h1 h2 ⊢
    omega
theorem count_q {L : List TLane} {hv : List TMail} {f t : Int} (hi : fi L f t < L.length) : hv.countP (fromTo f t) = (qof L hv (fi L f t)).length := by
  unfold qof
  rw [List.length_map, ← List.countP_eq_length_filter]
  congr 1
  funext m
  rw [Bool.eq_iff_iff, decide_eq_true_iff, fi_inj hi]
  simp [fromTo]
theorem count_0 {L : List TLane} {hv : List TMail} {f t : Int} (hok : ∀ m, m ∈ hv → fi L m.From m.To < L.length) (hi : ¬ fi L f t < L.length) : ∀ m, m ∈ hv → fromTo f t m = false := by
  intro m hm
  have := hok m hm
  cases h : fromTo f t m with
  | false => rfl
  | true =>
    simp only [fromTo, Bool.and_eq_true, decide_eq_true_eq] at h
    rw [h.1, h.2] at this
    exact absurd this hi
theorem Inv.box {L : List TLane} {hv : List TMail} {l : List (List TEvent)} (I : Inv L hv l) (hL : L.length ≤ 1000000) (s : Int) : BoxOk ⟨L, l, s⟩ := ⟨I.len, hL⟩
theorem p7_asks {L : List TLane} {hv : List TMail} {l : List (List TEvent)} (I : Inv L hv l) (hL : L.length ≤ 1000000) (hh : hv.length ≤ 1000) (e : TActlaw18) (f s : Int) {i : Nat} (hi : i ≤ 1000) :
    p7_j6 (i : Int) e f s (some ⟨L, l, s⟩) hv = some (.inl (s, ((i + 1 : Nat) : Int), some ⟨L, l, s⟩, hv)) := by
  have e29 : p29 (some ⟨L, l, s⟩) f (toOf e) = some ((hv.countP (fromTo f (toOf e)) : Nat) : Int) := by
    by_cases h : fi L f (toOf e) < L.length
    · rw [p29_some (I.box hL s) (q := qof L hv (fi L f (toOf e))) (I.q _ h), count_q h]
    · rw [p29_none (I.box hL s) h]
      have : hv.countP (fromTo f (toOf e)) = 0 := by
        rw [List.countP_eq_zero]
        intro m hm
        rw [count_0 I.ok h m hm]; simp
      rw [this]; rfl
  unfold p7_j6
  rw [p7_n (by omega)]
  simp only [Option.bind_some]
  rw [show IntKind.wrap .i64 (Int.tmod (IntKind.wrap .u64 e.B) (6 : Int)) = toOf e from rfl, e29]
  simp only [Option.bind_some]
  rw [if_neg (by simp), p30_eq (by show (l.map List.length).sum ≤ _; rw [I.sum]; omega) (by show l.length ≤ _; rw [I.len]; omega)]
  simp only [Option.bind_some]
  rw [show (((⟨L, l, s⟩ : TBox).l.map List.length).sum) = hv.length from I.sum]
  unfold p7_j5
  rw [if_neg (by simp), p31_eq]
  simp only [Option.bind_some]
  unfold p7_j4
  rw [if_neg (by simp), wrap64 (by omega) (by omega)]
  rfl
theorem p7_act {L : List TLane} {hv : List TMail} {l : List (List TEvent)} (I : Inv L hv l) (hL : L.length ≤ 1000000) {i s : Nat} (hi : i ≤ 50) (hh : hv.length ≤ i) (hs : s ≤ i) (e : TActlaw18) (f : Int) :
    ∃ s' hv' l', p7_j13 L (s : Int) (i : Int) (some ⟨L, l, (s : Int)⟩) hv e f = some (.inl (((s' : Nat) : Int), ((i + 1 : Nat) : Int), some ⟨L, l', ((s' : Nat) : Int)⟩, hv')) ∧ Inv L hv' l' ∧ hv'.length ≤ i + 1 ∧ s' ≤ i + 1 := by
  have hto : IntKind.wrap .i64 (Int.tmod (IntKind.wrap .u64 e.B) (6 : Int)) = toOf e := rfl
  unfold p7_j13
  rw [p7_there hL]
  simp only [Option.bind_some]
  rw [hto]
  have asks := fun {hv : List TMail} {l : List (List TEvent)} (I : Inv L hv l) (hh : hv.length ≤ 1000) (s : Int) => p7_asks I hL hh e f s (i := i) (by omega)
  by_cases hk : Int.tmod e.K 5 < 3
  · rw [if_pos hk]
    by_cases h : fi L f (toOf e) < L.length
    · have e27 := p27_some (B := ⟨L, l, (s : Int)⟩) (m := ⟨f, toOf e, e.E⟩) (I.box hL s) (q := qof L hv (fi L f (toOf e))) (I.q _ h) (by
        have := List.length_filter_le (fun m : TMail => decide (fi L m.From m.To = fi L f (toOf e))) hv
        unfold qof
        rw [List.length_map]; omega)
      have I' := I.send (m := ⟨f, toOf e, e.E⟩) h
      rw [show (⟨f, toOf e, ⟨e.E.Time, e.E.Place, e.E.N⟩⟩ : TMail) = ⟨f, toOf e, e.E⟩ from rfl, e27]
      simp only [Option.bind_some]
      rw [if_neg (by simp [h]), if_pos (by simpa using h), app_ok (by simp; omega)]
      simp only [Option.bind_some]
      rw [wrap64 (by omega) (by omega)]
      refine ⟨s + 1, _, _, asks I' (by simp; omega) _, I', by simp; omega, by omega⟩
    · have e27 := p27_none (B := ⟨L, l, (s : Int)⟩) (m := ⟨f, toOf e, e.E⟩) (I.box hL s) h
      rw [show (⟨f, toOf e, ⟨e.E.Time, e.E.Place, e.E.N⟩⟩ : TMail) = ⟨f, toOf e, e.E⟩ from rfl, e27]
      simp only [Option.bind_some]
      rw [if_neg (by simp [h]), if_neg (by simpa using h)]
      exact ⟨s, _, _, asks I (by omega) _, I, by omega, by omega⟩
  · rw [if_neg hk, p7_at (by omega)]
    simp only [Option.bind_some]
    rcases at_cases (fromTo f (toOf e)) hv with ⟨h1, h2⟩ | ⟨pre, m, post, rfl, h1, h2, h3⟩
    · have e28 : p28 (some ⟨L, l, (s : Int)⟩) f (toOf e) = some (noMail, false, some ⟨L, l, (s : Int)⟩) := by
        by_cases h : fi L f (toOf e) < L.length
        · refine p28_nil (I.box hL s) ?_
          rw [show (⟨L, l, (s : Int)⟩ : TBox).l = l from rfl, show (⟨L, l, (s : Int)⟩ : TBox).lanes = L from rfl, I.q _ h]
          have := count_q (hv := hv) h
          rw [List.countP_eq_zero.2 (fun m hm => by rw [h2 m hm]; simp)] at this
          rw [List.length_eq_zero_iff.1 this.symm]
        · exact p28_none (I.box hL s) h
      rw [h1, e28]
      simp only [Option.bind_some]
      rw [if_neg (by simp), if_neg (by simp)]
      unfold p7_j12 p7_j11
      rw [if_neg (by simp), if_pos (by simp)]
      unfold p7_j10 p7_j9
      rw [if_neg (by simp [noMail]), if_neg (by simp)]
      exact ⟨s, _, _, asks I (by omega) _, I, by omega, by omega⟩
    · have h : fi L f (toOf e) < L.length := by
        have h4 := I.ok m (by simp)
        simp only [fromTo, Bool.and_eq_true, decide_eq_true_eq] at h2
        rw [h2.1, h2.2] at h4
        exact h4
      have e28 := p28_cons (B := ⟨L, l, (s : Int)⟩) (f := f) (t := toOf e) (I.box hL s) (e := m.E) (q := qof L (pre ++ post) (fi L f (toOf e))) (by
        rw [show (⟨L, l, (s : Int)⟩ : TBox).l = l from rfl, show (⟨L, l, (s : Int)⟩ : TBox).lanes = L from rfl, I.q _ h, qof_take h h2 h3, if_pos rfl])
      have I' := I.take h h2 h3
      have hm : m = ⟨f, toOf e, m.E⟩ := by
        simp only [fromTo, Bool.and_eq_true, decide_eq_true_eq] at h2
        rw [← h2.1, ← h2.2]
      have hix : idx (pre ++ m :: post) (pre.length : Int) = some m := idx_ok (by simp)
      have hlen : pre.length + (post.length + 1) ≤ i := by simpa using hh
      rw [h1, e28]
      simp only [Option.bind_some]
      rw [if_neg (by simp), if_pos trivial, hix]
      simp only [Option.bind_some]
      unfold p7_j12 p7_j11
      rw [if_neg (by rw [hm]; simp), if_neg (by simp)]
      unfold p7_j10 p7_j9
      rw [if_neg (by simp), if_pos rfl]
      have s1 : slc (pre ++ m :: post) 0 (pre.length : Int) = some pre := by
        unfold slc
        rw [if_pos (by simp; omega)]
        simp
      have s2 : slc (pre ++ m :: post) (IntKind.wrap .i64 ((pre.length : Int) + 1)) ((pre ++ m :: post).length : Int) = some post := by
        rw [wrap64 (by omega) (by omega)]
        unfold slc
        rw [if_pos (by simp; omega)]
        rw [Int.toNat_natCast, List.take_length, show ((pre.length : Int) + 1).toNat = pre.length + 1 by omega]
        simp
      rw [s1]
      simp only [Option.bind_some]
      rw [app_ok (by simp; omega)]
      simp only [Option.bind_some]
      rw [s2]
      simp only [Option.bind_some, List.nil_append]
      rw [app_ok (by omega)]
      simp only [Option.bind_some]
      refine ⟨s, _, _, asks I' (by simp; omega) _, I', by simp; omega, by omega⟩
theorem p25_eq {x0 : List Int} (hl : x0.length ≤ 1000) : ∃ L, p25 x0 = some L ∧ L.length = x0.length := by
  obtain ⟨r, h1, h2⟩ : ∃ r, loopC (p25_l0 x0) ((0 : Int), []) = some r ∧ r.length = x0.length := by
    refine loop_cnt x0.length (fun k st => st.1 = (k : Int) ∧ st.2.length = k) _ ?_ ?_ ⟨rfl, rfl⟩
    · rintro k ⟨i, out⟩ hk ⟨e1, e2⟩
      simp only at e1 e2
      subst e1
      unfold p25_l0
      simp only
      rw [if_pos (by omega), idx_get hk]
      simp only [Option.bind_some]
      rw [app_ok (by simp; omega)]
      refine .inl ⟨_, rfl, ?_, ?_⟩
      · simp only; rw [wrap64 (by omega) (by omega)]; rfl
      · simp [e2]
    · rintro ⟨i, out⟩ ⟨e1, e2⟩
      simp only at e1 e2
      subst e1
      unfold p25_l0
      simp only
      rw [if_neg (by omega)]
      exact ⟨_, rfl, e2⟩
  refine ⟨r, ?_, h2⟩
  unfold p25
  rw [h1]; rfl
theorem Inv.zero (L : List TLane) : Inv L [] (List.replicate L.length []) := by
  refine ⟨by simp, fun j hj => ?_, fun m hm => (by cases hm), by simp⟩
  rw [List.getElem?_replicate, if_pos hj]; rfl
theorem p7_true (x0 : List Int) (x1 : List TActlaw18) : p7 x0 x1 = some true := by
  unfold p7
  rw [p24_eq]
  simp only [Option.bind_some]
  rw [if_neg (by simp)]
  unfold p7_j15
  by_cases hl0 : (12 : Int) < (x0.length : Int)
  · rw [if_pos (by simpa using hl0)]
    unfold p7_j14
    rw [if_pos rfl, p24_eq]; rfl
  rw [if_neg (by simpa using hl0)]
  unfold p7_j14
  by_cases hl1 : (50 : Int) < (x1.length : Int)
  · rw [if_pos (by simpa using hl1), p24_eq]; rfl
  rw [if_neg (by simpa using hl1)]
  obtain ⟨L, e25, hL⟩ := p25_eq (x0 := x0) (by omega)
  rw [e25]
  simp only [Option.bind_some]
  rw [p26_eq (by omega)]
  simp only [Option.bind_some]
  obtain ⟨r, h1, h2⟩ : ∃ r, loopC (p7_l3 x1 L) ((0 : Int), (0 : Int), some ⟨L, List.replicate L.length [], 0⟩, []) = some r ∧ r = .inr () := by
    refine loop_cnt x1.length (fun i st => ∃ (s : Nat) (hv : List TMail) (l : List (List TEvent)), st = ((s : Int), (i : Int), some ⟨L, l, (s : Int)⟩, hv) ∧ Inv L hv l ∧ hv.length ≤ i ∧ s ≤ i) _ ?_ ?_ ⟨0, [], _, rfl, Inv.zero L, by simp, by omega⟩
    · rintro i _ hi ⟨s, hv, l, rfl, I, hh, hs⟩
      left
      unfold p7_l3
      simp only
      rw [if_pos (by omega), idx_get hi]
      simp only [Option.bind_some]
      have step := fun f => p7_act I (by omega) (by omega) hh hs x1[i] f
      split
      · obtain ⟨s', hv', l', e, I', h1, h2⟩ := step x1[i].A
        exact ⟨_, e, s', hv', l', rfl, I', h1, h2⟩
      · obtain ⟨s', hv', l', e, I', h1, h2⟩ := step _
        exact ⟨_, e, s', hv', l', rfl, I', h1, h2⟩
    · rintro _ ⟨s, hv, l, rfl, I, hh, hs⟩
      unfold p7_l3
      simp only
      rw [if_neg (by omega)]
      exact ⟨_, rfl, rfl⟩
  rw [h1, h2]
  rfl
end Go.Proofs.Ytgbkpiaonlabgaa

/- The law MailPlays of the machine: whatever it is called with, it answers true. Own work. -/
namespace Go.Proofs.Ytgbkpiaonlabgaa
open Go Go.Am
set_option linter.unusedVariables false
set_option linter.unusedSimpArgs false
theorem ty_act18 {h : Heap} : ∀ c, TyC (.agg [(.int .u8), (.int .i64), (.int .i64), (.agg [(.int .i64), (.int .i64), (.int .i64)])]) h c → ∃ x, rActlaw18.R (Frz h) c x ∧ True := by
  intro c ht
  simp only [TyC, TyCs] at ht
  obtain ⟨_, _, rfl, ⟨n1, rfl, w1⟩, _, _, rfl, ⟨n2, rfl, w2⟩, _, _, rfl, ⟨n3, rfl, w3⟩, _, _, rfl, ⟨_, _, rfl, ⟨n4, rfl, w4⟩, _, _, rfl, ⟨n5, rfl, w5⟩, _, _, rfl, ⟨n6, rfl, w6⟩, rfl⟩, rfl⟩ := ht
  exact ⟨⟨n1, n2, n3, ⟨n4, n5, n6⟩⟩, rActlaw18_mk (x := ⟨n1, n2, n3, ⟨n4, n5, n6⟩⟩), trivial⟩
theorem law_mailPlays : ∀ h xs, TyAs [(.sl (.int .u8)), (.sl (.agg [(.int .u8), (.int .i64), (.int .i64), (.agg [(.int .i64), (.int .i64), (.int .i64)])]))] h xs → ACalls F 7 xs h fun v _ => v = .bool true := by
  intro h xs ht
  obtain ⟨a, b, rfl, h1, c, d, rfl, h2, h4⟩ := ht
  simp only [TyAs] at h4
  subst h4
  obtain ⟨s0, l0, e0, k1, k2, _⟩ := sl_open (r := rI .u8) (ok := fun _ => True) (cs := [a]) rfl (fun c hc => by obtain ⟨n, q1, q2⟩ := int_open hc; exact ⟨n, q1, trivial⟩) h1
  obtain ⟨s1, l1, e1, k3, k4, _⟩ := sl_open (r := rActlaw18) (ok := fun _ => True) (cs := [c]) rfl ty_act18 h2
  obtain rfl : a = s0 := by injection e0
  obtain rfl : c = s1 := by injection e1
  exact (r7 k1.frz k3.frz (p7_true l0 l1)).val fun v h' hq => hq.1
end Go.Proofs.Ytgbkpiaonlabgaa
