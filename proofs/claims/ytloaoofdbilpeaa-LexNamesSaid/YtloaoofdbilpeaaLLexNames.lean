/- The law LexNames: its pure function answers true, whatever it is called with; so does the machine's function. No condition. Own work. -/
import Derived.Test.YtloaoofdbilpeaaPLexNames
import Derived.Test.YtloaoofdbilpeaaPm2
import Derived.Laws.RangeAny
import Derived.Laws.RangeString
/- Lexing, plainly: what the tokens of bytes are. Own work. -/
namespace Go.Proofs.Ytloaoofdbilpeaa
open Go Go.Am
set_option linter.unusedVariables false
set_option linter.unusedSimpArgs false
/-- A loop that is told how many rounds are left. -/
theorem loop_cnt {τ ρ : Type} {f : τ → Option (τ ⊕ ρ)} (n : Nat) (I : Nat → τ → Prop) (Q : ρ → Prop)
    (step : ∀ k s, k < n → I k s → (∃ s', f s = some (.inl s') ∧ I (k + 1) s') ∨ ∃ r, f s = some (.inr r) ∧ Q r)
    (done : ∀ s, I n s → ∃ r, f s = some (.inr r) ∧ Q r) {s : τ} (h0 : I 0 s) : ∃ r, loopC f s = some r ∧ Q r := by
  suffices key : ∀ d k s, k + d = n → I k s → ∃ r, iter f (d + 1) s = some r ∧ Q r by
    obtain ⟨r, h1, h2⟩ := key n 0 s (by omega) h0
    exact ⟨r, loopC_iff.2 ⟨_, h1⟩, h2⟩
  intro d
  induction d with
  | zero =>
    intro k s hk hI
    obtain rfl : k = n := by omega
    obtain ⟨r, h1, h2⟩ := done s hI
    exact ⟨r, by simp only [iter, h1], h2⟩
  | succ d ih =>
    intro k s hk hI
    rcases step k s (by omega) hI with ⟨s', h1, h2⟩ | ⟨r, h1, h2⟩
    · obtain ⟨r, h3, h4⟩ := ih (k + 1) s' (by omega) h2
      exact ⟨r, by rw [iter]; simp only [h1]; exact h3, h4⟩
    · exact ⟨r, by rw [iter]; simp only [h1], h2⟩
/-- All are bytes. -/
def Bytes (p : List Int) : Prop := ∀ c, c ∈ p → 0 ≤ c ∧ c ≤ 255
theorem Bytes.get {p : List Int} (h : Bytes p) {i : Nat} (hi : i < p.length) : 0 ≤ p[i] ∧ p[i] ≤ 255 := h _ (List.getElem_mem hi)
def isSm (c : Int) : Bool := decide (97 ≤ c) && decide (c ≤ 122)
def isDg (c : Int) : Bool := decide (48 ≤ c) && decide (c ≤ 57)
def isWd (c : Int) : Bool := isSm c || (isDg c || decide (c = 46))
def isBl (c : Int) : Bool := decide (c = 32) || (decide (c = 9) || (decide (c = 10) || decide (c = 13)))
def isSg (c : Int) : Bool := decide (c = 59) || (decide (c = 58) || (decide (c = 44) || (decide (c = 42) || (decide (c = 33) || (decide (c = 126) || (decide (c = 64) || decide (c = 61)))))))
def nnl (c : Int) : Bool := !decide (c = 10)
/-- Where a run of such ends. -/
def run (P : Int → Bool) (p : List Int) (i : Nat) : Nat := i + ((p.drop i).takeWhile P).length
theorem run_step {P : Int → Bool} {p : List Int} {i : Nat} (hi : i < p.length) : run P p i = if P p[i] = true then run P p (i + 1) else i := by
  unfold run
  rw [List.drop_eq_getElem_cons hi, List.takeWhile_cons]
  split
  · simp; omega
  · simp
theorem run_end {P : Int → Bool} {p : List Int} {i : Nat} (hi : p.length ≤ i) : run P p i = i := by
  unfold run
  rw [List.drop_eq_nil_of_le hi]; rfl
theorem run_ge (P : Int → Bool) (p : List Int) (i : Nat) : i ≤ run P p i := by unfold run; omega
theorem run_le {P : Int → Bool} {p : List Int} {i : Nat} (hi : i ≤ p.length) : run P p i ≤ p.length := by
  unfold run
  have := List.Sublist.length_le (List.takeWhile_sublist P (l := p.drop i))
  rw [List.length_drop] at this
  omega
/-- A number's value, as long as it is not too great. -/
def numv : List Int → Int → Option Int
  | [], n => some n
  | d :: l, n => if 1125899906842624 < 10 * n + (d - 48) then none else numv l (10 * n + (d - 48))
def num (p : List Int) (i : Nat) (n : Int) : Option Int := numv ((p.drop i).takeWhile isDg) n
theorem num_step {p : List Int} {i : Nat} (hi : i < p.length) (n : Int) : num p i n = if isDg p[i] = true then (if 1125899906842624 < 10 * n + (p[i] - 48) then none else num p (i + 1) (10 * n + (p[i] - 48))) else some n := by
  unfold num
  rw [List.drop_eq_getElem_cons hi, List.takeWhile_cons]
  split
  · rfl
  · rfl
theorem num_end {p : List Int} {i : Nat} (hi : p.length ≤ i) (n : Int) : num p i n = some n := by
  unfold num
  rw [List.drop_eq_nil_of_le hi]; rfl
/-- A token: kind, text, number, place. -/
structure Tok where
  k : Int
  s : List UInt8
  n : Int
  at_ : Int
def textOf (p : List Int) (i j : Nat) : List UInt8 := ((p.take j).drop i).map u8
/-- One token: kind, end, number; or the error. -/
def oneS (p : List Int) (i : Nat) : (Int × Nat × Int) ⊕ Int :=
  let c := p.getD i 0
  if isSm c = true then .inl (1, run isWd p (i + 1), 0)
  else if isDg c = true then match num p i 0 with
    | some n => .inl (2, run isDg p (i + 1), n)
    | none => .inr 3
  else if c = 45 ∧ p[i + 1]? = some 62 then .inl (3, i + 2, 0)
  else if isSg c = true then .inl (3, i + 1, 0)
  else .inr 6
/-- One step: to where, with which token; or the error. -/
def stepS (p : List Int) (i : Nat) : (Nat × List Tok) ⊕ Int :=
  let c := p.getD i 0
  if isBl c = true then .inl (i + 1, [])
  else if c = 35 then .inl (run nnl p i, [])
  else match oneS p i with
    | .inl (k, e, n) => .inl (e, [⟨k, textOf p i e, n, (i : Int)⟩])
    | .inr e => .inr e
/-- From a place on, behind some tokens: all tokens; or the error, and where. -/
inductive LexR (p : List Int) : Nat → List Tok → (List Tok × Int × Int) → Prop where
  | done {i : Nat} {l : List Tok} : i = p.length → LexR p i l (l ++ [⟨0, [], 0, (p.length : Int)⟩], 0, 0)
  | go {i j : Nat} {l t : List Tok} {r : List Tok × Int × Int} : i < p.length → stepS p i = .inl (j, t) → LexR p j (l ++ t) r → LexR p i l r
  | err {i : Nat} {l : List Tok} {e : Int} : i < p.length → stepS p i = .inr e → LexR p i l ([], e, (i : Int))
theorem LexR.det {p : List Int} {i : Nat} {l : List Tok} {r r' : List Tok × Int × Int} (h : LexR p i l r) (h' : LexR p i l r') : r = r' := by
  induction h with
  | done e =>
    cases h' with
    | done _ => rfl
    | go h1 _ _ => omega
    | err h1 _ => omega
  | go h1 h2 _ ih =>
    cases h' with
    | done e => omega
    | go _ k2 k3 => rw [h2] at k2; cases k2; exact ih k3
    | err _ k2 => rw [h2] at k2; cases k2
  | err h1 h2 =>
    cases h' with
    | done e => omega
    | go _ k2 _ => rw [h2] at k2; cases k2
    | err _ k2 => rw [h2] at k2; cases k2; rfl
theorem isDg_lt {c : Int} (h : isDg c = true) : 48 ≤ c ∧ c ≤ 57 := by
  simpa [isDg] using h
theorem oneS_gt {p : List Int} {i j : Nat} {k n : Int} (hi : i < p.length) (h : oneS p i = .inl (k, j, n)) : i < j ∧ j ≤ p.length := by
  unfold oneS at h
  simp only at h
  split at h
  · cases h; exact ⟨Nat.lt_of_lt_of_le (Nat.lt_succ_self i) (run_ge _ _ _), run_le (by omega)⟩
  · split at h
    · split at h
      · cases h; exact ⟨Nat.lt_of_lt_of_le (Nat.lt_succ_self i) (run_ge _ _ _), run_le (by omega)⟩
      · cases h
    · split at h
      · rename_i h1
        cases h
        have := (List.getElem?_eq_some_iff.1 h1.2).1
        omega
      · split at h
        · cases h; omega
        · cases h
theorem getD_of {p : List Int} {i : Nat} (hi : i < p.length) : p.getD i 0 = p[i] := by
  rw [List.getD_eq_getElem?_getD, List.getElem?_eq_getElem hi]; rfl
theorem stepS_gt {p : List Int} {i j : Nat} {t : List Tok} (hi : i < p.length) (h : stepS p i = .inl (j, t)) : i < j ∧ j ≤ p.length ∧ t.length ≤ 1 := by
  unfold stepS at h
  simp only at h
  split at h
  · cases h; simp; omega
  · split at h
    · rename_i h1
      cases h
      rw [getD_of hi] at h1
      have : run nnl p i = run nnl p (i + 1) := by rw [run_step hi, if_pos (by rw [h1]; decide)]
      rw [this]
      exact ⟨Nat.lt_of_lt_of_le (Nat.lt_succ_self i) (run_ge _ _ _), run_le (by omega), by simp⟩
    · split at h
      · rename_i h1
        cases h
        obtain ⟨g1, g2⟩ := oneS_gt hi h1
        exact ⟨g1, g2, by simp⟩
      · cases h
/-! ### the program's small functions -/
theorem p37_eq (c : Int) : p37 c = some (isSm c) := by
  unfold p37 p37_j0 isSm
  split <;> rename_i h <;> simp [h]
theorem p38_eq (c : Int) : p38 c = some (isDg c) := by
  unfold p38 p38_j0 isDg
  split <;> rename_i h <;> simp [h]
theorem p33_eq (c : Int) : p33 c = some (isSm c) := by
  unfold p33 p33_j0 isSm
  split <;> rename_i h <;> simp [h]
theorem p34_eq (c : Int) : p34 c = some (isDg c) := by
  unfold p34 p34_j0 isDg
  split <;> rename_i h <;> simp [h]
theorem p48_eq (s : List UInt8) (c : Int) : p48 s c = some (idxB s c) := rfl
theorem indexByte_eq (c : UInt8) : ∀ s : List UInt8, Go.Lib.indexByte s c = if c ∈ s then ((s.takeWhile (fun b => b != c)).length : Int) else -1
  | [] => rfl
  | b :: s => by
    unfold Go.Lib.indexByte
    rw [indexByte_eq c s]
    by_cases h : b = c
    · subst h; simp
    · have h1 : (b == c) = false := by simpa using h
      have h2 : (b != c) = true := by simpa using h
      rw [h1, List.takeWhile_cons, h2]
      simp only [Bool.false_eq_true, if_false, if_true, List.length_cons]
      by_cases hm : c ∈ s
      · rw [if_pos hm, if_pos (List.mem_cons_of_mem _ hm)]
        have : ((((s.takeWhile (fun b => b != c)).length : Nat) : Int) == -1) = false := by
          rw [beq_eq_false_iff_ne]; omega
        rw [this]; simp
      · have hm' : ¬ c ∈ b :: s := by
          intro hh
          rcases List.mem_cons.1 hh with e | hh
          · exact h e.symm
          · exact hm hh
        rw [if_neg hm, if_neg hm']; rfl
theorem u8_inj {a b : Int} (ha : 0 ≤ a ∧ a ≤ 255) (hb : 0 ≤ b ∧ b ≤ 255) : a.toNat.toUInt8 = b.toNat.toUInt8 ↔ a = b := by
  constructor
  · intro h
    have := congrArg UInt8.toNat h
    simp only [Nat.toUInt8, UInt8.toNat_ofNat'] at this
    omega
  · rintro rfl; rfl
theorem mem_u8 {s : List Int} (hs : Bytes s) {c : Int} (hc : 0 ≤ c ∧ c ≤ 255) : c.toNat.toUInt8 ∈ s.map (fun x => x.toNat.toUInt8) ↔ c ∈ s := by
  rw [List.mem_map]
  constructor
  · rintro ⟨a, h1, h2⟩
    rw [(u8_inj (hs a h1) hc).1 h2] at h1
    exact h1
  · intro h; exact ⟨c, h, rfl⟩
theorem idxB_ge {s : List UInt8} {c : Int} : 0 ≤ idxB s c ↔ c.toNat.toUInt8 ∈ s := by
  unfold idxB
  rw [indexByte_eq]
  split
  · rename_i h; simp [h]
  · rename_i h; simp [h]
theorem p48_bl {c : Int} (hc : 0 ≤ c ∧ c ≤ 255) : 0 ≤ idxB ([32, 9, 13, 10] : List UInt8) c ↔ isBl c = true := by
  rw [idxB_ge, show ([32, 9, 13, 10] : List UInt8) = ([32, 9, 13, 10] : List Int).map (fun x => x.toNat.toUInt8) from rfl, mem_u8 (by intro x hx; simp at hx; omega) hc]
  simp [isBl]
  omega
theorem p48_sg {c : Int} (hc : 0 ≤ c ∧ c ≤ 255) : 0 ≤ idxB ([59, 58, 44, 42, 33, 126, 64, 61] : List UInt8) c ↔ isSg c = true := by
  rw [idxB_ge, show ([59, 58, 44, 42, 33, 126, 64, 61] : List UInt8) = ([59, 58, 44, 42, 33, 126, 64, 61] : List Int).map (fun x => x.toNat.toUInt8) from rfl, mem_u8 (by intro x hx; simp at hx; omega) hc]
  simp [isSg]
end Go.Proofs.Ytloaoofdbilpeaa

/- The program's lexer, plainly. Own work. -/
namespace Go.Proofs.Ytloaoofdbilpeaa
open Go Go.Am
set_option linter.unusedVariables false
set_option linter.unusedSimpArgs false
theorem slc_ok {α : Type} {l : List α} {i j : Nat} (h : i ≤ j) (hj : j ≤ l.length) : slc l (i : Int) (j : Int) = some ((l.take j).drop i) := by
  unfold slc
  rw [if_pos (by omega)]
  simp
theorem take_nl {p : List Int} (hp : Bytes p) (i : Nat) : ((p.drop i).map (fun x => x.toNat.toUInt8)).takeWhile (fun b => b != (10 : Int).toNat.toUInt8) = ((p.drop i).takeWhile nnl).map (fun x => x.toNat.toUInt8) := by
  have : ∀ q : List Int, Bytes q → (q.map (fun x => x.toNat.toUInt8)).takeWhile (fun b => b != (10 : Int).toNat.toUInt8) = (q.takeWhile nnl).map (fun x => x.toNat.toUInt8) := by
    intro q hq
    induction q with
    | nil => rfl
    | cons c q ih =>
      have hc := hq c (by simp)
      have ih := ih (fun x hx => hq x (by simp [hx]))
      rw [List.map_cons, List.takeWhile_cons, List.takeWhile_cons]
      by_cases h : c = 10
      · subst h; rfl
      · have h1 : (c.toNat.toUInt8 != (10 : Int).toNat.toUInt8) = true := by
          rw [bne_iff_ne]
          intro e
          exact h ((u8_inj hc (by omega)).1 e)
        have h2 : nnl c = true := by simp [nnl, h]
        rw [h1, h2]
        simp only [if_true, List.map_cons, ih]
  exact this _ (fun c hc => hp c (List.mem_of_mem_drop hc))
theorem u8_eq : (fun x : Int => x.toNat.toUInt8) = u8 := by
  funext x; rfl
/-- A line's end from a place on: none; or where. -/
theorem nl_idx {p : List Int} (hp : Bytes p) {i : Nat} (hi : i ≤ p.length) : (idxB ((p.drop i).map u8) 10 < 0 ∧ run nnl p i = p.length) ∨ (idxB ((p.drop i).map u8) 10 = ((run nnl p i - i : Nat) : Int) ∧ ∃ h : run nnl p i < p.length, p[run nnl p i] = 10) := by
  unfold idxB
  have hmu := mem_u8 (s := p.drop i) (c := 10) (fun c hc => hp c (List.mem_of_mem_drop hc)) (by omega)
  rw [indexByte_eq, ← u8_eq, take_nl hp, List.length_map]
  by_cases hm : (10 : Int) ∈ p.drop i
  · rw [if_pos (hmu.2 hm)]
    right
    refine ⟨by unfold run; rw [Nat.add_sub_cancel_left], ?_⟩
    have key : ∀ q : List Int, (10 : Int) ∈ q → ∃ h : (q.takeWhile nnl).length < q.length, q[(q.takeWhile nnl).length] = 10 := by
      intro q hq
      induction q with
      | nil => cases hq
      | cons c q ih =>
        rw [List.takeWhile_cons]
        by_cases h : c = 10
        · subst h; exact ⟨by simp [nnl], by simp [nnl]⟩
        · have h2 : nnl c = true := by simp [nnl, h]
          obtain ⟨g1, g2⟩ := ih (by rcases List.mem_cons.1 hq with e | e; exact absurd e.symm h; exact e)
          simp only [h2, if_true, List.length_cons, List.getElem_cons_succ]
          exact ⟨by omega, g2⟩
    obtain ⟨g1, g2⟩ := key _ hm
    rw [List.length_drop] at g1
    refine ⟨by unfold run; omega, ?_⟩
    rw [List.getElem_drop] at g2
    exact g2
  · rw [if_neg (fun h => hm (hmu.1 h))]
    left
    refine ⟨by omega, ?_⟩
    have key : ∀ q : List Int, ¬ (10 : Int) ∈ q → q.takeWhile nnl = q := by
      intro q hq
      induction q with
      | nil => rfl
      | cons c q ih =>
        have h2 : nnl c = true := by
          simp only [nnl, Bool.not_eq_true', decide_eq_false_iff_not]
          rintro rfl
          exact hq (by simp)
        rw [List.takeWhile_cons, h2]
        simp only [if_true]
        rw [ih (fun h => hq (by simp [h]))]
    unfold run
    rw [key _ hm, List.length_drop]; omega
/-- The blanks. -/
theorem p31_eq {p : List Int} (hp : Bytes p) (hl : p.length ≤ 1000000) {i : Nat} (hi : i ≤ p.length) :
    ∃ j : Nat, p31 p (i : Int) = some (j : Int) ∧ i ≤ j ∧ j ≤ p.length ∧ (∀ l r, LexR p j l r → LexR p i l r) ∧ (∀ h : j < p.length, isBl p[j] = false ∧ p[j] ≠ 35) := by
  have key : ∃ r, loopC (p31_l0 p) (i : Int) = some r ∧ ∃ j : Nat, (r = .inl (j : Int) ∨ r = .inr (j : Int)) ∧ i ≤ j ∧ j ≤ p.length ∧ (∀ l r, LexR p j l r → LexR p i l r) ∧ (∀ h : j < p.length, isBl p[j] = false ∧ p[j] ≠ 35) := by
    refine loop_cnt (p.length - i) (fun k s => ∃ j : Nat, s = (j : Int) ∧ i + k ≤ j ∧ j ≤ p.length ∧ ∀ l r, LexR p j l r → LexR p i l r) _ ?_ ?_ ⟨i, rfl, by omega, hi, fun _ _ h => h⟩
    · rintro k _ hk ⟨j, rfl, h1, h2, h3⟩
      unfold p31_l0
      by_cases hj : j < p.length
      · have hb := hp.get hj
        rw [if_pos (by omega), idx_get hj]
        simp only [Option.bind_some, p48_eq]
        by_cases hbl : isBl p[j] = true
        · rw [if_pos ((p48_bl hb).2 hbl)]
          refine .inl ⟨_, rfl, j + 1, by rw [wrap64 (by omega) (by omega)]; rfl, by omega, by omega, fun l r h => h3 l r (.go hj (t := []) (j := j + 1) ?_ (by simpa using h))⟩
          unfold stepS
          simp only [getD_of hj]
          rw [if_pos hbl]
        · rw [if_neg (fun h => hbl ((p48_bl hb).1 h))]
          by_cases hc : p[j] = 35
          · rw [if_pos hc, slc_ok (Nat.le_of_lt hj) (Nat.le_refl _), List.take_length]
            simp only [Option.bind_some]
            have hst : stepS p j = .inl (run nnl p j, []) := by
              unfold stepS
              simp only [getD_of hj]
              rw [if_neg hbl, if_pos hc]
            obtain ⟨hg1, hg2, _⟩ := stepS_gt hj hst
            rcases nl_idx hp (Nat.le_of_lt hj) with ⟨g1, g2⟩ | ⟨g1, g2, g3⟩
            · rw [if_pos g1]
              refine .inr ⟨_, rfl, p.length, .inl rfl, by omega, Nat.le_refl _, fun l r h => h3 l r (.go hj hst (by rw [g2]; simpa using h)), fun h => absurd h (by omega)⟩
            · rw [g1, if_neg (by omega)]
              refine .inl ⟨_, rfl, run nnl p j, by rw [wrap64 (by omega) (by omega)]; omega, by omega, hg2, fun l r h => h3 l r (.go hj hst (by simpa using h))⟩
          · rw [if_neg hc]
            exact .inr ⟨_, rfl, j, .inl rfl, by omega, h2, h3, fun _ => ⟨by simpa using hbl, hc⟩⟩
      · rw [if_neg (by omega)]
        exact .inr ⟨_, rfl, j, .inr rfl, by omega, h2, h3, fun h => absurd h hj⟩
    · rintro _ ⟨j, rfl, h1, h2, h3⟩
      unfold p31_l0
      rw [if_neg (by omega)]
      exact ⟨_, rfl, j, .inr rfl, by omega, h2, h3, fun h => absurd h (by omega)⟩
  obtain ⟨r, h1, j, h2, h3⟩ := key
  refine ⟨j, ?_, h3⟩
  unfold p31
  rw [h1]
  rcases h2 with rfl | rfl <;> rfl
/-- A run of a word's bytes. -/
theorem p32_word {p : List Int} (hl : p.length ≤ 1000000) {i : Nat} (hi : i ≤ p.length) : loopC (p32_l0 p) (i : Int) = some ((run isWd p i : Nat) : Int) := by
  obtain ⟨r, h1, h2⟩ : ∃ r, loopC (p32_l0 p) (i : Int) = some r ∧ r = ((run isWd p i : Nat) : Int) := by
    refine loop_cnt (p.length - i) (fun k s => s = ((i + k : Nat) : Int) ∧ run isWd p i = run isWd p (i + k)) _ ?_ ?_ ⟨rfl, rfl⟩
    · rintro k _ hk ⟨rfl, h⟩
      have hj : i + k < p.length := by omega
      rw [run_step hj] at h
      unfold p32_l0
      rw [if_pos (by omega), idx_get hj]
      simp only [Option.bind_some, p37_eq, p38_eq]
      have fin : ∀ b : Bool, b = isWd p[i + k] → (∃ s', p32_j1 ((i + k : Nat) : Int) b = some (.inl s') ∧ s' = ((i + (k + 1) : Nat) : Int) ∧ run isWd p i = run isWd p (i + (k + 1))) ∨ ∃ r, p32_j1 ((i + k : Nat) : Int) b = some (.inr r) ∧ r = ((run isWd p i : Nat) : Int) := by
        rintro b rfl
        unfold p32_j1
        cases hw : isWd p[i + k] with
        | true =>
          rw [if_pos rfl]
          rw [hw, if_pos rfl] at h
          exact .inl ⟨_, rfl, by rw [wrap64 (by omega) (by omega)]; omega, h⟩
        | false =>
          rw [if_neg (by simp)]
          rw [hw, if_neg (by simp)] at h
          exact .inr ⟨_, rfl, by rw [h]⟩
      unfold p32_j3 p32_j2
      cases hs : isSm p[i + k] with
      | true =>
        rw [if_pos rfl, if_pos rfl]
        exact fin _ (by simp [isWd, hs])
      | false =>
        rw [if_neg (by simp)]
        cases hd : isDg p[i + k] with
        | true =>
          rw [if_pos rfl]
          exact fin _ (by simp [isWd, hs, hd])
        | false =>
          rw [if_neg (by simp), idx_get hj]
          exact fin _ (by simp [isWd, hs, hd])
    · rintro _ ⟨rfl, h⟩
      rw [run_end (i := i + (p.length - i)) (by omega)] at h
      unfold p32_l0 p32_j1
      rw [if_neg (by omega), if_neg (by simp)]
      exact ⟨_, rfl, by rw [h]⟩
  rw [h1, h2]
/-- A run of digits, and their number. -/
theorem p32_num {p : List Int} (hl : p.length ≤ 1000000) {i : Nat} (hi : i ≤ p.length) {n : Int} (h0 : 0 ≤ n) (h1 : n ≤ 1125899906842624) :
    ∃ r, loopC (p32_l1 p) ((i : Int), n) = some r ∧ (match num p i n with | some m => r = .inr ((run isDg p i : Nat), m) | none => ∃ u, r = .inl u) := by
  refine loop_cnt (p.length - i) (fun k s => ∃ m : Int, s = (((i + k : Nat) : Int), m) ∧ 0 ≤ m ∧ m ≤ 1125899906842624 ∧ run isDg p i = run isDg p (i + k) ∧ num p i n = num p (i + k) m) _ ?_ ?_ ⟨n, rfl, h0, h1, rfl, rfl⟩
  · rintro k _ hk ⟨m, rfl, g0, g1, g2, g3⟩
    have hj : i + k < p.length := by omega
    rw [run_step hj] at g2
    rw [num_step hj] at g3
    unfold p32_l1
    simp only
    rw [if_pos (by omega), idx_get hj]
    simp only [Option.bind_some, p38_eq]
    unfold p32_j4
    cases hd : isDg p[i + k] with
    | true =>
      have hb := isDg_lt hd
      rw [if_pos rfl, idx_get hj]
      simp only [Option.bind_some]
      have e1 : IntKind.wrap .u8 (p[i + k] - 48) = p[i + k] - 48 := IntWalk.u8_in _ (by omega)
      rw [e1, wrap64 (n := 10 * m) (by omega) (by omega), wrap64 (n := p[i + k] - 48) (by omega) (by omega), wrap64 (by omega) (by omega)]
      rw [hd, if_pos rfl] at g2 g3
      by_cases hc : 1125899906842624 < 10 * m + (p[i + k] - 48)
      · rw [if_pos hc] at g3 ⊢
        refine .inr ⟨_, rfl, ?_⟩
        rw [g3]
        exact ⟨_, rfl⟩
      · rw [if_neg hc] at g3 ⊢
        exact .inl ⟨_, rfl, 10 * m + (p[i + k] - 48), by rw [wrap64 (by omega) (by omega)]; rfl, by omega, by omega, g2, g3⟩
    | false =>
      rw [if_neg (by simp)]
      rw [hd, if_neg (by simp)] at g2 g3
      refine .inr ⟨_, rfl, ?_⟩
      rw [g3, g2]
  · rintro _ ⟨m, rfl, g0, g1, g2, g3⟩
    rw [run_end (i := i + (p.length - i)) (by omega)] at g2
    rw [num_end (i := i + (p.length - i)) (by omega)] at g3
    unfold p32_l1 p32_j4
    simp only
    rw [if_neg (by omega), if_neg (by simp)]
    refine ⟨_, rfl, ?_⟩
    rw [g3, g2]
end Go.Proofs.Ytloaoofdbilpeaa

/- Lines and columns, plainly. Own work. -/
namespace Go.Proofs.Ytloaoofdbilpeaa
open Go Go.Am
set_option linter.unusedVariables false
set_option linter.unusedSimpArgs false
/-- Where the last line's end ahead of a place stands. -/
def lastN (p : List Int) : Nat → Int
  | 0 => -1
  | i + 1 => if p[i]? = some 10 then (i : Int) else lastN p i
/-- How many lines' ends stand ahead of a place. -/
def cntN (p : List Int) : Nat → Nat
  | 0 => 0
  | i + 1 => cntN p i + if p[i]? = some 10 then 1 else 0
theorem lastN_succ (p : List Int) (i : Nat) : lastN p (i + 1) = if p[i]? = some 10 then (i : Int) else lastN p i := rfl
theorem cntN_succ (p : List Int) (i : Nat) : cntN p (i + 1) = cntN p i + if p[i]? = some 10 then 1 else 0 := rfl
theorem lastN_lt (p : List Int) : ∀ i : Nat, -1 ≤ lastN p i ∧ lastN p i < (i : Int)
  | 0 => ⟨Int.le_refl _, by show (-1 : Int) < 0; omega⟩
  | i + 1 => by
    have := lastN_lt p i
    unfold lastN
    split <;> omega
theorem cntN_le (p : List Int) : ∀ i : Nat, cntN p i ≤ i
  | 0 => Nat.le_refl _
  | i + 1 => by
    have := cntN_le p i
    unfold cntN
    split <;> omega
theorem p20_eq {p : List Int} (hl : p.length ≤ 1000000) {i : Nat} (hi : i ≤ p.length) : p20 p (i : Int) = some (1 + (cntN p i : Int), (i : Int) - lastN p i) := by
  obtain ⟨r, h1, h2⟩ : ∃ r, loopC (p20_l0 p (i : Int)) ((1 : Int), (1 : Int), (0 : Int)) = some r ∧ r = (1 + (cntN p i : Int), (i : Int) - lastN p i) := by
    refine loop_cnt i (fun k (st : Int × Int × Int) => st = (1 + (cntN p k : Int), (k : Int) - lastN p k, (k : Int))) _ ?_ ?_ rfl
    · rintro k _ hk rfl
      have hj : k < p.length := by omega
      have b1 := lastN_lt p k
      have b2 := cntN_le p k
      refine .inl ⟨_, ?_, rfl⟩
      unfold p20_l0
      simp only
      rw [if_pos (by omega)]
      unfold p20_j1
      rw [if_pos (by simp; omega), idx_get hj]
      simp only [Option.bind_some]
      unfold p20_j0
      rw [lastN_succ, cntN_succ, List.getElem?_eq_getElem hj, wrap64 (n := (k : Int) + 1) (by omega) (by omega)]
      by_cases hc : p[k] = 10
      · rw [if_pos hc, if_pos (by rw [hc]), if_pos (by rw [hc]), wrap64 (by omega) (by omega)]
        refine congrArg (fun x => some (Sum.inl x)) (Prod.ext ?_ (Prod.ext ?_ ?_))
        · simp only; push_cast; omega
        · simp only; push_cast; omega
        · simp only; push_cast; omega
      · have hc' : ¬ some p[k] = some 10 := fun h => hc (Option.some.inj h)
        rw [if_neg hc, if_neg hc', if_neg hc', wrap64 (by omega) (by omega)]
        refine congrArg (fun x => some (Sum.inl x)) (Prod.ext ?_ (Prod.ext ?_ ?_))
        · simp only; push_cast; omega
        · simp only; push_cast; omega
        · simp only; push_cast; omega
    · rintro _ rfl
      unfold p20_l0 p20_j1
      simp only
      rw [if_neg (by omega), if_neg (by simp)]
      exact ⟨_, rfl, rfl⟩
  unfold p20
  rw [h1, h2]
  rfl
theorem u8_nat {c : Int} (hc : 0 ≤ c ∧ c ≤ 255) : ((u8 c).toNat : Int) = c := by
  unfold u8
  simp only [UInt8.toNat_ofNat']
  omega
theorem p52_eq {p : List Int} (hp : Bytes p) (hl : p.length ≤ 1000000) {i : Nat} (hi : i ≤ p.length) : p52 ((p.take i).map u8) 10 = some (lastN p i) := by
  have hlen : ((p.take i).map u8).length = i := by simp; omega
  unfold p52
  rw [hlen, wrap64 (by omega) (by omega)]
  obtain ⟨r, h1, h2⟩ : ∃ r, loopC (p52_l0 ((p.take i).map u8) 10) ((i : Int) - 1) = some r ∧ (r = .inl (lastN p i) ∨ (r = .inr () ∧ lastN p i = -1)) := by
    refine loop_cnt i (fun d (st : Int) => st = (i : Int) - d - 1 ∧ lastN p i = lastN p (i - d)) _ ?_ ?_ ⟨by omega, rfl⟩
    · rintro d _ hd ⟨rfl, h⟩
      obtain ⟨j, hj⟩ : ∃ j, i - d = j + 1 := ⟨i - d - 1, by omega⟩
      have e1 : (i : Int) - d - 1 = (j : Int) := by omega
      have hjp : j < p.length := by omega
      rw [hj] at h
      rw [lastN_succ, List.getElem?_eq_getElem hjp] at h
      unfold p52_l0
      rw [e1, if_pos (by omega)]
      have hix : idxS ((p.take i).map u8) (j : Int) = some p[j] := by
        unfold idxS
        rw [if_pos (by omega), Int.toNat_natCast, List.getElem?_map, List.getElem?_take, if_pos (by omega), List.getElem?_eq_getElem hjp]
        simp only [Option.map_some]
        rw [u8_nat (hp.get hjp)]
      rw [hix]
      simp only [Option.bind_some]
      by_cases hc : p[j] = 10
      · rw [if_pos hc]
        rw [if_pos (by rw [hc])] at h
        exact .inr ⟨_, rfl, .inl (by rw [h])⟩
      · rw [if_neg hc]
        rw [if_neg (fun e => hc (Option.some.inj e))] at h
        refine .inl ⟨_, rfl, ?_, ?_⟩
        · rw [wrap64 (by omega) (by omega)]; omega
        · rw [h, show i - (d + 1) = j by omega]
    · rintro _ ⟨rfl, h⟩
      rw [Nat.sub_self] at h
      unfold p52_l0
      rw [if_neg (by omega)]
      exact ⟨_, rfl, .inr ⟨rfl, h⟩⟩
  rw [h1]
  rcases h2 with rfl | ⟨rfl, h⟩
  · rfl
  · rw [h]; rfl
theorem cntB_eq {p : List Int} (hp : Bytes p) : ∀ {i : Nat}, i ≤ p.length → cntB ((p.take i).map u8) 10 = (cntN p i : Int)
  | 0, _ => rfl
  | i + 1, hi => by
    have ih := cntB_eq hp (i := i) (by omega)
    have hj : i < p.length := by omega
    unfold cntB Go.Lib.countByte at ih ⊢
    rw [List.take_succ_eq_append_getElem hj, List.map_append, List.count_append]
    rw [cntN_succ, List.getElem?_eq_getElem hj]
    have : ([p[i]].map u8).count (10 : Int).toNat.toUInt8 = if some p[i] = some 10 then 1 else 0 := by
      rw [List.map_singleton, List.count_singleton]
      by_cases hc : p[i] = 10
      · rw [hc]; rfl
      · have h1 : ¬ (u8 p[i] = (10 : Int).toNat.toUInt8) := fun e => hc ((u8_inj (hp.get hj) (by omega)).1 e)
        rw [if_neg (by simpa using h1), if_neg (fun e => hc (Option.some.inj e))]
    rw [this]
    omega
theorem p21_eq {p : List Int} (hp : Bytes p) (hl : p.length ≤ 1000000) (a : Int) {i : Nat} (hi : i ≤ p.length) (ha : (if (p.length : Int) < (if a < (0 : Int) then (0 : Int) else a) then (p.length : Int) else (if a < (0 : Int) then (0 : Int) else a)) = (i : Int)) :
    p21 p a = some (1 + (cntN p i : Int), (i : Int) - lastN p i) := by
  have b1 := lastN_lt p i
  have b2 := cntN_le p i
  unfold p21
  rw [ha, show (0 : Int) = ((0 : Nat) : Int) from rfl, slc_ok (Nat.zero_le i) hi, List.drop_zero]
  simp only [Option.bind_some]
  have h35 : p35 ((p.take i).map u8) [10] = some (cntN p i : Int) := by
    unfold p35
    rw [if_neg (by simp), if_pos (by simp), show idxS ([10] : List UInt8) 0 = some 10 from rfl]
    simp only [Option.bind_some]
    rw [cntB_eq hp hi]
  rw [h35]
  simp only [Option.bind_some]
  unfold p36
  rw [p52_eq hp hl hi]
  simp only [Option.bind_some]
  rw [wrap64 (by omega) (by omega), wrap64 (by omega) (by omega)]
  congr 2
  omega
theorem p22_eq {p : List Int} (hp : Bytes p) (hl : p.length ≤ 1000000) (e : Int) {i : Nat} (hi : i ≤ p.length) : p22 p e (i : Int) = some ⟨e, (i : Int), 1 + (cntN p i : Int), (i : Int) - lastN p i⟩ := by
  unfold p22
  rw [p21_eq hp hl (i : Int) hi (by rw [if_neg (show ¬ (i : Int) < 0 by omega), if_neg (by omega)])]
  rfl
end Go.Proofs.Ytloaoofdbilpeaa

/- The program's tokens are the document's, plainly. Own work. -/
namespace Go.Proofs.Ytloaoofdbilpeaa
open Go Go.Am
set_option linter.unusedVariables false
set_option linter.unusedSimpArgs false
/-- One token by the program. -/
theorem p32_eq {p : List Int} (hp : Bytes p) (hl : p.length ≤ 1000000) {i : Nat} (hi : i < p.length) : p32 p (i : Int) = match oneS p i with
    | .inl (k, j, n) => some (⟨k, textOf p i j, n, (i : Int)⟩, 0)
    | .inr e => some (⟨0, [], 0, 0⟩, e) := by
  have hb := hp.get hi
  have put : ∀ (j : Nat) (k n : Int), i ≤ j → j ≤ p.length → p32_j0 p (i : Int) (j : Int) k n = some (⟨k, textOf p i j, n, (i : Int)⟩, 0) := by
    intro j k n h1 h2
    unfold p32_j0
    rw [slc_ok h1 h2]; rfl
  have hw1 : IntKind.wrap .i64 ((i : Int) + 1) = ((i + 1 : Nat) : Int) := by rw [wrap64 (by omega) (by omega)]; rfl
  have hw2 : IntKind.wrap .i64 (((i + 1 : Nat) : Int) + 1) = ((i + 2 : Nat) : Int) := by rw [wrap64 (by omega) (by omega)]; rfl
  unfold p32 oneS
  simp only [getD_of hi]
  rw [idx_get hi]
  simp only [Option.bind_some, p37_eq, p38_eq]
  rw [hw1]
  by_cases hs : isSm p[i] = true
  · rw [if_pos hs, if_pos hs, p32_word hl (by omega)]
    simp only [Option.bind_some]
    exact put _ _ _ (Nat.le_trans (Nat.le_succ i) (run_ge _ _ _)) (run_le (by omega))
  rw [if_neg hs, if_neg hs]
  by_cases hd : isDg p[i] = true
  · rw [if_pos hd, if_pos hd]
    have hb2 := isDg_lt hd
    have e1 : IntKind.wrap .u8 (p[i] - 48) = p[i] - 48 := IntWalk.u8_in _ (by omega)
    rw [e1, wrap64 (n := p[i] - 48) (by omega) (by omega)]
    obtain ⟨r, h1, h2⟩ := p32_num hl (i := i + 1) (by omega) (n := p[i] - 48) (by omega) (by omega)
    have hn := num_step hi 0
    rw [if_pos hd, if_neg (by omega), show (10 : Int) * 0 + (p[i] - 48) = p[i] - 48 by omega] at hn
    rw [h1, hn]
    simp only [Option.bind_some]
    cases hv : num p (i + 1) (p[i] - 48) with
    | none =>
      rw [hv] at h2
      obtain ⟨u, rfl⟩ := h2
      rfl
    | some m =>
      rw [hv] at h2
      subst h2
      exact put _ _ _ (Nat.le_trans (Nat.le_succ i) (run_ge _ _ _)) (run_le (by omega))
  rw [if_neg hd, if_neg hd]
  have last : ∀ b : Bool, b = decide (p[i] = 45 ∧ p[i + 1]? = some 62) → p32_j5 p (i : Int) p[i] b = match (if p[i] = 45 ∧ p[i + 1]? = some 62 then Sum.inl (3, i + 2, 0) else if isSg p[i] = true then Sum.inl (3, i + 1, 0) else Sum.inr 6 : (Int × Nat × Int) ⊕ Int) with
    | .inl (k, j, n) => some (⟨k, textOf p i j, n, (i : Int)⟩, 0)
    | .inr e => some (⟨0, [], 0, 0⟩, e) := by
    rintro b rfl
    unfold p32_j5
    rw [hw1, hw2]
    by_cases h : p[i] = 45 ∧ p[i + 1]? = some 62
    · have := (List.getElem?_eq_some_iff.1 h.2).1
      rw [if_pos (by simpa using h), if_pos h]
      exact put _ _ _ (by omega) (by omega)
    · rw [if_neg (by simpa using h), if_neg h]
      simp only [p48_eq, Option.bind_some]
      by_cases hg : isSg p[i] = true
      · rw [if_pos ((p48_sg hb).2 hg), if_pos hg]
        exact put _ _ _ (by omega) (by omega)
      · rw [if_neg (fun h => hg ((p48_sg hb).1 h)), if_neg hg]
  by_cases hm : p[i] = 45
  · rw [if_pos hm]
    unfold p32_j6
    by_cases hj : i + 1 < p.length
    · rw [if_pos (by simp; omega), hw1, idx_get hj]
      simp only [Option.bind_some]
      exact last _ (by simp [hm, List.getElem?_eq_getElem hj])
    · rw [if_neg (by simp; omega)]
      exact last _ (by simp [List.getElem?_eq_none (Nat.le_of_not_lt hj)])
  · rw [if_neg hm]
    unfold p32_j6
    rw [if_neg (by simp)]
    exact last _ (by simp [hm])
def tokL (t : TTokenlex) : Tok := ⟨t.Kind, t.Text, t.N, t.At⟩
def tokR (t : TToken) : Tok := ⟨t.Kind, t.Text, t.N, t.At⟩
theorem oneS_err {p : List Int} {i : Nat} {e : Int} (h : oneS p i = .inr e) : e = 3 ∨ e = 6 := by
  unfold oneS at h
  simp only at h
  repeat' split at h
  all_goals first | (cases h; done) | (cases h; simp)
theorem stepS_err {p : List Int} {i : Nat} {e : Int} (h : stepS p i = .inr e) : e = 3 ∨ e = 6 := by
  unfold stepS at h
  simp only at h
  split at h
  · cases h
  · split at h
    · cases h
    · split at h
      · cases h
      · rename_i h1; cases h; exact oneS_err h1
theorem stepS_one {p : List Int} {i : Nat} (hi : i < p.length) (h1 : isBl p[i] = false) (h2 : p[i] ≠ 35) : stepS p i = match oneS p i with
    | .inl (k, e, n) => .inl (e, [⟨k, textOf p i e, n, (i : Int)⟩])
    | .inr e => .inr e := by
  unfold stepS
  simp only [getD_of hi]
  rw [if_neg (by simp [h1]), if_neg h2]
  all_goals (cases oneS p i <;> rfl)
theorem text_len {p : List Int} {i j : Nat} (h : i ≤ j) (hj : j ≤ p.length) : (textOf p i j).length = j - i := by
  unfold textOf
  simp; omega
/-- The program's lexer: the tokens, or a fault where the first one is. -/
theorem p18_eq {p : List Int} (hp : Bytes p) (hl : p.length ≤ 1000000) : ∃ r, p18 p = some r ∧ ∃ L e a, LexR p 0 [] (L, e, a) ∧
    ((e = 0 ∧ r.2 = ⟨0, 0, 0, 0⟩ ∧ r.1.map tokL = L) ∨ (e ≠ 0 ∧ ∃ i : Nat, i ≤ p.length ∧ a = (i : Int) ∧ r = ([], ⟨e, (i : Int), 1 + (cntN p i : Int), (i : Int) - lastN p i⟩))) := by
  have key : ∃ r, loopC (p18_l0 p) ((0 : Int), []) = some r ∧ ∃ L e a, LexR p 0 [] (L, e, a) ∧
      ((e = 0 ∧ r.2 = (0, 0, 0, 0) ∧ r.1.map tokL = L) ∨ (e ≠ 0 ∧ ∃ i : Nat, i ≤ p.length ∧ a = (i : Int) ∧ r = ([], e, (i : Int), 1 + (cntN p i : Int), (i : Int) - lastN p i))) := by
    have round : ∀ (i : Nat) (l : List TTokenlex), i ≤ p.length → l.length ≤ i → (∀ r, LexR p i (l.map tokL) r → LexR p 0 [] r) →
        (∃ (j : Nat) (l' : List TTokenlex), p18_l0 p ((i : Int), l) = some (.inl ((j : Int), l')) ∧ i < j ∧ j ≤ p.length ∧ l'.length ≤ j ∧ ∀ r, LexR p j (l'.map tokL) r → LexR p 0 [] r) ∨
        ∃ r, p18_l0 p ((i : Int), l) = some (.inr r) ∧ ∃ L e a, LexR p 0 [] (L, e, a) ∧
          ((e = 0 ∧ r.2 = (0, 0, 0, 0) ∧ r.1.map tokL = L) ∨ (e ≠ 0 ∧ ∃ i : Nat, i ≤ p.length ∧ a = (i : Int) ∧ r = ([], e, (i : Int), 1 + (cntN p i : Int), (i : Int) - lastN p i))) := by
      intro i l hi hll hr
      obtain ⟨j, h1, h2, h3, h4, h5⟩ := p31_eq hp hl hi
      unfold p18_l0
      simp only
      rw [h1]
      simp only [Option.bind_some]
      by_cases hj : j = p.length
      · subst hj
        rw [if_pos rfl, app_ok (by simp; omega)]
        refine .inr ⟨_, rfl, _, 0, 0, hr _ (h4 _ _ (.done rfl)), .inl ⟨rfl, rfl, ?_⟩⟩
        simp [tokL]
      · have hj' : j < p.length := by omega
        obtain ⟨g1, g2⟩ := h5 hj'
        have hst := stepS_one hj' g1 g2
        rw [if_neg (by omega), p32_eq hp hl hj']
        cases ho : oneS p j with
        | inr e =>
          rw [ho] at hst
          simp only [Option.bind_some]
          have he := oneS_err ho
          rw [if_pos (by simp; omega), p22_eq hp hl e (Nat.le_of_lt hj')]
          exact .inr ⟨_, rfl, [], e, _, hr _ (h4 _ _ (.err hj' hst)), .inr ⟨by omega, j, Nat.le_of_lt hj', rfl, rfl⟩⟩
        | inl q =>
          obtain ⟨k, e, n⟩ := q
          rw [ho] at hst
          obtain ⟨g3, g4⟩ := oneS_gt hj' ho
          simp only [Option.bind_some]
          rw [if_neg (by simp), app_ok (by simp; omega)]
          simp only [Option.bind_some]
          have hlen := text_len (p := p) (Nat.le_of_lt g3) g4
          refine .inl ⟨e, l ++ [⟨k, textOf p j e, n, (j : Int)⟩], ?_, by omega, g4, by simp; omega, fun r h => hr _ (h4 _ _ (.go hj' hst ?_))⟩
          · rw [hlen, wrap64 (by omega) (by omega), show (j : Int) + ((e - j : Nat) : Int) = (e : Int) by omega]
          · simpa [tokL] using h
    refine loop_cnt p.length (fun k st => ∃ (i : Nat) (l : List TTokenlex), st = ((i : Int), l) ∧ k ≤ i ∧ i ≤ p.length ∧ l.length ≤ i ∧ ∀ r, LexR p i (l.map tokL) r → LexR p 0 [] r) _ ?_ ?_ ⟨0, [], rfl, Nat.le_refl _, Nat.zero_le _, Nat.le_refl _, fun _ h => h⟩
    · rintro k _ hk ⟨i, l, rfl, h1, h2, h3, h4⟩
      rcases round i l h2 h3 h4 with ⟨j, l', g1, g2, g3, g4, g5⟩ | h
      · exact .inl ⟨_, g1, j, l', rfl, by omega, g3, g4, g5⟩
      · exact .inr h
    · rintro _ ⟨i, l, rfl, h1, h2, h3, h4⟩
      rcases round i l h2 h3 h4 with ⟨j, l', g1, g2, g3, g4, g5⟩ | h
      · omega
      · exact h
  obtain ⟨r, h1, L, e, a, h2, h3⟩ := key
  unfold p18
  rw [h1]
  obtain ⟨y, c1, c2, c3, c4⟩ := r
  refine ⟨_, rfl, L, e, a, h2, ?_⟩
  rcases h3 with ⟨g1, g2, g3⟩ | ⟨g1, i, g2, g3, g4⟩
  · simp only [Prod.mk.injEq] at g2
    obtain ⟨rfl, rfl, rfl, rfl⟩ := g2
    exact .inl ⟨g1, rfl, g3⟩
  · simp only [Prod.mk.injEq] at g4
    obtain ⟨rfl, rfl, rfl, rfl, rfl⟩ := g4
    exact .inr ⟨g1, i, g2, g3, rfl⟩
end Go.Proofs.Ytloaoofdbilpeaa

/- The document's tokens, plainly. Own work. -/
namespace Go.Proofs.Ytloaoofdbilpeaa
open Go Go.Am
set_option linter.unusedVariables false
set_option linter.unusedSimpArgs false
/-- A loop that goes as far as a run does. -/
theorem run_loop {P : Int → Bool} {p : List Int} (hl : p.length ≤ 1000000) {f : Int → Option (Int ⊕ Int)}
    (hin : ∀ j : Nat, ∀ h : j < p.length, f (j : Int) = if P p[j] = true then some (.inl (IntKind.wrap .i64 ((j : Int) + 1))) else some (.inr (j : Int)))
    (hout : f (p.length : Int) = some (.inr (p.length : Int))) {i : Nat} (hi : i ≤ p.length) : loopC f (i : Int) = some ((run P p i : Nat) : Int) := by
  obtain ⟨r, h1, h2⟩ : ∃ r, loopC f (i : Int) = some r ∧ r = ((run P p i : Nat) : Int) := by
    refine loop_cnt (p.length - i) (fun k s => s = ((i + k : Nat) : Int) ∧ run P p i = run P p (i + k)) _ ?_ ?_ ⟨rfl, rfl⟩
    · rintro k _ hk ⟨rfl, h⟩
      have hj : i + k < p.length := by omega
      rw [run_step hj] at h
      rw [hin _ hj]
      split
      · rename_i hw
        rw [if_pos hw] at h
        exact .inl ⟨_, rfl, by rw [wrap64 (by omega) (by omega)]; omega, h⟩
      · rename_i hw
        rw [if_neg hw] at h
        exact .inr ⟨_, rfl, by rw [h]⟩
    · rintro _ ⟨rfl, h⟩
      rw [run_end (i := i + (p.length - i)) (by omega)] at h
      have e : i + (p.length - i) = p.length := by omega
      rw [e] at h ⊢
      exact ⟨_, hout, by rw [h]⟩
  rw [h1, h2]
theorem p19_word {p : List Int} (hl : p.length ≤ 1000000) {i : Nat} (hi : i ≤ p.length) : loopC (p19_l1 p) (i : Int) = some ((run isWd p i : Nat) : Int) := by
  refine run_loop hl (fun j hj => ?_) ?_ hi
  · unfold p19_l1
    rw [if_pos (by omega), idx_get hj]
    simp only [Option.bind_some, p33_eq, p34_eq]
    have fin : ∀ b : Bool, b = isWd p[j] → p19_j2 (j : Int) b = if isWd p[j] = true then some (.inl (IntKind.wrap .i64 ((j : Int) + 1))) else some (.inr (j : Int)) := by
      rintro b rfl; rfl
    unfold p19_j4 p19_j3
    cases hs : isSm p[j] with
    | true =>
      rw [if_pos rfl, if_pos rfl]
      exact fin _ (by simp [isWd, hs])
    | false =>
      rw [if_neg (by simp)]
      cases hd : isDg p[j] with
      | true =>
        rw [if_pos rfl]
        exact fin _ (by simp [isWd, hs, hd])
      | false =>
        rw [if_neg (by simp), idx_get hj]
        exact fin _ (by simp [isWd, hs, hd])
  · unfold p19_l1 p19_j2
    rw [if_neg (by omega), if_neg (by simp)]
theorem p19_digits {p : List Int} (hl : p.length ≤ 1000000) {i : Nat} (hi : i ≤ p.length) : loopC (p19_l2 p) (i : Int) = some ((run isDg p i : Nat) : Int) := by
  refine run_loop hl (fun j hj => ?_) ?_ hi
  · unfold p19_l2
    rw [if_pos (by omega), idx_get hj]
    simp only [Option.bind_some, p34_eq]
    rfl
  · unfold p19_l2 p19_j5
    rw [if_neg (by omega), if_neg (by simp)]
theorem p19_line {p : List Int} (hl : p.length ≤ 1000000) {i : Nat} (hi : i ≤ p.length) : loopC (p19_l0 p) (i : Int) = some ((run nnl p i : Nat) : Int) := by
  refine run_loop hl (fun j hj => ?_) ?_ hi
  · unfold p19_l0
    rw [if_pos (by omega), idx_get hj]
    rfl
  · unfold p19_l0 p19_j0
    rw [if_neg (by omega), if_neg (by simp)]
theorem p19_num {p : List Int} (hl : p.length ≤ 1000000) {i : Nat} (hi : i ≤ p.length) (a b : Int) :
    ∃ r, loopC (p19_l3 p ((run isDg p i : Nat) : Int)) (a, b, (i : Int), (0 : Int)) = some r ∧ (match num p i 0 with | some m => r = .inr (a, b, m) | none => ∃ u, r = .inl u) := by
  refine loop_cnt (p.length - i) (fun k s => ∃ m : Int, s = (a, b, ((i + k : Nat) : Int), m) ∧ 0 ≤ m ∧ m ≤ 1125899906842624 ∧ run isDg p i = run isDg p (i + k) ∧ num p i 0 = num p (i + k) m) _ ?_ ?_ ⟨0, rfl, by omega, by omega, rfl, rfl⟩
  · rintro k _ hk ⟨m, rfl, g0, g1, g2, g3⟩
    have hj : i + k < p.length := by omega
    have hge := run_ge isDg p (i + k + 1)
    rw [run_step hj] at g2
    rw [num_step hj] at g3
    unfold p19_l3
    simp only
    cases hd : isDg p[i + k] with
    | true =>
      have hb := isDg_lt hd
      rw [hd, if_pos rfl] at g2 g3
      rw [if_pos (by omega), idx_get hj]
      simp only [Option.bind_some]
      have e1 : IntKind.wrap .u8 (p[i + k] - 48) = p[i + k] - 48 := IntWalk.u8_in _ (by omega)
      rw [e1, wrap64 (n := m * 10) (by omega) (by omega), wrap64 (n := p[i + k] - 48) (by omega) (by omega), wrap64 (by omega) (by omega), Int.mul_comm m 10]
      by_cases hc : 1125899906842624 < 10 * m + (p[i + k] - 48)
      · rw [if_pos hc] at g3 ⊢
        refine .inr ⟨_, rfl, ?_⟩
        rw [g3]
        exact ⟨_, rfl⟩
      · rw [if_neg hc] at g3 ⊢
        exact .inl ⟨_, rfl, 10 * m + (p[i + k] - 48), by rw [wrap64 (by omega) (by omega)]; rfl, by omega, by omega, g2, g3⟩
    | false =>
      rw [hd, if_neg (by simp)] at g2 g3
      rw [if_neg (by omega)]
      refine .inr ⟨_, rfl, ?_⟩
      rw [g3]
  · rintro _ ⟨m, rfl, g0, g1, g2, g3⟩
    rw [run_end (i := i + (p.length - i)) (by omega)] at g2
    rw [num_end (i := i + (p.length - i)) (by omega)] at g3
    unfold p19_l3
    simp only
    rw [if_neg (by omega)]
    refine ⟨_, rfl, ?_⟩
    rw [g3]
def sg8 : List Int := [59, 58, 44, 42, 33, 126, 64, 61]
theorem p19_sign (e : Int) : loopC (p19_l4 e) ((0 : Int), (0 : Int)) = some (if isSg e = true then 3 else 0) := by
  have hix : ∀ k : Nat, k < 8 → ∃ x, sg8[k]? = some x ∧ idxS ([59, 58, 44, 42, 33, 126, 64, 61] : List UInt8) (k : Int) = some x := by
    intro k hk
    rcases k with _ | _ | _ | _ | _ | _ | _ | _ | k
    · exact ⟨_, rfl, rfl⟩
    · exact ⟨_, rfl, rfl⟩
    · exact ⟨_, rfl, rfl⟩
    · exact ⟨_, rfl, rfl⟩
    · exact ⟨_, rfl, rfl⟩
    · exact ⟨_, rfl, rfl⟩
    · exact ⟨_, rfl, rfl⟩
    · exact ⟨_, rfl, rfl⟩
    · omega
  obtain ⟨r, h1, h2⟩ : ∃ r, loopC (p19_l4 e) ((0 : Int), (0 : Int)) = some r ∧ r = if e ∈ sg8 then 3 else 0 := by
    refine loop_cnt 8 (fun k (st : Int × Int) => st = ((k : Int), if e ∈ sg8.take k then 3 else 0)) _ ?_ ?_ rfl
    · rintro k _ hk rfl
      obtain ⟨x, q1, q2⟩ := hix k hk
      have hkl : k < sg8.length := hk
      have hx : sg8[k] = x := by rw [List.getElem?_eq_getElem hkl] at q1; exact Option.some.inj q1
      refine .inl ⟨((k + 1 : Nat), if e ∈ sg8.take (k + 1) then 3 else 0), ?_, rfl⟩
      unfold p19_l4 p19_j6
      simp only
      rw [if_pos (by omega), q2]
      simp only [Option.bind_some]
      rw [wrap64 (by omega) (by omega), List.take_succ_eq_append_getElem hkl, hx]
      by_cases hc : x = e
      · rw [if_pos hc, if_pos (by simp [hc])]; rfl
      · rw [if_neg hc]
        have : (e ∈ sg8.take k ++ [x]) ↔ e ∈ sg8.take k := by simp; exact fun h => absurd h.symm hc
        by_cases hm : e ∈ sg8.take k
        · rw [if_pos hm, if_pos (this.2 hm)]; rfl
        · rw [if_neg hm, if_neg (fun h => hm (this.1 h))]; rfl
    · rintro _ rfl
      unfold p19_l4
      simp only
      rw [if_neg (by omega)]
      exact ⟨_, rfl, rfl⟩
  rw [h1, h2]
  congr 1
  have : e ∈ sg8 ↔ isSg e = true := by simp [sg8, isSg]
  by_cases hm : e ∈ sg8
  · rw [if_pos hm, if_pos (this.1 hm)]
  · rw [if_neg hm, if_neg (fun h => hm (this.2 h))]
def nextR (a b : Int) (c l : List TToken) (i : Nat) : (Nat × List TToken) ⊕ Int → Option ((Int × Int × Int × List TToken × List TToken) ⊕ ((Int × Int) ⊕ List TToken))
  | .inl (j, t) => some (.inl (a, b, (j : Int), c, l ++ t))
  | .inr e => some (.inr (.inl (e, (i : Int))))
def unTok (t : Tok) : TToken := ⟨t.k, t.s, t.n, t.at_⟩
theorem unTok_tok (t : List Tok) : (t.map unTok).map tokR = t := by
  rw [List.map_map]
  conv => rhs; rw [← List.map_id t]
  rfl
/-- One round of the document's lexer. -/
theorem p19_round {p : List Int} (hp : Bytes p) (hl : p.length ≤ 1000000) {i : Nat} (hi : i < p.length) {l : List TToken} (hll : l.length ≤ i) :
    p19_l5 p (0, 0, (i : Int), [], l) = match stepS p i with
      | .inl (j, t) => some (.inl (0, 0, (j : Int), [], l ++ t.map unTok))
      | .inr e => some (.inr (.inl (e, (i : Int)))) := by
  have hb := hp.get hi
  have hw1 : IntKind.wrap .i64 ((i : Int) + 1) = ((i + 1 : Nat) : Int) := by rw [wrap64 (by omega) (by omega)]; rfl
  have hw2 : IntKind.wrap .i64 (((i + 1 : Nat) : Int) + 1) = ((i + 2 : Nat) : Int) := by rw [wrap64 (by omega) (by omega)]; rfl
  have put : ∀ (j : Nat) (k n : Int), i ≤ j → j ≤ p.length → p19_j1 p (i : Int) [] l 0 0 (j : Int) k n = some (.inl (0, 0, (j : Int), [], l ++ [unTok ⟨k, textOf p i j, n, (i : Int)⟩])) := by
    intro j k n h1 h2
    unfold p19_j1
    rw [slc_ok h1 h2]
    simp only [Option.bind_some]
    rw [app_ok (by simp; omega)]
    rfl
  have core : ∀ bl : Bool, bl = isBl p[i] → p19_j9 p 0 0 (i : Int) [] l p[i] bl = match stepS p i with
      | .inl (j, t) => some (.inl (0, 0, (j : Int), [], l ++ t.map unTok))
      | .inr e => some (.inr (.inl (e, (i : Int)))) := by
    rintro bl rfl
    unfold p19_j9 stepS
    simp only [getD_of hi]
    by_cases hbl : isBl p[i] = true
    · rw [if_pos hbl, if_pos hbl, hw1]; simp
    rw [if_neg hbl, if_neg hbl]
    by_cases hc : p[i] = 35
    · rw [if_pos hc, if_pos hc, p19_line hl (Nat.le_of_lt hi)]; simp
    rw [if_neg hc, if_neg hc]
    unfold oneS
    simp only [getD_of hi, p33_eq, p34_eq, Option.bind_some]
    rw [hw1]
    by_cases hs : isSm p[i] = true
    · rw [if_pos hs, if_pos hs, p19_word hl (by omega)]
      simp only [Option.bind_some]
      exact put _ _ _ (Nat.le_trans (Nat.le_succ i) (run_ge _ _ _)) (run_le (by omega))
    rw [if_neg hs, if_neg hs]
    by_cases hd : isDg p[i] = true
    · rw [if_pos hd, if_pos hd, p19_digits hl (by omega)]
      simp only [Option.bind_some]
      have hr : run isDg p (i + 1) = run isDg p i := by rw [run_step hi, if_pos hd]
      obtain ⟨r, h1, h2⟩ := p19_num hl (Nat.le_of_lt hi) 0 0
      rw [hr, h1]
      simp only [Option.bind_some]
      have hge : i ≤ run isDg p i := run_ge _ _ _
      have hle : run isDg p i ≤ p.length := run_le (by omega)
      cases hv : num p i 0 with
      | none =>
        rw [hv] at h2
        obtain ⟨u, rfl⟩ := h2
        rfl
      | some m =>
        rw [hv] at h2
        subst h2
        exact put _ _ _ hge hle
    rw [if_neg hd, if_neg hd]
    have last : ∀ b : Bool, b = decide (p[i] = 45 ∧ p[i + 1]? = some 62) → p19_j7 p 0 0 (i : Int) [] l p[i] b = match (match (if p[i] = 45 ∧ p[i + 1]? = some 62 then Sum.inl (3, i + 2, 0) else if isSg p[i] = true then Sum.inl (3, i + 1, 0) else Sum.inr 6 : (Int × Nat × Int) ⊕ Int) with
        | .inl (k, e, n) => (.inl (e, [⟨k, textOf p i e, n, (i : Int)⟩]) : (Nat × List Tok) ⊕ Int)
        | .inr e => .inr e) with
        | .inl (j, t) => some (.inl (0, 0, (j : Int), [], l ++ t.map unTok))
        | .inr e => some (.inr (.inl (e, (i : Int)))) := by
      rintro b rfl
      unfold p19_j7
      rw [hw1, hw2]
      by_cases h : p[i] = 45 ∧ p[i + 1]? = some 62
      · have := (List.getElem?_eq_some_iff.1 h.2).1
        rw [if_pos (by simpa using h), if_pos h]
        exact put _ _ _ (by omega) (by omega)
      · rw [if_neg (by simpa using h), if_neg h, p19_sign]
        simp only [Option.bind_some]
        by_cases hg : isSg p[i] = true
        · rw [if_pos hg, if_pos hg, if_neg (by decide)]
          exact put _ _ _ (by omega) (by omega)
        · rw [if_neg hg, if_neg hg, if_pos rfl]
    by_cases hm : p[i] = 45
    · rw [if_pos hm]
      unfold p19_j8
      by_cases hj : i + 1 < p.length
      · rw [if_pos (by simp; omega), hw1, idx_get hj]
        simp only [Option.bind_some]
        exact last _ (by simp [hm, List.getElem?_eq_getElem hj])
      · rw [if_neg (by simp; omega)]
        exact last _ (by simp [List.getElem?_eq_none (Nat.le_of_not_lt hj)])
    · rw [if_neg hm]
      unfold p19_j8
      rw [if_neg (by simp)]
      exact last _ (by simp [hm])
  unfold p19_l5
  simp only
  rw [if_pos (by omega), idx_get hi]
  simp only [Option.bind_some]
  unfold p19_j11 p19_j10
  by_cases e1 : p[i] = 32
  · rw [if_pos e1, if_pos rfl, if_pos rfl]
    exact core _ (by simp [isBl, e1])
  rw [if_neg e1]
  by_cases e2 : p[i] = 9
  · rw [if_pos (by simpa using e2), if_pos rfl]
    exact core _ (by simp [isBl, e2])
  rw [if_neg (by simpa using e2)]
  by_cases e3 : p[i] = 10
  · rw [if_pos (by simpa using e3)]
    exact core _ (by simp [isBl, e3])
  rw [if_neg (by simpa using e3)]
  exact core _ (by simp [isBl, e1, e2, e3])
theorem p19_eq {p : List Int} (hp : Bytes p) (hl : p.length ≤ 1000000) : ∃ r, p19 p = some r ∧ ∃ L e a, LexR p 0 [] (L, e, a) ∧
    ((e = 0 ∧ r.2.1 = 0 ∧ r.1.map tokR = L ∧ r.1.length ≤ p.length + 1) ∨ (e ≠ 0 ∧ r.2.1 = e ∧ ∃ i : Nat, i ≤ p.length ∧ a = (i : Int) ∧ r.2.2 = (i : Int))) := by
  have key : ∃ r, loopC (p19_l5 p) ((0 : Int), (0 : Int), (0 : Int), [], []) = some r ∧ ((∃ l, r = .inr l ∧ l.length ≤ p.length ∧ LexR p 0 [] (l.map tokR ++ [⟨0, [], 0, (p.length : Int)⟩], 0, 0)) ∨ ∃ (e : Int) (i : Nat), e ≠ 0 ∧ i ≤ p.length ∧ r = .inl (e, (i : Int)) ∧ LexR p 0 [] ([], e, (i : Int))) := by
    have fin : ∀ (l : List TToken), l.length ≤ p.length → (∀ r, LexR p p.length (l.map tokR) r → LexR p 0 [] r) → ∃ r, p19_l5 p (0, 0, (p.length : Int), [], l) = some (.inr r) ∧ ((∃ l, r = .inr l ∧ l.length ≤ p.length ∧ LexR p 0 [] (l.map tokR ++ [⟨0, [], 0, (p.length : Int)⟩], 0, 0)) ∨ ∃ (e : Int) (i : Nat), e ≠ 0 ∧ i ≤ p.length ∧ r = .inl (e, (i : Int)) ∧ LexR p 0 [] ([], e, (i : Int))) := by
      intro l h1 h2
      unfold p19_l5
      simp only
      rw [if_neg (by omega)]
      exact ⟨_, rfl, .inl ⟨l, rfl, h1, h2 _ (.done rfl)⟩⟩
    refine loop_cnt p.length (fun k st => ∃ (i : Nat) (l : List TToken), st = ((0 : Int), (0 : Int), (i : Int), [], l) ∧ k ≤ i ∧ i ≤ p.length ∧ l.length ≤ i ∧ ∀ r, LexR p i (l.map tokR) r → LexR p 0 [] r) _ ?_ ?_ ⟨0, [], rfl, Nat.le_refl _, Nat.zero_le _, Nat.le_refl _, fun _ h => h⟩
    · rintro k _ hk ⟨i, l, rfl, h1, h2, h3, h4⟩
      by_cases hi : i < p.length
      · rw [p19_round hp hl hi h3]
        cases hst : stepS p i with
        | inl q =>
          obtain ⟨j, t⟩ := q
          obtain ⟨g1, g2, g3⟩ := stepS_gt hi hst
          refine .inl ⟨_, rfl, j, _, rfl, by omega, g2, by simp; omega, fun r h => h4 _ (.go hi hst ?_)⟩
          rw [List.map_append, unTok_tok] at h
          exact h
        | inr e =>
          have he := stepS_err hst
          exact .inr ⟨_, rfl, .inr ⟨e, i, by omega, h2, rfl, h4 _ (.err hi hst)⟩⟩
      · obtain rfl : i = p.length := by omega
        exact .inr (fin l h3 h4)
    · rintro _ ⟨i, l, rfl, h1, h2, h3, h4⟩
      obtain rfl : i = p.length := by omega
      exact fin l h3 h4
  obtain ⟨r, h1, h2⟩ := key
  unfold p19
  rw [h1]
  simp only [Option.bind_some]
  rcases h2 with ⟨l, rfl, g1, g2⟩ | ⟨e, i, g1, g2, rfl, g3⟩
  · simp only
    rw [app_ok (by simp; omega)]
    refine ⟨_, rfl, _, 0, 0, g2, .inl ⟨rfl, rfl, ?_, ?_⟩⟩
    · simp [tokR]
    · simp; omega
  · exact ⟨_, rfl, [], e, _, g3, .inr ⟨g1, rfl, i, g2, rfl, rfl⟩⟩
end Go.Proofs.Ytloaoofdbilpeaa

/- LexTokens and LexPlaces, plainly. Own work. -/
namespace Go.Proofs.Ytloaoofdbilpeaa
open Go Go.Am
set_option linter.unusedVariables false
set_option linter.unusedSimpArgs false
/-- The document's example. -/
theorem p17_eq : p17 = some true := by
  have hp : Bytes [97, 45, 62, 98] := by intro c hc; simp at hc; omega
  obtain ⟨r, h1, L, e, a, h2, h3⟩ := p18_eq hp (by simp)
  have hL : LexR [97, 45, 62, 98] 0 [] ([⟨1, [97], 0, 0⟩, ⟨3, [45, 62], 0, 1⟩, ⟨1, [98], 0, 3⟩, ⟨0, [], 0, 4⟩], 0, 0) := by
    refine .go (j := 1) (t := [⟨1, [97], 0, 0⟩]) (by simp) rfl ?_
    refine .go (j := 3) (t := [⟨3, [45, 62], 0, 1⟩]) (by simp) rfl ?_
    refine .go (j := 4) (t := [⟨1, [98], 0, 3⟩]) (by simp) rfl ?_
    exact .done rfl
  have hd := h2.det hL
  simp only [Prod.mk.injEq] at hd
  obtain ⟨rfl, rfl, rfl⟩ := hd
  rcases h3 with ⟨_, g2, g3⟩ | ⟨g1, _⟩
  · obtain ⟨l, f⟩ := r
    simp only at g2 g3
    subst g2
    have hlen : l.length = 4 := by
      have := congrArg List.length g3
      rw [List.length_map] at this
      exact this
    match l, hlen, g3 with
    | [t1, t2, t3, t4], _, g3 =>
      simp only [List.map_cons, List.map_nil, List.cons.injEq, tokL, Tok.mk.injEq, and_true] at g3
      obtain ⟨⟨a1, a2, a3, a4⟩, ⟨b1, b2, b3, b4⟩, ⟨c1, c2, c3, c4⟩, ⟨d1, d2, d3, d4⟩⟩ := g3
      unfold p17
      rw [h1]
      simp only [Option.bind_some]
      rw [if_pos trivial]
      unfold p17_j2
      rw [if_pos (by simp), show idx [t1, t2, t3, t4] 1 = some t2 from rfl]
      simp only [Option.bind_some]
      unfold p17_j1
      rw [if_pos (by rw [b2]; decide), show idx [t1, t2, t3, t4] 3 = some t4 from rfl]
      simp only [Option.bind_some]
      unfold p17_j0
      rw [d1]; rfl
  · exact absurd rfl g1
theorem p3_true {p : List Int} (hp : Bytes p) : p3 p = some true := by
  unfold p3
  rw [p17_eq]
  simp only [Option.bind_some]
  rw [if_neg (by simp)]
  unfold p3_j2
  by_cases hl : (300 : Int) < (p.length : Int)
  · rw [if_pos (by simpa using hl), p17_eq]; rfl
  rw [if_neg (by simpa using hl)]
  obtain ⟨r, h1, L, e, a, h2, h3⟩ := p18_eq hp (by omega)
  obtain ⟨r', h1', L', e', a', h2', h3'⟩ := p19_eq hp (by omega)
  have hd := h2.det h2'
  simp only [Prod.mk.injEq] at hd
  obtain ⟨rfl, rfl, rfl⟩ := hd
  rw [h1, h1']
  simp only [Option.bind_some]
  rcases h3 with ⟨g1, g2, g3⟩ | ⟨g1, i, g2, g3, g4⟩
  · rcases h3' with ⟨_, k2, k3, k4⟩ | ⟨k1, _⟩
    · obtain ⟨l, f⟩ := r
      obtain ⟨l', e', a'⟩ := r'
      simp only at g2 g3 k2 k3 k4
      subst g2 k2
      have hlen : l.length = l'.length := by
        have h4 := congrArg List.length g3
        have h5 := congrArg List.length k3
        rw [List.length_map] at h4 h5
        omega
      rw [if_neg (by simp), if_neg (by simp)]
      unfold p3_j1
      rw [if_neg (by simp [hlen])]
      obtain ⟨r, q1, q2⟩ : ∃ r, loopC (p3_l0 (l, ⟨0, 0, 0, 0⟩) (l', 0, a')) (0 : Int) = some r ∧ r = .inr () := by
        refine loop_cnt l.length (fun k st => st = (k : Int)) _ ?_ ?_ rfl
        · rintro k _ hk rfl
          have hk' : k < l'.length := by omega
          have e1 : tokL l[k] = tokR l'[k] := by
            have e2 : (l.map tokL)[k]? = (l'.map tokR)[k]? := by rw [g3, k3]
            rw [List.getElem?_map, List.getElem?_map, List.getElem?_eq_getElem hk, List.getElem?_eq_getElem hk'] at e2
            exact Option.some.inj e2
          simp only [tokL, tokR, Tok.mk.injEq] at e1
          unfold p3_l0
          simp only
          rw [if_pos (by omega), idx_get hk, idx_get hk']
          simp only [Option.bind_some]
          rw [if_neg (by simp [e1.1, e1.2.1, e1.2.2.1, e1.2.2.2]), wrap64 (by omega) (by omega)]
          exact .inl ⟨_, rfl, rfl⟩
        · rintro _ rfl
          unfold p3_l0
          simp only
          rw [if_neg (by omega)]
          exact ⟨_, rfl, rfl⟩
      rw [q1, q2]
      rfl
    · exact absurd g1 k1
  · rcases h3' with ⟨k1, _⟩ | ⟨_, k2, j, k3, k4, k5⟩
    · exact absurd k1 g1
    · obtain ⟨l', e', a'⟩ := r'
      simp only at k2 k5
      subst g4 k2 k5
      have hij : i = j := by omega
      subst hij
      rw [if_pos (by simpa using g1), p20_eq (by omega) g2]
      simp only [Option.bind_some]
      rw [if_pos (by simp)]
      unfold p3_j0
      simp
theorem p4_true {p : List Int} (hp : Bytes p) (a e : Int) : p4 p a e = some true := by
  unfold p4
  rw [p17_eq]
  simp only [Option.bind_some]
  rw [if_neg (by simp)]
  unfold p4_j2
  by_cases hl : (200 : Int) < (p.length : Int)
  · rw [if_pos (by simpa using hl), p17_eq]; rfl
  rw [if_neg (by simpa using hl)]
  obtain ⟨i, hi, ha⟩ : ∃ i : Nat, i ≤ p.length ∧ (if (p.length : Int) < (if a < (0 : Int) then (0 : Int) else a) then (p.length : Int) else (if a < (0 : Int) then (0 : Int) else a)) = (i : Int) := by
    by_cases h1 : a < 0
    · rw [if_pos h1]
      exact ⟨0, by omega, by rw [if_neg (by omega)]; rfl⟩
    · rw [if_neg h1]
      by_cases h2 : (p.length : Int) < a
      · rw [if_pos h2]; exact ⟨p.length, Nat.le_refl _, rfl⟩
      · rw [if_neg h2]; exact ⟨a.toNat, by omega, by omega⟩
  rw [p21_eq hp (by omega) a hi ha, ha, p20_eq (by omega) hi]
  simp only [Option.bind_some]
  rw [if_pos trivial]
  unfold p4_j1
  rw [if_pos (by simp), ha, p22_eq hp (by omega) _ hi]
  simp only [Option.bind_some]
  unfold p4_j0
  simp
end Go.Proofs.Ytloaoofdbilpeaa

/- LexNames, plainly. Own work. -/
namespace Go.Proofs.Ytloaoofdbilpeaa
open Go Go.Am
set_option linter.unusedVariables false
set_option linter.unusedSimpArgs false
/-- A byte that may stand there in a name. -/
def okAt (p : List Int) (i : Nat) : Bool := if i = 0 then isSm (p.getD i 0) else isWd (p.getD i 0)
theorem rune_of {s : List UInt8} {i : Nat} (hi : i < s.length) : ((s[i].toNat < 128 ∧ runeAt s i = (s[i].toNat : Int) ∧ nextAt s i = i + 1) ∨ (128 ≤ s[i].toNat ∧ 128 ≤ runeAt s i)) := by
  have hsz : i < (⟨s.toArray⟩ : ByteArray).size := by simpa [ByteArray.size] using hi
  have hg : (⟨s.toArray⟩ : ByteArray)[i]'hsz = s[i] := by
    show s.toArray[i] = s[i]
    simp
  unfold runeAt nextAt
  rcases Nat.lt_or_ge s[i].toNat 128 with h | h
  · have := decode_ascii ⟨s.toArray⟩ i hsz (by rw [hg]; exact h)
    rw [this, hg]
    exact .inl ⟨h, rfl, rfl⟩
  · have := decode_high ⟨s.toArray⟩ i hsz (by rw [hg]; exact h)
    exact .inr ⟨h, by omega⟩
theorem strI_get {s : List UInt8} {i : Nat} (hi : i < s.length) : (strI s).getD i 0 = (s[i].toNat : Int) := by
  unfold strI
  rw [List.getD_eq_getElem?_getD, List.getElem?_map, List.getElem?_eq_getElem hi]; rfl
/-- A name by the program. -/
theorem p23_eq {s : List UInt8} (hl : s.length ≤ 1000000) : p23 s = some (decide ((∀ i, i < s.length → okAt (strI s) i = true) ∧ s ≠ [] ∧ s.length ≤ 12)) := by
  have key : ∃ r, loopC (p23_l0 s) 0 = some r ∧ ((r = .inr () ∧ ∀ i, i < s.length → okAt (strI s) i = true) ∨ (r = .inl () ∧ ∃ i, i < s.length ∧ okAt (strI s) i = false)) := by
    refine loop_cnt s.length (fun k (st : Nat) => st = k ∧ ∀ i, i < k → okAt (strI s) i = true) _ ?_ ?_ ⟨rfl, fun i hi => by omega⟩
    · rintro m k hk ⟨rfl, h⟩
      have hgd := strI_get hk
      have fin : ∀ b : Bool, b = !okAt (strI s) k → nextAt s k = k + 1 → (∃ s', p23_j0 s k b = some (.inl s') ∧ s' = k + 1 ∧ ∀ i, i < k + 1 → okAt (strI s) i = true) ∨ ∃ r, p23_j0 s k b = some (.inr r) ∧ ((r = .inr () ∧ ∀ i, i < s.length → okAt (strI s) i = true) ∨ (r = .inl () ∧ ∃ i, i < s.length ∧ okAt (strI s) i = false)) := by
        rintro b rfl hn
        unfold p23_j0
        cases ho : okAt (strI s) k with
        | true =>
          rw [if_neg (by simp), hn]
          refine .inl ⟨_, rfl, rfl, fun i hi => ?_⟩
          rcases Nat.lt_or_ge i k with hh | hh
          · exact h i hh
          · obtain rfl : i = k := by omega
            exact ho
        | false =>
          rw [if_pos (by simp)]
          exact .inr ⟨_, rfl, .inr ⟨rfl, k, hk, ho⟩⟩
      unfold p23_l0
      rw [if_pos hk]
      rcases rune_of hk with ⟨g1, g2, g3⟩ | ⟨g1, g2⟩
      · rw [g2]
        have hb : 0 ≤ (s[k].toNat : Int) ∧ (s[k].toNat : Int) ≤ 255 := by omega
        rw [IntWalk.u8_in _ hb]
        simp only [p37_eq, p38_eq, Option.bind_some]
        by_cases hz : (122 : Int) < (s[k].toNat : Int)
        · rw [if_pos hz]
          refine fin _ ?_ g3
          unfold okAt
          rw [hgd]
          split <;> simp [isWd, isSm, isDg] <;> omega
        · rw [if_neg hz]
          cases hs : isSm (s[k].toNat : Int) with
          | true =>
            rw [if_neg (by simp)]
            unfold p23_j1
            refine fin _ ?_ g3
            unfold okAt
            rw [hgd]
            split <;> simp [isWd, hs]
          | false =>
            rw [if_pos (by simp)]
            unfold p23_j3 p23_j2 p23_j1
            by_cases h0 : k = 0
            · subst h0
              rw [if_pos (by simp)]
              refine fin _ ?_ g3
              unfold okAt
              rw [hgd, if_pos rfl, hs]; rfl
            · rw [if_neg (by omega)]
              cases hd : isDg (s[k].toNat : Int) with
              | true =>
                rw [if_neg (by simp)]
                refine fin _ ?_ g3
                unfold okAt
                rw [hgd, if_neg h0]
                simp [isWd, hd]
              | false =>
                rw [if_pos (by simp)]
                refine fin _ ?_ g3
                unfold okAt
                rw [hgd, if_neg h0]
                simp [isWd, hd, hs]
      · rw [if_pos (by omega)]
        have ho : okAt (strI s) k = false := by
          unfold okAt
          rw [hgd]
          split <;> simp [isWd, isSm, isDg] <;> omega
        unfold p23_j0
        rw [if_pos rfl]
        exact .inr ⟨_, rfl, .inr ⟨rfl, k, hk, ho⟩⟩
    · rintro _ ⟨rfl, h⟩
      unfold p23_l0
      rw [if_neg (by omega)]
      exact ⟨_, rfl, .inl ⟨rfl, h⟩⟩
  obtain ⟨r, h1, h2⟩ := key
  unfold p23
  rw [h1]
  simp only [Option.bind_some]
  rcases h2 with ⟨rfl, h⟩ | ⟨rfl, i, hi, h⟩
  · simp only
    unfold p23_j4
    by_cases hn : s = []
    · rw [if_neg (by simp [hn])]
      simp [hn]
    · rw [if_pos (by simpa using hn)]
      congr 1
      rw [decide_eq_decide]
      exact ⟨fun h' => ⟨h, hn, by omega⟩, fun h' => by omega⟩
  · simp only
    congr 1
    symm
    rw [decide_eq_false_iff_not]
    rintro ⟨h', _⟩
    rw [h' i hi] at h
    cases h
/-- A name as tokens. -/
theorem name_lex {p : List Int} (hp : p ≠ []) (h : ∀ i, i < p.length → okAt p i = true) : LexR p 0 [] ([⟨1, p.map u8, 0, 0⟩, ⟨0, [], 0, (p.length : Int)⟩], 0, 0) := by
  have hl : 0 < p.length := List.length_pos_iff.2 hp
  have hs : isSm p[0] = true := by
    have := h 0 hl
    unfold okAt at this
    rw [if_pos rfl, getD_of hl] at this
    exact this
  have hrun : run isWd p 1 = p.length := by
    have key : ∀ d i, i + d = p.length → 1 ≤ i → run isWd p i = p.length := by
      intro d
      induction d with
      | zero => intro i hi _; rw [run_end (by omega)]; omega
      | succ d ih =>
        intro i hi h1
        have hi' : i < p.length := by omega
        have := h i hi'
        unfold okAt at this
        rw [if_neg (by omega), getD_of hi'] at this
        rw [run_step hi', if_pos this]
        exact ih (i + 1) (by omega) (by omega)
    exact key (p.length - 1) 1 (by omega) (Nat.le_refl _)
  have ho : oneS p 0 = .inl (1, p.length, 0) := by
    unfold oneS
    simp only [getD_of hl]
    rw [if_pos hs, hrun]
  have hst : stepS p 0 = .inl (p.length, [⟨1, p.map u8, 0, 0⟩]) := by
    have hb : 97 ≤ p[0] ∧ p[0] ≤ 122 := by simpa [isSm] using hs
    rw [stepS_one hl (by simp [isBl]; omega) (by omega), ho]
    simp [textOf]
  exact .go hl hst (.done rfl)
/-- Where a token comes from. -/
theorem tok_from {p : List Int} {i : Nat} {l : List Tok} {r : List Tok × Int × Int} (h : LexR p i l r) : ∀ t, t ∈ r.1 → t ∈ l ∨ t.k = 0 ∨ ∃ a e, a < p.length ∧ oneS p a = .inl (t.k, e, t.n) ∧ t.s = textOf p a e := by
  induction h with
  | done e =>
    intro t ht
    rcases List.mem_append.1 ht with ht | ht
    · exact .inl ht
    · rw [List.mem_singleton] at ht; subst ht; exact .inr (.inl rfl)
  | err h1 h2 => intro t ht; cases ht
  | @go i j l ts r h1 h2 _ ih =>
    intro t ht
    rcases ih t ht with h | h
    · rcases List.mem_append.1 h with h | h
      · exact .inl h
      · unfold stepS at h2
        simp only at h2
        split at h2
        · cases h2; cases h
        · split at h2
          · cases h2; cases h
          · split at h2
            · rename_i k e n ho
              cases h2
              rw [List.mem_singleton] at h
              subst h
              exact .inr (.inr ⟨i, _, h1, ho, rfl⟩)
            · cases h2
    · exact .inr h
theorem one_word {p : List Int} {e : Nat} {n : Int} {a : Nat} (ha : a < p.length) (h : oneS p a = .inl (1, e, n)) : isSm p[a] = true ∧ e = run isWd p (a + 1) := by
  unfold oneS at h
  simp only [getD_of ha] at h
  split at h
  · rename_i hs; cases h; exact ⟨hs, rfl⟩
  · split at h
    · split at h <;> cases h
    · split at h
      · cases h
      · split at h <;> cases h
theorem run_all {P : Int → Bool} {p : List Int} {i : Nat} (h : run P p i = p.length) : ∀ j (hj : j < p.length), i ≤ j → P p[j] = true := by
  have key : ∀ d i, i + d = p.length → run P p i = p.length → ∀ j (hj : j < p.length), i ≤ j → P p[j] = true := by
    intro d
    induction d with
    | zero => intro i hi _ j hj hij; omega
    | succ d ih =>
      intro i hi hr j hj hij
      have hi' : i < p.length := by omega
      rw [run_step hi'] at hr
      split at hr
      · rename_i hc
        rcases Nat.lt_or_ge i j with hh | hh
        · exact ih (i + 1) (by omega) hr j hj hh
        · obtain rfl : i = j := by omega
          exact hc
      · omega
  intro j hj hij
  exact key (p.length - i) i (by omega) h j hj hij
theorem p24_eq {s : List UInt8} (hl : s.length ≤ 1000000) : p24 s = some (decide ((∀ i, i < s.length → okAt (strI s) i = true) ∧ s ≠ [] ∧ s.length ≤ 12)) := by
  have hsl : (strI s).length = s.length := by simp [strI]
  have hby : Bytes (strI s) := by
    intro c hc
    unfold strI at hc
    obtain ⟨b, _, rfl⟩ := List.mem_map.1 hc
    have := b.toNat_lt
    omega
  have hback : (strI s).map u8 = s := by
    unfold strI
    rw [List.map_map]
    conv => rhs; rw [← List.map_id s]
    refine List.map_congr_left fun c hc => ?_
    simp [u8]
  unfold p24
  rw [show bytesI s = some (strI s) from by unfold bytesI; rw [if_pos (by unfold roomCells; omega)]; rfl]
  simp only [Option.bind_some]
  obtain ⟨r, h1, L, e, a, h2, h3⟩ := p19_eq hby (by omega)
  rw [h1]
  simp only [Option.bind_some]
  by_cases hn : (∀ i, i < s.length → okAt (strI s) i = true) ∧ s ≠ []
  · have hd := h2.det (name_lex (p := strI s) (by intro h; apply hn.2; exact List.length_eq_zero_iff.1 (by rw [← hsl, h]; rfl)) (by rw [hsl]; exact hn.1))
    simp only [Prod.mk.injEq] at hd
    obtain ⟨rfl, rfl, rfl⟩ := hd
    rcases h3 with ⟨_, g2, g3, _⟩ | ⟨g1, _⟩
    · have hlen : r.1.length = 2 := by
        have := congrArg List.length g3
        rw [List.length_map] at this
        exact this
      obtain ⟨l, x, y⟩ := r
      simp only at g2 g3 hlen
      subst g2
      match l, hlen, g3 with
      | [t1, t2], _, g3 =>
        simp only [List.map_cons, List.map_nil, List.cons.injEq, tokR, Tok.mk.injEq, and_true] at g3
        obtain ⟨⟨a1, a2, a3, a4⟩, _⟩ := g3
        rw [hback] at a2
        rw [if_pos rfl]
        unfold p24_j3
        rw [if_pos (by simp), show idx [t1, t2] 0 = some t1 from rfl]
        simp only [Option.bind_some]
        unfold p24_j2
        rw [if_pos (by simpa using a1), show idx [t1, t2] 0 = some t1 from rfl]
        simp only [Option.bind_some]
        unfold p24_j1 p24_j0
        rw [if_pos (by simpa using a2)]
        congr 1
        rw [decide_eq_decide]
        exact ⟨fun h => ⟨hn.1, hn.2, by omega⟩, fun h => by omega⟩
    · exact absurd rfl g1
  · have hf : decide ((∀ i, i < s.length → okAt (strI s) i = true) ∧ s ≠ [] ∧ s.length ≤ 12) = false := by
      rw [decide_eq_false_iff_not]
      rintro ⟨q1, q2, _⟩
      exact hn ⟨q1, q2⟩
    rw [hf]
    by_cases he : r.2.1 = 0
    · rw [if_pos he]
      unfold p24_j3
      by_cases hlen : (r.1.length : Int) = 2
      · rw [if_pos (by simpa using hlen)]
        rcases h3 with ⟨_, g2, g3, _⟩ | ⟨g1, g2, _⟩
        · obtain ⟨l, x, y⟩ := r
          have hlen' : l.length = 2 := by simp only at hlen; omega
          simp only at g3
          match l, hlen', g3 with
          | [t1, t2], _, g3 =>
            rw [show idx [t1, t2] 0 = some t1 from rfl]
            simp only [Option.bind_some]
            unfold p24_j2
            by_cases hk : t1.Kind = 1
            · rw [if_pos (by simpa using hk), show idx [t1, t2] 0 = some t1 from rfl]
              simp only [Option.bind_some]
              unfold p24_j1
              by_cases ht : t1.Text = s
              · exfalso
                apply hn
                have hmem : tokR t1 ∈ L := by rw [← g3]; simp
                rcases tok_from h2 _ hmem with q | q | ⟨b, c, q1, q2, q3⟩
                · cases q
                · rw [show (tokR t1).k = t1.Kind from rfl, hk] at q; cases q
                · rw [show (tokR t1).k = 1 from hk] at q2
                  obtain ⟨w1, w2⟩ := one_word q1 q2
                  obtain ⟨w3, w4⟩ := oneS_gt q1 q2
                  have w5 := text_len (p := strI s) (Nat.le_of_lt w3) w4
                  rw [← q3, show (tokR t1).s = s from ht] at w5
                  obtain rfl : b = 0 := by omega
                  have w6 : c = (strI s).length := by omega
                  rw [w6] at w2
                  have hall := run_all w2.symm
                  refine ⟨fun i hi => ?_, fun h => by rw [h] at w5; simp at w5; omega⟩
                  unfold okAt
                  rw [getD_of (by omega)]
                  split
                  · rename_i h0; subst h0; exact w1
                  · exact hall i (by omega) (by omega)
              · rw [if_neg (by simpa using ht)]; rfl
            · rw [if_neg (by simpa using hk)]; rfl
        · rw [g2] at he; exact absurd he g1
      · rw [if_neg (by simpa using hlen)]; rfl
    · rw [if_neg he]; rfl
theorem p8_true (s : List UInt8) : p8 s = some true := by
  unfold p8
  rw [p17_eq]
  simp only [Option.bind_some]
  rw [if_neg (by simp)]
  unfold p8_j0
  by_cases hl : (40 : Int) < (s.length : Int)
  · rw [if_pos (by simpa using hl), p17_eq]; rfl
  rw [if_neg (by simpa using hl), p23_eq (by omega), p24_eq (by omega)]
  simp only [Option.bind_some, beq_self_eq_true]
end Go.Proofs.Ytloaoofdbilpeaa

/- The law LexNames of the machine: whatever it is called with, it answers true. Own work. -/
namespace Go.Proofs.Ytloaoofdbilpeaa
open Go Go.Am
set_option linter.unusedVariables false
set_option linter.unusedSimpArgs false
theorem law_lexNames : ∀ h xs, TyAs [.str] h xs → ACalls F 8 xs h fun v _ => v = .bool true := by
  intro h xs ht
  obtain ⟨a, b, rfl, ⟨s, e1, _⟩, h4⟩ := ht
  simp only [TyAs] at h4
  subst h4
  cases e1
  exact (r8 (p8_true s)).val fun v h' hq => hq.1
end Go.Proofs.Ytloaoofdbilpeaa
