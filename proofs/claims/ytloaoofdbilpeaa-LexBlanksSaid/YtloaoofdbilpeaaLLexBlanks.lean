/- The law LexBlanks: its pure function answers true, whatever it is called with; so does the machine's function. No condition. Own work. -/
import Derived.Test.YtloaoofdbilpeaaPLexBlanks
import Derived.Test.YtloaoofdbilpeaaPm2
/- Lexing, plainly: what the tokens of bytes are. Own work. -/
namespace Go.Proofs.Ytloaoofdbilpeaa
open Go Go.Am
set_option linter.unusedVariables false
set_option linter.unusedSimpArgs false
/-- A loop that is told how many rounds are left. -/
theorem loop_cnt {τ ρ : Type} {f : τ → Option (τ ⊕ ρ)} (n : Nat) (I : Nat → τ → Prop) (Q : ρ → Prop)
    (step : ∀ k s, k < n → I k s → (∃ s', f s = some (.inl s') ∧ I (k + 1) s') ∨ ∃ r, f s = some (.inr r) ∧ Q r)
    (done : ∀ s, I n s → ∃ r, f s = some (.inr r) ∧ Q r) {s : τ} (h0 : I 0 s) : ∃ r, loopC f s = some r ∧ Q r := by
  suffices key : ∀ d k s, k + d = n → I k s → ∃ r, iter f (d + 1) s = some r ∧ Q r by
    obtain ⟨r, h1, h2⟩ := key n 0 s (by omega) h0
    exact ⟨r, loopC_iff.2 ⟨_, h1⟩, h2⟩
  intro d
  induction d with
  | zero =>
    intro k s hk hI
    obtain rfl : k = n := by omega
    obtain ⟨r, h1, h2⟩ := done s hI
    exact ⟨r, by simp only [iter, h1], h2⟩
  | succ d ih =>
    intro k s hk hI
    rcases step k s (by omega) hI with ⟨s', h1, h2⟩ | ⟨r, h1, h2⟩
    · obtain ⟨r, h3, h4⟩ := ih (k + 1) s' (by omega) h2
      exact ⟨r, by rw [iter]; simp only [h1]; exact h3, h4⟩
    · exact ⟨r, by rw [iter]; simp only [h1], h2⟩
/-- All are bytes. -/
def Bytes (p : List Int) : Prop := ∀ c, c ∈ p → 0 ≤ c ∧ c ≤ 255
theorem Bytes.get {p : List Int} (h : Bytes p) {i : Nat} (hi : i < p.length) : 0 ≤ p[i] ∧ p[i] ≤ 255 := h _ (List.getElem_mem hi)
def isSm (c : Int) : Bool := decide (97 ≤ c) && decide (c ≤ 122)
def isDg (c : Int) : Bool := decide (48 ≤ c) && decide (c ≤ 57)
def isWd (c : Int) : Bool := isSm c || (isDg c || decide (c = 46))
def isBl (c : Int) : Bool := decide (c = 32) || (decide (c = 9) || (decide (c = 10) || decide (c = 13)))
def isSg (c : Int) : Bool := decide (c = 59) || (decide (c = 58) || (decide (c = 44) || (decide (c = 42) || (decide (c = 33) || (decide (c = 126) || (decide (c = 64) || decide (c = 61)))))))
def nnl (c : Int) : Bool := !decide (c = 10)
/-- Where a run of such ends. -/
def run (P : Int → Bool) (p : List Int) (i : Nat) : Nat := i + ((p.drop i).takeWhile P).length
theorem run_step {P : Int → Bool} {p : List Int} {i : Nat} (hi : i < p.length) : run P p i = if P p[i] = true then run P p (i + 1) else i := by
  unfold run
  rw [List.drop_eq_getElem_cons hi, List.takeWhile_cons]
  split
  · simp; omega
  · simp
theorem run_end {P : Int → Bool} {p : List Int} {i : Nat} (hi : p.length ≤ i) : run P p i = i := by
  unfold run
  rw [List.drop_eq_nil_of_le hi]; rfl
theorem run_ge (P : Int → Bool) (p : List Int) (i : Nat) : i ≤ run P p i := by unfold run; omega
theorem run_le {P : Int → Bool} {p : List Int} {i : Nat} (hi : i ≤ p.length) : run P p i ≤ p.length := by
  unfold run
  have := List.Sublist.length_le (List.takeWhile_sublist P (l := p.drop i))
  rw [List.length_drop] at this
  omega
/-- A number's value, as long as it is not too great. -/
def numv : List Int → Int → Option Int
  | [], n => some n
  | d :: l, n => if 1125899906842624 < 10 * n + (d - 48) then none else numv l (10 * n + (d - 48))
def num (p : List Int) (i : Nat) (n : Int) : Option Int := numv ((p.drop i).takeWhile isDg) n
theorem num_step {p : List Int} {i : Nat} (hi : i < p.length) (n : Int) : num p i n = if isDg p[i] = true then (if 1125899906842624 < 10 * n + (p[i] - 48) then none else num p (i + 1) (10 * n + (p[i] - 48))) else some n := by
  unfold num
  rw [List.drop_eq_getElem_cons hi, List.takeWhile_cons]
  split
  · rfl
  · rfl
theorem num_end {p : List Int} {i : Nat} (hi : p.length ≤ i) (n : Int) : num p i n = some n := by
  unfold num
  rw [List.drop_eq_nil_of_le hi]; rfl
/-- A token: kind, text, number, place. -/
structure Tok where
  k : Int
  s : List UInt8
  n : Int
  at_ : Int
def textOf (p : List Int) (i j : Nat) : List UInt8 := ((p.take j).drop i).map u8
/-- One token: kind, end, number; or the error. -/
def oneS (p : List Int) (i : Nat) : (Int × Nat × Int) ⊕ Int :=
  let c := p.getD i 0
  if isSm c = true then .inl (1, run isWd p (i + 1), 0)
  else if isDg c = true then match num p i 0 with
    | some n => .inl (2, run isDg p (i + 1), n)
    | none => .inr 3
  else if c = 45 ∧ p[i + 1]? = some 62 then .inl (3, i + 2, 0)
  else if isSg c = true then .inl (3, i + 1, 0)
  else .inr 6
/-- One step: to where, with which token; or the error. -/
def stepS (p : List Int) (i : Nat) : (Nat × List Tok) ⊕ Int :=
  let c := p.getD i 0
  if isBl c = true then .inl (i + 1, [])
  else if c = 35 then .inl (run nnl p i, [])
  else match oneS p i with
    | .inl (k, e, n) => .inl (e, [⟨k, textOf p i e, n, (i : Int)⟩])
    | .inr e => .inr e
/-- From a place on, behind some tokens: all tokens; or the error, and where. -/
inductive LexR (p : List Int) : Nat → List Tok → (List Tok × Int × Int) → Prop where
  | done {i : Nat} {l : List Tok} : i = p.length → LexR p i l (l ++ [⟨0, [], 0, (p.length : Int)⟩], 0, 0)
  | go {i j : Nat} {l t : List Tok} {r : List Tok × Int × Int} : i < p.length → stepS p i = .inl (j, t) → LexR p j (l ++ t) r → LexR p i l r
  | err {i : Nat} {l : List Tok} {e : Int} : i < p.length → stepS p i = .inr e → LexR p i l ([], e, (i : Int))
theorem LexR.det {p : List Int} {i : Nat} {l : List Tok} {r r' : List Tok × Int × Int} (h : LexR p i l r) (h' : LexR p i l r') : r = r' := by
  induction h with
  | done e =>
    cases h' with
    | done _ => rfl
    | go h1 _ _ => omega
    | err h1 _ => omega
  | go h1 h2 _ ih =>
    cases h' with
    | done e => omega
    | go _ k2 k3 => rw [h2] at k2; cases k2; exact ih k3
    | err _ k2 => rw [h2] at k2; cases k2
  | err h1 h2 =>
    cases h' with
    | done e => omega
    | go _ k2 _ => rw [h2] at k2; cases k2
    | err _ k2 => rw [h2] at k2; cases k2; rfl
theorem isDg_lt {c : Int} (h : isDg c = true) : 48 ≤ c ∧ c ≤ 57 := by
  simpa [isDg] using h
theorem oneS_gt {p : List Int} {i j : Nat} {k n : Int} (hi : i < p.length) (h : oneS p i = .inl (k, j, n)) : i < j ∧ j ≤ p.length := by
  unfold oneS at h
  simp only at h
  split at h
  · cases h; exact ⟨Nat.lt_of_lt_of_le (Nat.lt_succ_self i) (run_ge _ _ _), run_le (by omega)⟩
  · split at h
    · split at h
      · cases h; exact ⟨Nat.lt_of_lt_of_le (Nat.lt_succ_self i) (run_ge _ _ _), run_le (by omega)⟩
      · cases h
    · split at h
      · rename_i h1
        cases h
        have := (List.getElem?_eq_some_iff.1 h1.2).1
        omega
      · split at h
        · cases h; omega
        · cases h
theorem getD_of {p : List Int} {i : Nat} (hi : i < p.length) : p.getD i 0 = p[i] := by
  rw [List.getD_eq_getElem?_getD, List.getElem?_eq_getElem hi]; rfl
theorem stepS_gt {p : List Int} {i j : Nat} {t : List Tok} (hi : i < p.length) (h : stepS p i = .inl (j, t)) : i < j ∧ j ≤ p.length ∧ t.length ≤ 1 := by
  unfold stepS at h
  simp only at h
  split at h
  · cases h; simp; omega
  · split at h
    · rename_i h1
      cases h
      rw [getD_of hi] at h1
      have : run nnl p i = run nnl p (i + 1) := by rw [run_step hi, if_pos (by rw [h1]; decide)]
      rw [this]
      exact ⟨Nat.lt_of_lt_of_le (Nat.lt_succ_self i) (run_ge _ _ _), run_le (by omega), by simp⟩
    · split at h
      · rename_i h1
        cases h
        obtain ⟨g1, g2⟩ := oneS_gt hi h1
        exact ⟨g1, g2, by simp⟩
      · cases h
/-! ### the program's small functions -/
theorem p37_eq (c : Int) : p37 c = some (isSm c) := by
  unfold p37 p37_j0 isSm
  split <;> rename_i h <;> simp [h]
theorem p38_eq (c : Int) : p38 c = some (isDg c) := by
  unfold p38 p38_j0 isDg
  split <;> rename_i h <;> simp [h]
theorem p33_eq (c : Int) : p33 c = some (isSm c) := by
  unfold p33 p33_j0 isSm
  split <;> rename_i h <;> simp [h]
theorem p34_eq (c : Int) : p34 c = some (isDg c) := by
  unfold p34 p34_j0 isDg
  split <;> rename_i h <;> simp [h]
theorem p48_eq (s : List UInt8) (c : Int) : p48 s c = some (idxB s c) := rfl
theorem indexByte_eq (c : UInt8) : ∀ s : List UInt8, Go.Lib.indexByte s c = if c ∈ s then ((s.takeWhile (fun b => b != c)).length : Int) else -1
  | [] => rfl
  | b :: s => by
    unfold Go.Lib.indexByte
    rw [indexByte_eq c s]
    by_cases h : b = c
    · subst h; simp
    · have h1 : (b == c) = false := by simpa using h
      have h2 : (b != c) = true := by simpa using h
      rw [h1, List.takeWhile_cons, h2]
      simp only [Bool.false_eq_true, if_false, if_true, List.length_cons]
      by_cases hm : c ∈ s
      · rw [if_pos hm, if_pos (List.mem_cons_of_mem _ hm)]
        have : ((((s.takeWhile (fun b => b != c)).length : Nat) : Int) == -1) = false := by
          rw [beq_eq_false_iff_ne]; omega
        rw [this]; simp
      · have hm' : ¬ c ∈ b :: s := by
          intro hh
          rcases List.mem_cons.1 hh with e | hh
          · exact h e.symm
          · exact hm hh
        rw [if_neg hm, if_neg hm']; rfl
theorem u8_inj {a b : Int} (ha : 0 ≤ a ∧ a ≤ 255) (hb : 0 ≤ b ∧ b ≤ 255) : a.toNat.toUInt8 = b.toNat.toUInt8 ↔ a = b := by
  constructor
  · intro h
    have := congrArg UInt8.toNat h
    simp only [Nat.toUInt8, UInt8.toNat_ofNat'] at this
    omega
  · rintro rfl; rfl
theorem mem_u8 {s : List Int} (hs : Bytes s) {c : Int} (hc : 0 ≤ c ∧ c ≤ 255) : c.toNat.toUInt8 ∈ s.map (fun x => x.toNat.toUInt8) ↔ c ∈ s := by
  rw [List.mem_map]
  constructor
  · rintro ⟨a, h1, h2⟩
    rw [(u8_inj (hs a h1) hc).1 h2] at h1
    exact h1
  · intro h; exact ⟨c, h, rfl⟩
theorem idxB_ge {s : List UInt8} {c : Int} : 0 ≤ idxB s c ↔ c.toNat.toUInt8 ∈ s := by
  unfold idxB
  rw [indexByte_eq]
  split
  · rename_i h; simp [h]
  · rename_i h; simp [h]
theorem p48_bl {c : Int} (hc : 0 ≤ c ∧ c ≤ 255) : 0 ≤ idxB ([32, 9, 13, 10] : List UInt8) c ↔ isBl c = true := by
  rw [idxB_ge, show ([32, 9, 13, 10] : List UInt8) = ([32, 9, 13, 10] : List Int).map (fun x => x.toNat.toUInt8) from rfl, mem_u8 (by intro x hx; simp at hx; omega) hc]
  simp [isBl]
  omega
theorem p48_sg {c : Int} (hc : 0 ≤ c ∧ c ≤ 255) : 0 ≤ idxB ([59, 58, 44, 42, 33, 126, 64, 61] : List UInt8) c ↔ isSg c = true := by
  rw [idxB_ge, show ([59, 58, 44, 42, 33, 126, 64, 61] : List UInt8) = ([59, 58, 44, 42, 33, 126, 64, 61] : List Int).map (fun x => x.toNat.toUInt8) from rfl, mem_u8 (by intro x hx; simp at hx; omega) hc]
  simp [isSg]
end Go.Proofs.Ytloaoofdbilpeaa

/- The program's lexer, plainly. Own work. -/
namespace Go.Proofs.Ytloaoofdbilpeaa
open Go Go.Am
set_option linter.unusedVariables false
set_option linter.unusedSimpArgs false
theorem slc_ok {α : Type} {l : List α} {i j : Nat} (h : i ≤ j) (hj : j ≤ l.length) : slc l (i : Int) (j : Int) = some ((l.take j).drop i) := by
  unfold slc
  rw [if_pos (by omega)]
  simp
theorem take_nl {p : List Int} (hp : Bytes p) (i : Nat) : ((p.drop i).map (fun x => x.toNat.toUInt8)).takeWhile (fun b => b != (10 : Int).toNat.toUInt8) = ((p.drop i).takeWhile nnl).map (fun x => x.toNat.toUInt8) := by
  have : ∀ q : List Int, Bytes q → (q.map (fun x => x.toNat.toUInt8)).takeWhile (fun b => b != (10 : Int).toNat.toUInt8) = (q.takeWhile nnl).map (fun x => x.toNat.toUInt8) := by
    intro q hq
    induction q with
    | nil => rfl
    | cons c q ih =>
      have hc := hq c (by simp)
      have ih := ih (fun x hx => hq x (by simp [hx]))
      rw [List.map_cons, List.takeWhile_cons, List.takeWhile_cons]
      by_cases h : c = 10
      · subst h; rfl
      · have h1 : (c.toNat.toUInt8 != (10 : Int).toNat.toUInt8) = true := by
          rw [bne_iff_ne]
          intro e
          exact h ((u8_inj hc (by omega)).1 e)
        have h2 : nnl c = true := by simp [nnl, h]
        rw [h1, h2]
        simp only [if_true, List.map_cons, ih]
  exact this _ (fun c hc => hp c (List.mem_of_mem_drop hc))
theorem u8_eq : (fun x : Int => x.toNat.toUInt8) = u8 := by
  funext x; rfl
/-- A line's end from a place on: none; or where. -/
theorem nl_idx {p : List Int} (hp : Bytes p) {i : Nat} (hi : i ≤ p.length) : (idxB ((p.drop i).map u8) 10 < 0 ∧ run nnl p i = p.length) ∨ (idxB ((p.drop i).map u8) 10 = ((run nnl p i - i : Nat) : Int) ∧ ∃ h : run nnl p i < p.length, p[run nnl p i] = 10) := by
  unfold idxB
  have hmu := mem_u8 (s := p.drop i) (c := 10) (fun c hc => hp c (List.mem_of_mem_drop hc)) (by omega)
  rw [indexByte_eq, ← u8_eq, take_nl hp, List.length_map]
  by_cases hm : (10 : Int) ∈ p.drop i
  · rw [if_pos (hmu.2 hm)]
    right
    refine ⟨by unfold run; rw [Nat.add_sub_cancel_left], ?_⟩
    have key : ∀ q : List Int, (10 : Int) ∈ q → ∃ h : (q.takeWhile nnl).length < q.length, q[(q.takeWhile nnl).length] = 10 := by
      intro q hq
      induction q with
      | nil => cases hq
      | cons c q ih =>
        rw [List.takeWhile_cons]
        by_cases h : c = 10
        · subst h; exact ⟨by simp [nnl], by simp [nnl]⟩
        · have h2 : nnl c = true := by simp [nnl, h]
          obtain ⟨g1, g2⟩ := ih (by rcases List.mem_cons.1 hq with e | e; exact absurd e.symm h; exact e)
          simp only [h2, if_true, List.length_cons, List.getElem_cons_succ]
          exact ⟨by omega, g2⟩
    obtain ⟨g1, g2⟩ := key _ hm
    rw [List.length_drop] at g1
    refine ⟨by unfold run; omega, ?_⟩
    rw [List.getElem_drop] at g2
    exact g2
  · rw [if_neg (fun h => hm (hmu.1 h))]
    left
    refine ⟨by omega, ?_⟩
    have key : ∀ q : List Int, ¬ (10 : Int) ∈ q → q.takeWhile nnl = q := by
      intro q hq
      induction q with
      | nil => rfl
      | cons c q ih =>
        have h2 : nnl c = true := by
          simp only [nnl, Bool.not_eq_true', decide_eq_false_iff_not]
          rintro rfl
          exact hq (by simp)
        rw [List.takeWhile_cons, h2]
        simp only [if_true]
        rw [ih (fun h => hq (by simp [h]))]
    unfold run
    rw [key _ hm, List.length_drop]; omega
/-- The blanks. -/
theorem p31_eq {p : List Int} (hp : Bytes p) (hl : p.length ≤ 1000000) {i : Nat} (hi : i ≤ p.length) :
    ∃ j : Nat, p31 p (i : Int) = some (j : Int) ∧ i ≤ j ∧ j ≤ p.length ∧ (∀ l r, LexR p j l r → LexR p i l r) ∧ (∀ h : j < p.length, isBl p[j] = false ∧ p[j] ≠ 35) := by
  have key : ∃ r, loopC (p31_l0 p) (i : Int) = some r ∧ ∃ j : Nat, (r = .inl (j : Int) ∨ r = .inr (j : Int)) ∧ i ≤ j ∧ j ≤ p.length ∧ (∀ l r, LexR p j l r → LexR p i l r) ∧ (∀ h : j < p.length, isBl p[j] = false ∧ p[j] ≠ 35) := by
    refine loop_cnt (p.length - i) (fun k s => ∃ j : Nat, s = (j : Int) ∧ i + k ≤ j ∧ j ≤ p.length ∧ ∀ l r, LexR p j l r → LexR p i l r) _ ?_ ?_ ⟨i, rfl, by omega, hi, fun _ _ h => h⟩
    · rintro k _ hk ⟨j, rfl, h1, h2, h3⟩
      unfold p31_l0
      by_cases hj : j < p.length
      · have hb := hp.get hj
        rw [if_pos (by omega), idx_get hj]
        simp only [Option.bind_some, p48_eq]
        by_cases hbl : isBl p[j] = true
        · rw [if_pos ((p48_bl hb).2 hbl)]
          refine .inl ⟨_, rfl, j + 1, by rw [wrap64 (by omega) (by omega)]; rfl, by omega, by omega, fun l r h => h3 l r (.go hj (t := []) (j := j + 1) ?_ (by simpa using h))⟩
          unfold stepS
          simp only [getD_of hj]
          rw [if_pos hbl]
        · rw [if_neg (fun h => hbl ((p48_bl hb).1 h))]
          by_cases hc : p[j] = 35
          · rw [if_pos hc, slc_ok (Nat.le_of_lt hj) (Nat.le_refl _), List.take_length]
            simp only [Option.bind_some]
            have hst : stepS p j = .inl (run nnl p j, []) := by
              unfold stepS
              simp only [getD_of hj]
              rw [if_neg hbl, if_pos hc]
            obtain ⟨hg1, hg2, _⟩ := stepS_gt hj hst
            rcases nl_idx hp (Nat.le_of_lt hj) with ⟨g1, g2⟩ | ⟨g1, g2, g3⟩
            · rw [if_pos g1]
              refine .inr ⟨_, rfl, p.length, .inl rfl, by omega, Nat.le_refl _, fun l r h => h3 l r (.go hj hst (by rw [g2]; simpa using h)), fun h => absurd h (by omega)⟩
            · rw [g1, if_neg (by omega)]
              refine .inl ⟨_, rfl, run nnl p j, by rw [wrap64 (by omega) (by omega)]; omega, by omega, hg2, fun l r h => h3 l r (.go hj hst (by simpa using h))⟩
          · rw [if_neg hc]
            exact .inr ⟨_, rfl, j, .inl rfl, by omega, h2, h3, fun _ => ⟨by simpa using hbl, hc⟩⟩
      · rw [if_neg (by omega)]
        exact .inr ⟨_, rfl, j, .inr rfl, by omega, h2, h3, fun h => absurd h hj⟩
    · rintro _ ⟨j, rfl, h1, h2, h3⟩
      unfold p31_l0
      rw [if_neg (by omega)]
      exact ⟨_, rfl, j, .inr rfl, by omega, h2, h3, fun h => absurd h (by omega)⟩
  obtain ⟨r, h1, j, h2, h3⟩ := key
  refine ⟨j, ?_, h3⟩
  unfold p31
  rw [h1]
  rcases h2 with rfl | rfl <;> rfl
/-- A run of a word's bytes. -/
theorem p32_word {p : List Int} (hl : p.length ≤ 1000000) {i : Nat} (hi : i ≤ p.length) : loopC (p32_l0 p) (i : Int) = some ((run isWd p i : Nat) : Int) := by
  obtain ⟨r, h1, h2⟩ : ∃ r, loopC (p32_l0 p) (i : Int) = some r ∧ r = ((run isWd p i : Nat) : Int) := by
    refine loop_cnt (p.length - i) (fun k s => s = ((i + k : Nat) : Int) ∧ run isWd p i = run isWd p (i + k)) _ ?_ ?_ ⟨rfl, rfl⟩
    · rintro k _ hk ⟨rfl, h⟩
      have hj : i + k < p.length := by omega
      rw [run_step hj] at h
      unfold p32_l0
      rw [if_pos (by omega), idx_get hj]
      simp only [Option.bind_some, p37_eq, p38_eq]
      have fin : ∀ b : Bool, b = isWd p[i + k] → (∃ s', p32_j1 ((i + k : Nat) : Int) b = some (.inl s') ∧ s' = ((i + (k + 1) : Nat) : Int) ∧ run isWd p i = run isWd p (i + (k + 1))) ∨ ∃ r, p32_j1 ((i + k : Nat) : Int) b = some (.inr r) ∧ r = ((run isWd p i : Nat) : Int) := by
        rintro b rfl
        unfold p32_j1
        cases hw : isWd p[i + k] with
        | true =>
          rw [if_pos rfl]
          rw [hw, if_pos rfl] at h
          exact .inl ⟨_, rfl, by rw [wrap64 (by omega) (by omega)]; omega, h⟩
        | false =>
          rw [if_neg (by simp)]
          rw [hw, if_neg (by simp)] at h
          exact .inr ⟨_, rfl, by rw [h]⟩
      unfold p32_j3 p32_j2
      cases hs : isSm p[i + k] with
      | true =>
        rw [if_pos rfl, if_pos rfl]
        exact fin _ (by simp [isWd, hs])
      | false =>
        rw [if_neg (by simp)]
        cases hd : isDg p[i + k] with
        | true =>
          rw [if_pos rfl]
          exact fin _ (by simp [isWd, hs, hd])
        | false =>
          rw [if_neg (by simp), idx_get hj]
          exact fin _ (by simp [isWd, hs, hd])
    · rintro _ ⟨rfl, h⟩
      rw [run_end (i := i + (p.length - i)) (by omega)] at h
      unfold p32_l0 p32_j1
      rw [if_neg (by omega), if_neg (by simp)]
      exact ⟨_, rfl, by rw [h]⟩
  rw [h1, h2]
/-- A run of digits, and their number. -/
theorem p32_num {p : List Int} (hl : p.length ≤ 1000000) {i : Nat} (hi : i ≤ p.length) {n : Int} (h0 : 0 ≤ n) (h1 : n ≤ 1125899906842624) :
    ∃ r, loopC (p32_l1 p) ((i : Int), n) = some r ∧ (match num p i n with | some m => r = .inr ((run isDg p i : Nat), m) | none => ∃ u, r = .inl u) := by
  refine loop_cnt (p.length - i) (fun k s => ∃ m : Int, s = (((i + k : Nat) : Int), m) ∧ 0 ≤ m ∧ m ≤ 1125899906842624 ∧ run isDg p i = run isDg p (i + k) ∧ num p i n = num p (i + k) m) _ ?_ ?_ ⟨n, rfl, h0, h1, rfl, rfl⟩
  · rintro k _ hk ⟨m, rfl, g0, g1, g2, g3⟩
    have hj : i + k < p.length := by omega
    rw [run_step hj] at g2
    rw [num_step hj] at g3
    unfold p32_l1
    simp only
    rw [if_pos (by omega), idx_get hj]
    simp only [Option.bind_some, p38_eq]
    unfold p32_j4
    cases hd : isDg p[i + k] with
    | true =>
      have hb := isDg_lt hd
      rw [if_pos rfl, idx_get hj]
      simp only [Option.bind_some]
      have e1 : IntKind.wrap .u8 (p[i + k] - 48) = p[i + k] - 48 := IntWalk.u8_in _ (by omega)
      rw [e1, wrap64 (n := 10 * m) (by omega) (by omega), wrap64 (n := p[i + k] - 48) (by omega) (by omega), wrap64 (by omega) (by omega)]
      rw [hd, if_pos rfl] at g2 g3
      by_cases hc : 1125899906842624 < 10 * m + (p[i + k] - 48)
      · rw [if_pos hc] at g3 ⊢
        refine .inr ⟨_, rfl, ?_⟩
        rw [g3]
        exact ⟨_, rfl⟩
      · rw [if_neg hc] at g3 ⊢
        exact .inl ⟨_, rfl, 10 * m + (p[i + k] - 48), by rw [wrap64 (by omega) (by omega)]; rfl, by omega, by omega, g2, g3⟩
    | false =>
      rw [if_neg (by simp)]
      rw [hd, if_neg (by simp)] at g2 g3
      refine .inr ⟨_, rfl, ?_⟩
      rw [g3, g2]
  · rintro _ ⟨m, rfl, g0, g1, g2, g3⟩
    rw [run_end (i := i + (p.length - i)) (by omega)] at g2
    rw [num_end (i := i + (p.length - i)) (by omega)] at g3
    unfold p32_l1 p32_j4
    simp only
    rw [if_neg (by omega), if_neg (by simp)]
    refine ⟨_, rfl, ?_⟩
    rw [g3, g2]
end Go.Proofs.Ytloaoofdbilpeaa

/- Lines and columns, plainly. Own work. -/
namespace Go.Proofs.Ytloaoofdbilpeaa
open Go Go.Am
set_option linter.unusedVariables false
set_option linter.unusedSimpArgs false
/-- Where the last line's end ahead of a place stands. -/
def lastN (p : List Int) : Nat → Int
  | 0 => -1
  | i + 1 => if p[i]? = some 10 then (i : Int) else lastN p i
/-- How many lines' ends stand ahead of a place. -/
def cntN (p : List Int) : Nat → Nat
  | 0 => 0
  | i + 1 => cntN p i + if p[i]? = some 10 then 1 else 0
theorem lastN_succ (p : List Int) (i : Nat) : lastN p (i + 1) = if p[i]? = some 10 then (i : Int) else lastN p i := rfl
theorem cntN_succ (p : List Int) (i : Nat) : cntN p (i + 1) = cntN p i + if p[i]? = some 10 then 1 else 0 := rfl
theorem lastN_lt (p : List Int) : ∀ i : Nat, -1 ≤ lastN p i ∧ lastN p i < (i : Int)
  | 0 => ⟨Int.le_refl _, by show (-1 : Int) < 0; omega⟩
  | i + 1 => by
    have := lastN_lt p i
    unfold lastN
    split <;> omega
theorem cntN_le (p : List Int) : ∀ i : Nat, cntN p i ≤ i
  | 0 => Nat.le_refl _
  | i + 1 => by
    have := cntN_le p i
    unfold cntN
    split <;> omega
theorem p20_eq {p : List Int} (hl : p.length ≤ 1000000) {i : Nat} (hi : i ≤ p.length) : p20 p (i : Int) = some (1 + (cntN p i : Int), (i : Int) - lastN p i) := by
  obtain ⟨r, h1, h2⟩ : ∃ r, loopC (p20_l0 p (i : Int)) ((1 : Int), (1 : Int), (0 : Int)) = some r ∧ r = (1 + (cntN p i : Int), (i : Int) - lastN p i) := by
    refine loop_cnt i (fun k (st : Int × Int × Int) => st = (1 + (cntN p k : Int), (k : Int) - lastN p k, (k : Int))) _ ?_ ?_ rfl
    · rintro k _ hk rfl
      have hj : k < p.length := by omega
      have b1 := lastN_lt p k
      have b2 := cntN_le p k
      refine .inl ⟨_, ?_, rfl⟩
      unfold p20_l0
      simp only
      rw [if_pos (by omega)]
      unfold p20_j1
      rw [if_pos (by simp; omega), idx_get hj]
      simp only [Option.bind_some]
      unfold p20_j0
      rw [lastN_succ, cntN_succ, List.getElem?_eq_getElem hj, wrap64 (n := (k : Int) + 1) (by omega) (by omega)]
      by_cases hc : p[k] = 10
      · rw [if_pos hc, if_pos (by rw [hc]), if_pos (by rw [hc]), wrap64 (by omega) (by omega)]
        refine congrArg (fun x => some (Sum.inl x)) (Prod.ext ?_ (Prod.ext ?_ ?_))
        · simp only; push_cast; omega
        · simp only; push_cast; omega
        · simp only; push_cast; omega
      · have hc' : ¬ some p[k] = some 10 := fun h => hc (Option.some.inj h)
        rw [if_neg hc, if_neg hc', if_neg hc', wrap64 (by omega) (by omega)]
        refine congrArg (fun x => some (Sum.inl x)) (Prod.ext ?_ (Prod.ext ?_ ?_))
        · simp only; push_cast; omega
        · simp only; push_cast; omega
        · simp only; push_cast; omega
    · rintro _ rfl
      unfold p20_l0 p20_j1
      simp only
      rw [if_neg (by omega), if_neg (by simp)]
      exact ⟨_, rfl, rfl⟩
  unfold p20
  rw [h1, h2]
  rfl
theorem u8_nat {c : Int} (hc : 0 ≤ c ∧ c ≤ 255) : ((u8 c).toNat : Int) = c := by
  unfold u8
  simp only [UInt8.toNat_ofNat']
  omega
theorem p52_eq {p : List Int} (hp : Bytes p) (hl : p.length ≤ 1000000) {i : Nat} (hi : i ≤ p.length) : p52 ((p.take i).map u8) 10 = some (lastN p i) := by
  have hlen : ((p.take i).map u8).length = i := by simp; omega
  unfold p52
  rw [hlen, wrap64 (by omega) (by omega)]
  obtain ⟨r, h1, h2⟩ : ∃ r, loopC (p52_l0 ((p.take i).map u8) 10) ((i : Int) - 1) = some r ∧ (r = .inl (lastN p i) ∨ (r = .inr () ∧ lastN p i = -1)) := by
    refine loop_cnt i (fun d (st : Int) => st = (i : Int) - d - 1 ∧ lastN p i = lastN p (i - d)) _ ?_ ?_ ⟨by omega, rfl⟩
    · rintro d _ hd ⟨rfl, h⟩
      obtain ⟨j, hj⟩ : ∃ j, i - d = j + 1 := ⟨i - d - 1, by omega⟩
      have e1 : (i : Int) - d - 1 = (j : Int) := by omega
      have hjp : j < p.length := by omega
      rw [hj] at h
      rw [lastN_succ, List.getElem?_eq_getElem hjp] at h
      unfold p52_l0
      rw [e1, if_pos (by omega)]
      have hix : idxS ((p.take i).map u8) (j : Int) = some p[j] := by
        unfold idxS
        rw [if_pos (by omega), Int.toNat_natCast, List.getElem?_map, List.getElem?_take, if_pos (by omega), List.getElem?_eq_getElem hjp]
        simp only [Option.map_some]
        rw [u8_nat (hp.get hjp)]
      rw [hix]
      simp only [Option.bind_some]
      by_cases hc : p[j] = 10
      · rw [if_pos hc]
        rw [if_pos (by rw [hc])] at h
        exact .inr ⟨_, rfl, .inl (by rw [h])⟩
      · rw [if_neg hc]
        rw [if_neg (fun e => hc (Option.some.inj e))] at h
        refine .inl ⟨_, rfl, ?_, ?_⟩
        · rw [wrap64 (by omega) (by omega)]; omega
        · rw [h, show i - (d + 1) = j by omega]
    · rintro _ ⟨rfl, h⟩
      rw [Nat.sub_self] at h
      unfold p52_l0
      rw [if_neg (by omega)]
      exact ⟨_, rfl, .inr ⟨rfl, h⟩⟩
  rw [h1]
  rcases h2 with rfl | ⟨rfl, h⟩
  · rfl
  · rw [h]; rfl
theorem cntB_eq {p : List Int} (hp : Bytes p) : ∀ {i : Nat}, i ≤ p.length → cntB ((p.take i).map u8) 10 = (cntN p i : Int)
  | 0, _ => rfl
  | i + 1, hi => by
    have ih := cntB_eq hp (i := i) (by omega)
    have hj : i < p.length := by omega
    unfold cntB Go.Lib.countByte at ih ⊢
    rw [List.take_succ_eq_append_getElem hj, List.map_append, List.count_append]
    rw [cntN_succ, List.getElem?_eq_getElem hj]
    have : ([p[i]].map u8).count (10 : Int).toNat.toUInt8 = if some p[i] = some 10 then 1 else 0 := by
      rw [List.map_singleton, List.count_singleton]
      by_cases hc : p[i] = 10
      · rw [hc]; rfl
      · have h1 : ¬ (u8 p[i] = (10 : Int).toNat.toUInt8) := fun e => hc ((u8_inj (hp.get hj) (by omega)).1 e)
        rw [if_neg (by simpa using h1), if_neg (fun e => hc (Option.some.inj e))]
    rw [this]
    omega
theorem p21_eq {p : List Int} (hp : Bytes p) (hl : p.length ≤ 1000000) (a : Int) {i : Nat} (hi : i ≤ p.length) (ha : (if (p.length : Int) < (if a < (0 : Int) then (0 : Int) else a) then (p.length : Int) else (if a < (0 : Int) then (0 : Int) else a)) = (i : Int)) :
    p21 p a = some (1 + (cntN p i : Int), (i : Int) - lastN p i) := by
  have b1 := lastN_lt p i
  have b2 := cntN_le p i
  unfold p21
  rw [ha, show (0 : Int) = ((0 : Nat) : Int) from rfl, slc_ok (Nat.zero_le i) hi, List.drop_zero]
  simp only [Option.bind_some]
  have h35 : p35 ((p.take i).map u8) [10] = some (cntN p i : Int) := by
    unfold p35
    rw [if_neg (by simp), if_pos (by simp), show idxS ([10] : List UInt8) 0 = some 10 from rfl]
    simp only [Option.bind_some]
    rw [cntB_eq hp hi]
  rw [h35]
  simp only [Option.bind_some]
  unfold p36
  rw [p52_eq hp hl hi]
  simp only [Option.bind_some]
  rw [wrap64 (by omega) (by omega), wrap64 (by omega) (by omega)]
  congr 2
  omega
theorem p22_eq {p : List Int} (hp : Bytes p) (hl : p.length ≤ 1000000) (e : Int) {i : Nat} (hi : i ≤ p.length) : p22 p e (i : Int) = some ⟨e, (i : Int), 1 + (cntN p i : Int), (i : Int) - lastN p i⟩ := by
  unfold p22
  rw [p21_eq hp hl (i : Int) hi (by rw [if_neg (show ¬ (i : Int) < 0 by omega), if_neg (by omega)])]
  rfl
end Go.Proofs.Ytloaoofdbilpeaa

/- The program's tokens are the document's, plainly. Own work. -/
namespace Go.Proofs.Ytloaoofdbilpeaa
open Go Go.Am
set_option linter.unusedVariables false
set_option linter.unusedSimpArgs false
/-- One token by the program. -/
theorem p32_eq {p : List Int} (hp : Bytes p) (hl : p.length ≤ 1000000) {i : Nat} (hi : i < p.length) : p32 p (i : Int) = match oneS p i with
    | .inl (k, j, n) => some (⟨k, textOf p i j, n, (i : Int)⟩, 0)
    | .inr e => some (⟨0, [], 0, 0⟩, e) := by
  have hb := hp.get hi
  have put : ∀ (j : Nat) (k n : Int), i ≤ j → j ≤ p.length → p32_j0 p (i : Int) (j : Int) k n = some (⟨k, textOf p i j, n, (i : Int)⟩, 0) := by
    intro j k n h1 h2
    unfold p32_j0
    rw [slc_ok h1 h2]; rfl
  have hw1 : IntKind.wrap .i64 ((i : Int) + 1) = ((i + 1 : Nat) : Int) := by rw [wrap64 (by omega) (by omega)]; rfl
  have hw2 : IntKind.wrap .i64 (((i + 1 : Nat) : Int) + 1) = ((i + 2 : Nat) : Int) := by rw [wrap64 (by omega) (by omega)]; rfl
  unfold p32 oneS
  simp only [getD_of hi]
  rw [idx_get hi]
  simp only [Option.bind_some, p37_eq, p38_eq]
  rw [hw1]
  by_cases hs : isSm p[i] = true
  · rw [if_pos hs, if_pos hs, p32_word hl (by omega)]
    simp only [Option.bind_some]
    exact put _ _ _ (Nat.le_trans (Nat.le_succ i) (run_ge _ _ _)) (run_le (by omega))
  rw [if_neg hs, if_neg hs]
  by_cases hd : isDg p[i] = true
  · rw [if_pos hd, if_pos hd]
    have hb2 := isDg_lt hd
    have e1 : IntKind.wrap .u8 (p[i] - 48) = p[i] - 48 := IntWalk.u8_in _ (by omega)
    rw [e1, wrap64 (n := p[i] - 48) (by omega) (by omega)]
    obtain ⟨r, h1, h2⟩ := p32_num hl (i := i + 1) (by omega) (n := p[i] - 48) (by omega) (by omega)
    have hn := num_step hi 0
    rw [if_pos hd, if_neg (by omega), show (10 : Int) * 0 + (p[i] - 48) = p[i] - 48 by omega] at hn
    rw [h1, hn]
    simp only [Option.bind_some]
    cases hv : num p (i + 1) (p[i] - 48) with
    | none =>
      rw [hv] at h2
      obtain ⟨u, rfl⟩ := h2
      rfl
    | some m =>
      rw [hv] at h2
      subst h2
      exact put _ _ _ (Nat.le_trans (Nat.le_succ i) (run_ge _ _ _)) (run_le (by omega))
  rw [if_neg hd, if_neg hd]
  have last : ∀ b : Bool, b = decide (p[i] = 45 ∧ p[i + 1]? = some 62) → p32_j5 p (i : Int) p[i] b = match (if p[i] = 45 ∧ p[i + 1]? = some 62 then Sum.inl (3, i + 2, 0) else if isSg p[i] = true then Sum.inl (3, i + 1, 0) else Sum.inr 6 : (Int × Nat × Int) ⊕ Int) with
    | .inl (k, j, n) => some (⟨k, textOf p i j, n, (i : Int)⟩, 0)
    | .inr e => some (⟨0, [], 0, 0⟩, e) := by
    rintro b rfl
    unfold p32_j5
    rw [hw1, hw2]
    by_cases h : p[i] = 45 ∧ p[i + 1]? = some 62
    · have := (List.getElem?_eq_some_iff.1 h.2).1
      rw [if_pos (by simpa using h), if_pos h]
      exact put _ _ _ (by omega) (by omega)
    · rw [if_neg (by simpa using h), if_neg h]
      simp only [p48_eq, Option.bind_some]
      by_cases hg : isSg p[i] = true
      · rw [if_pos ((p48_sg hb).2 hg), if_pos hg]
        exact put _ _ _ (by omega) (by omega)
      · rw [if_neg (fun h => hg ((p48_sg hb).1 h)), if_neg hg]
  by_cases hm : p[i] = 45
  · rw [if_pos hm]
    unfold p32_j6
    by_cases hj : i + 1 < p.length
    · rw [if_pos (by simp; omega), hw1, idx_get hj]
      simp only [Option.bind_some]
      exact last _ (by simp [hm, List.getElem?_eq_getElem hj])
    · rw [if_neg (by simp; omega)]
      exact last _ (by simp [List.getElem?_eq_none (Nat.le_of_not_lt hj)])
  · rw [if_neg hm]
    unfold p32_j6
    rw [if_neg (by simp)]
    exact last _ (by simp [hm])
def tokL (t : TTokenlex) : Tok := ⟨t.Kind, t.Text, t.N, t.At⟩
def tokR (t : TToken) : Tok := ⟨t.Kind, t.Text, t.N, t.At⟩
theorem oneS_err {p : List Int} {i : Nat} {e : Int} (h : oneS p i = .inr e) : e = 3 ∨ e = 6 := by
  unfold oneS at h
  simp only at h
  repeat' split at h
  all_goals first | (cases h; done) | (cases h; simp)
theorem stepS_err {p : List Int} {i : Nat} {e : Int} (h : stepS p i = .inr e) : e = 3 ∨ e = 6 := by
  unfold stepS at h
  simp only at h
  split at h
  · cases h
  · split at h
    · cases h
    · split at h
      · cases h
      · rename_i h1; cases h; exact oneS_err h1
theorem stepS_one {p : List Int} {i : Nat} (hi : i < p.length) (h1 : isBl p[i] = false) (h2 : p[i] ≠ 35) : stepS p i = match oneS p i with
    | .inl (k, e, n) => .inl (e, [⟨k, textOf p i e, n, (i : Int)⟩])
    | .inr e => .inr e := by
  unfold stepS
  simp only [getD_of hi]
  rw [if_neg (by simp [h1]), if_neg h2]
  all_goals (cases oneS p i <;> rfl)
theorem text_len {p : List Int} {i j : Nat} (h : i ≤ j) (hj : j ≤ p.length) : (textOf p i j).length = j - i := by
  unfold textOf
  simp; omega
/-- The program's lexer: the tokens, or a fault where the first one is. -/
theorem p18_eq {p : List Int} (hp : Bytes p) (hl : p.length ≤ 1000000) : ∃ r, p18 p = some r ∧ ∃ L e a, LexR p 0 [] (L, e, a) ∧
    ((e = 0 ∧ r.2 = ⟨0, 0, 0, 0⟩ ∧ r.1.map tokL = L) ∨ (e ≠ 0 ∧ ∃ i : Nat, i ≤ p.length ∧ a = (i : Int) ∧ r = ([], ⟨e, (i : Int), 1 + (cntN p i : Int), (i : Int) - lastN p i⟩))) := by
  have key : ∃ r, loopC (p18_l0 p) ((0 : Int), []) = some r ∧ ∃ L e a, LexR p 0 [] (L, e, a) ∧
      ((e = 0 ∧ r.2 = (0, 0, 0, 0) ∧ r.1.map tokL = L) ∨ (e ≠ 0 ∧ ∃ i : Nat, i ≤ p.length ∧ a = (i : Int) ∧ r = ([], e, (i : Int), 1 + (cntN p i : Int), (i : Int) - lastN p i))) := by
    have round : ∀ (i : Nat) (l : List TTokenlex), i ≤ p.length → l.length ≤ i → (∀ r, LexR p i (l.map tokL) r → LexR p 0 [] r) →
        (∃ (j : Nat) (l' : List TTokenlex), p18_l0 p ((i : Int), l) = some (.inl ((j : Int), l')) ∧ i < j ∧ j ≤ p.length ∧ l'.length ≤ j ∧ ∀ r, LexR p j (l'.map tokL) r → LexR p 0 [] r) ∨
        ∃ r, p18_l0 p ((i : Int), l) = some (.inr r) ∧ ∃ L e a, LexR p 0 [] (L, e, a) ∧
          ((e = 0 ∧ r.2 = (0, 0, 0, 0) ∧ r.1.map tokL = L) ∨ (e ≠ 0 ∧ ∃ i : Nat, i ≤ p.length ∧ a = (i : Int) ∧ r = ([], e, (i : Int), 1 + (cntN p i : Int), (i : Int) - lastN p i))) := by
      intro i l hi hll hr
      obtain ⟨j, h1, h2, h3, h4, h5⟩ := p31_eq hp hl hi
      unfold p18_l0
      simp only
      rw [h1]
      simp only [Option.bind_some]
      by_cases hj : j = p.length
      · subst hj
        rw [if_pos rfl, app_ok (by simp; omega)]
        refine .inr ⟨_, rfl, _, 0, 0, hr _ (h4 _ _ (.done rfl)), .inl ⟨rfl, rfl, ?_⟩⟩
        simp [tokL]
      · have hj' : j < p.length := by omega
        obtain ⟨g1, g2⟩ := h5 hj'
        have hst := stepS_one hj' g1 g2
        rw [if_neg (by omega), p32_eq hp hl hj']
        cases ho : oneS p j with
        | inr e =>
          rw [ho] at hst
          simp only [Option.bind_some]
          have he := oneS_err ho
          rw [if_pos (by simp; omega), p22_eq hp hl e (Nat.le_of_lt hj')]
          exact .inr ⟨_, rfl, [], e, _, hr _ (h4 _ _ (.err hj' hst)), .inr ⟨by omega, j, Nat.le_of_lt hj', rfl, rfl⟩⟩
        | inl q =>
          obtain ⟨k, e, n⟩ := q
          rw [ho] at hst
          obtain ⟨g3, g4⟩ := oneS_gt hj' ho
          simp only [Option.bind_some]
          rw [if_neg (by simp), app_ok (by simp; omega)]
          simp only [Option.bind_some]
          have hlen := text_len (p := p) (Nat.le_of_lt g3) g4
          refine .inl ⟨e, l ++ [⟨k, textOf p j e, n, (j : Int)⟩], ?_, by omega, g4, by simp; omega, fun r h => hr _ (h4 _ _ (.go hj' hst ?_))⟩
          · rw [hlen, wrap64 (by omega) (by omega), show (j : Int) + ((e - j : Nat) : Int) = (e : Int) by omega]
          · simpa [tokL] using h
    refine loop_cnt p.length (fun k st => ∃ (i : Nat) (l : List TTokenlex), st = ((i : Int), l) ∧ k ≤ i ∧ i ≤ p.length ∧ l.length ≤ i ∧ ∀ r, LexR p i (l.map tokL) r → LexR p 0 [] r) _ ?_ ?_ ⟨0, [], rfl, Nat.le_refl _, Nat.zero_le _, Nat.le_refl _, fun _ h => h⟩
    · rintro k _ hk ⟨i, l, rfl, h1, h2, h3, h4⟩
      rcases round i l h2 h3 h4 with ⟨j, l', g1, g2, g3, g4, g5⟩ | h
      · exact .inl ⟨_, g1, j, l', rfl, by omega, g3, g4, g5⟩
      · exact .inr h
    · rintro _ ⟨i, l, rfl, h1, h2, h3, h4⟩
      rcases round i l h2 h3 h4 with ⟨j, l', g1, g2, g3, g4, g5⟩ | h
      · omega
      · exact h
  obtain ⟨r, h1, L, e, a, h2, h3⟩ := key
  unfold p18
  rw [h1]
  obtain ⟨y, c1, c2, c3, c4⟩ := r
  refine ⟨_, rfl, L, e, a, h2, ?_⟩
  rcases h3 with ⟨g1, g2, g3⟩ | ⟨g1, i, g2, g3, g4⟩
  · simp only [Prod.mk.injEq] at g2
    obtain ⟨rfl, rfl, rfl, rfl⟩ := g2
    exact .inl ⟨g1, rfl, g3⟩
  · simp only [Prod.mk.injEq] at g4
    obtain ⟨rfl, rfl, rfl, rfl, rfl⟩ := g4
    exact .inr ⟨g1, i, g2, g3, rfl⟩
end Go.Proofs.Ytloaoofdbilpeaa

/- The document's tokens, plainly. Own work. -/
namespace Go.Proofs.Ytloaoofdbilpeaa
open Go Go.Am
set_option linter.unusedVariables false
set_option linter.unusedSimpArgs false
/-- A loop that goes as far as a run does. -/
theorem run_loop {P : Int → Bool} {p : List Int} (hl : p.length ≤ 1000000) {f : Int → Option (Int ⊕ Int)}
    (hin : ∀ j : Nat, ∀ h : j < p.length, f (j : Int) = if P p[j] = true then some (.inl (IntKind.wrap .i64 ((j : Int) + 1))) else some (.inr (j : Int)))
    (hout : f (p.length : Int) = some (.inr (p.length : Int))) {i : Nat} (hi : i ≤ p.length) : loopC f (i : Int) = some ((run P p i : Nat) : Int) := by
  obtain ⟨r, h1, h2⟩ : ∃ r, loopC f (i : Int) = some r ∧ r = ((run P p i : Nat) : Int) := by
    refine loop_cnt (p.length - i) (fun k s => s = ((i + k : Nat) : Int) ∧ run P p i = run P p (i + k)) _ ?_ ?_ ⟨rfl, rfl⟩
    · rintro k _ hk ⟨rfl, h⟩
      have hj : i + k < p.length := by omega
      rw [run_step hj] at h
      rw [hin _ hj]
      split
      · rename_i hw
        rw [if_pos hw] at h
        exact .inl ⟨_, rfl, by rw [wrap64 (by omega) (by omega)]; omega, h⟩
      · rename_i hw
        rw [if_neg hw] at h
        exact .inr ⟨_, rfl, by rw [h]⟩
    · rintro _ ⟨rfl, h⟩
      rw [run_end (i := i + (p.length - i)) (by omega)] at h
      have e : i + (p.length - i) = p.length := by omega
      rw [e] at h ⊢
      exact ⟨_, hout, by rw [h]⟩
  rw [h1, h2]
theorem p19_word {p : List Int} (hl : p.length ≤ 1000000) {i : Nat} (hi : i ≤ p.length) : loopC (p19_l1 p) (i : Int) = some ((run isWd p i : Nat) : Int) := by
  refine run_loop hl (fun j hj => ?_) ?_ hi
  · unfold p19_l1
    rw [if_pos (by omega), idx_get hj]
    simp only [Option.bind_some, p33_eq, p34_eq]
    have fin : ∀ b : Bool, b = isWd p[j] → p19_j2 (j : Int) b = if isWd p[j] = true then some (.inl (IntKind.wrap .i64 ((j : Int) + 1))) else some (.inr (j : Int)) := by
      rintro b rfl; rfl
    unfold p19_j4 p19_j3
    cases hs : isSm p[j] with
    | true =>
      rw [if_pos rfl, if_pos rfl]
      exact fin _ (by simp [isWd, hs])
    | false =>
      rw [if_neg (by simp)]
      cases hd : isDg p[j] with
      | true =>
        rw [if_pos rfl]
        exact fin _ (by simp [isWd, hs, hd])
      | false =>
        rw [if_neg (by simp), idx_get hj]
        exact fin _ (by simp [isWd, hs, hd])
  · unfold p19_l1 p19_j2
    rw [if_neg (by omega), if_neg (by simp)]
theorem p19_digits {p : List Int} (hl : p.length ≤ 1000000) {i : Nat} (hi : i ≤ p.length) : loopC (p19_l2 p) (i : Int) = some ((run isDg p i : Nat) : Int) := by
  refine run_loop hl (fun j hj => ?_) ?_ hi
  · unfold p19_l2
    rw [if_pos (by omega), idx_get hj]
    simp only [Option.bind_some, p34_eq]
    rfl
  · unfold p19_l2 p19_j5
    rw [if_neg (by omega), if_neg (by simp)]
theorem p19_line {p : List Int} (hl : p.length ≤ 1000000) {i : Nat} (hi : i ≤ p.length) : loopC (p19_l0 p) (i : Int) = some ((run nnl p i : Nat) : Int) := by
  refine run_loop hl (fun j hj => ?_) ?_ hi
  · unfold p19_l0
    rw [if_pos (by omega), idx_get hj]
    rfl
  · unfold p19_l0 p19_j0
    rw [if_neg (by omega), if_neg (by simp)]
theorem p19_num {p : List Int} (hl : p.length ≤ 1000000) {i : Nat} (hi : i ≤ p.length) (a b : Int) :
    ∃ r, loopC (p19_l3 p ((run isDg p i : Nat) : Int)) (a, b, (i : Int), (0 : Int)) = some r ∧ (match num p i 0 with | some m => r = .inr (a, b, m) | none => ∃ u, r = .inl u) := by
  refine loop_cnt (p.length - i) (fun k s => ∃ m : Int, s = (a, b, ((i + k : Nat) : Int), m) ∧ 0 ≤ m ∧ m ≤ 1125899906842624 ∧ run isDg p i = run isDg p (i + k) ∧ num p i 0 = num p (i + k) m) _ ?_ ?_ ⟨0, rfl, by omega, by omega, rfl, rfl⟩
  · rintro k _ hk ⟨m, rfl, g0, g1, g2, g3⟩
    have hj : i + k < p.length := by omega
    have hge := run_ge isDg p (i + k + 1)
    rw [run_step hj] at g2
    rw [num_step hj] at g3
    unfold p19_l3
    simp only
    cases hd : isDg p[i + k] with
    | true =>
      have hb := isDg_lt hd
      rw [hd, if_pos rfl] at g2 g3
      rw [if_pos (by omega), idx_get hj]
      simp only [Option.bind_some]
      have e1 : IntKind.wrap .u8 (p[i + k] - 48) = p[i + k] - 48 := IntWalk.u8_in _ (by omega)
      rw [e1, wrap64 (n := m * 10) (by omega) (by omega), wrap64 (n := p[i + k] - 48) (by omega) (by omega), wrap64 (by omega) (by omega), Int.mul_comm m 10]
      by_cases hc : 1125899906842624 < 10 * m + (p[i + k] - 48)
      · rw [if_pos hc] at g3 ⊢
        refine .inr ⟨_, rfl, ?_⟩
        rw [g3]
        exact ⟨_, rfl⟩
      · rw [if_neg hc] at g3 ⊢
        exact .inl ⟨_, rfl, 10 * m + (p[i + k] - 48), by rw [wrap64 (by omega) (by omega)]; rfl, by omega, by omega, g2, g3⟩
    | false =>
      rw [hd, if_neg (by simp)] at g2 g3
      rw [if_neg (by omega)]
      refine .inr ⟨_, rfl, ?_⟩
      rw [g3]
  · rintro _ ⟨m, rfl, g0, g1, g2, g3⟩
    rw [run_end (i := i + (p.length - i)) (by omega)] at g2
    rw [num_end (i := i + (p.length - i)) (by omega)] at g3
    unfold p19_l3
    simp only
    rw [if_neg (by omega)]
    refine ⟨_, rfl, ?_⟩
    rw [g3]
def sg8 : List Int := [59, 58, 44, 42, 33, 126, 64, 61]
theorem p19_sign (e : Int) : loopC (p19_l4 e) ((0 : Int), (0 : Int)) = some (if isSg e = true then 3 else 0) := by
  have hix : ∀ k : Nat, k < 8 → ∃ x, sg8[k]? = some x ∧ idxS ([59, 58, 44, 42, 33, 126, 64, 61] : List UInt8) (k : Int) = some x := by
    intro k hk
    rcases k with _ | _ | _ | _ | _ | _ | _ | _ | k
    · exact ⟨_, rfl, rfl⟩
    · exact ⟨_, rfl, rfl⟩
    · exact ⟨_, rfl, rfl⟩
    · exact ⟨_, rfl, rfl⟩
    · exact ⟨_, rfl, rfl⟩
    · exact ⟨_, rfl, rfl⟩
    · exact ⟨_, rfl, rfl⟩
    · exact ⟨_, rfl, rfl⟩
    · omega
  obtain ⟨r, h1, h2⟩ : ∃ r, loopC (p19_l4 e) ((0 : Int), (0 : Int)) = some r ∧ r = if e ∈ sg8 then 3 else 0 := by
    refine loop_cnt 8 (fun k (st : Int × Int) => st = ((k : Int), if e ∈ sg8.take k then 3 else 0)) _ ?_ ?_ rfl
    · rintro k _ hk rfl
      obtain ⟨x, q1, q2⟩ := hix k hk
      have hkl : k < sg8.length := hk
      have hx : sg8[k] = x := by rw [List.getElem?_eq_getElem hkl] at q1; exact Option.some.inj q1
      refine .inl ⟨((k + 1 : Nat), if e ∈ sg8.take (k + 1) then 3 else 0), ?_, rfl⟩
      unfold p19_l4 p19_j6
      simp only
      rw [if_pos (by omega), q2]
      simp only [Option.bind_some]
      rw [wrap64 (by omega) (by omega), List.take_succ_eq_append_getElem hkl, hx]
      by_cases hc : x = e
      · rw [if_pos hc, if_pos (by simp [hc])]; rfl
      · rw [if_neg hc]
        have : (e ∈ sg8.take k ++ [x]) ↔ e ∈ sg8.take k := by simp; exact fun h => absurd h.symm hc
        by_cases hm : e ∈ sg8.take k
        · rw [if_pos hm, if_pos (this.2 hm)]; rfl
        · rw [if_neg hm, if_neg (fun h => hm (this.1 h))]; rfl
    · rintro _ rfl
      unfold p19_l4
      simp only
      rw [if_neg (by omega)]
      exact ⟨_, rfl, rfl⟩
  rw [h1, h2]
  congr 1
  have : e ∈ sg8 ↔ isSg e = true := by simp [sg8, isSg]
  by_cases hm : e ∈ sg8
  · rw [if_pos hm, if_pos (this.1 hm)]
  · rw [if_neg hm, if_neg (fun h => hm (this.2 h))]
def nextR (a b : Int) (c l : List TToken) (i : Nat) : (Nat × List TToken) ⊕ Int → Option ((Int × Int × Int × List TToken × List TToken) ⊕ ((Int × Int) ⊕ List TToken))
  | .inl (j, t) => some (.inl (a, b, (j : Int), c, l ++ t))
  | .inr e => some (.inr (.inl (e, (i : Int))))
def unTok (t : Tok) : TToken := ⟨t.k, t.s, t.n, t.at_⟩
theorem unTok_tok (t : List Tok) : (t.map unTok).map tokR = t := by
  rw [List.map_map]
  conv => rhs; rw [← List.map_id t]
  rfl
/-- One round of the document's lexer. -/
theorem p19_round {p : List Int} (hp : Bytes p) (hl : p.length ≤ 1000000) {i : Nat} (hi : i < p.length) {l : List TToken} (hll : l.length ≤ i) :
    p19_l5 p (0, 0, (i : Int), [], l) = match stepS p i with
      | .inl (j, t) => some (.inl (0, 0, (j : Int), [], l ++ t.map unTok))
      | .inr e => some (.inr (.inl (e, (i : Int)))) := by
  have hb := hp.get hi
  have hw1 : IntKind.wrap .i64 ((i : Int) + 1) = ((i + 1 : Nat) : Int) := by rw [wrap64 (by omega) (by omega)]; rfl
  have hw2 : IntKind.wrap .i64 (((i + 1 : Nat) : Int) + 1) = ((i + 2 : Nat) : Int) := by rw [wrap64 (by omega) (by omega)]; rfl
  have put : ∀ (j : Nat) (k n : Int), i ≤ j → j ≤ p.length → p19_j1 p (i : Int) [] l 0 0 (j : Int) k n = some (.inl (0, 0, (j : Int), [], l ++ [unTok ⟨k, textOf p i j, n, (i : Int)⟩])) := by
    intro j k n h1 h2
    unfold p19_j1
    rw [slc_ok h1 h2]
    simp only [Option.bind_some]
    rw [app_ok (by simp; omega)]
    rfl
  have core : ∀ bl : Bool, bl = isBl p[i] → p19_j9 p 0 0 (i : Int) [] l p[i] bl = match stepS p i with
      | .inl (j, t) => some (.inl (0, 0, (j : Int), [], l ++ t.map unTok))
      | .inr e => some (.inr (.inl (e, (i : Int)))) := by
    rintro bl rfl
    unfold p19_j9 stepS
    simp only [getD_of hi]
    by_cases hbl : isBl p[i] = true
    · rw [if_pos hbl, if_pos hbl, hw1]; simp
    rw [if_neg hbl, if_neg hbl]
    by_cases hc : p[i] = 35
    · rw [if_pos hc, if_pos hc, p19_line hl (Nat.le_of_lt hi)]; simp
    rw [if_neg hc, if_neg hc]
    unfold oneS
    simp only [getD_of hi, p33_eq, p34_eq, Option.bind_some]
    rw [hw1]
    by_cases hs : isSm p[i] = true
    · rw [if_pos hs, if_pos hs, p19_word hl (by omega)]
      simp only [Option.bind_some]
      exact put _ _ _ (Nat.le_trans (Nat.le_succ i) (run_ge _ _ _)) (run_le (by omega))
    rw [if_neg hs, if_neg hs]
    by_cases hd : isDg p[i] = true
    · rw [if_pos hd, if_pos hd, p19_digits hl (by omega)]
      simp only [Option.bind_some]
      have hr : run isDg p (i + 1) = run isDg p i := by rw [run_step hi, if_pos hd]
      obtain ⟨r, h1, h2⟩ := p19_num hl (Nat.le_of_lt hi) 0 0
      rw [hr, h1]
      simp only [Option.bind_some]
      have hge : i ≤ run isDg p i := run_ge _ _ _
      have hle : run isDg p i ≤ p.length := run_le (by omega)
      cases hv : num p i 0 with
      | none =>
        rw [hv] at h2
        obtain ⟨u, rfl⟩ := h2
        rfl
      | some m =>
        rw [hv] at h2
        subst h2
        exact put _ _ _ hge hle
    rw [if_neg hd, if_neg hd]
    have last : ∀ b : Bool, b = decide (p[i] = 45 ∧ p[i + 1]? = some 62) → p19_j7 p 0 0 (i : Int) [] l p[i] b = match (match (if p[i] = 45 ∧ p[i + 1]? = some 62 then Sum.inl (3, i + 2, 0) else if isSg p[i] = true then Sum.inl (3, i + 1, 0) else Sum.inr 6 : (Int × Nat × Int) ⊕ Int) with
        | .inl (k, e, n) => (.inl (e, [⟨k, textOf p i e, n, (i : Int)⟩]) : (Nat × List Tok) ⊕ Int)
        | .inr e => .inr e) with
        | .inl (j, t) => some (.inl (0, 0, (j : Int), [], l ++ t.map unTok))
        | .inr e => some (.inr (.inl (e, (i : Int)))) := by
      rintro b rfl
      unfold p19_j7
      rw [hw1, hw2]
      by_cases h : p[i] = 45 ∧ p[i + 1]? = some 62
      · have := (List.getElem?_eq_some_iff.1 h.2).1
        rw [if_pos (by simpa using h), if_pos h]
        exact put _ _ _ (by omega) (by omega)
      · rw [if_neg (by simpa using h), if_neg h, p19_sign]
        simp only [Option.bind_some]
        by_cases hg : isSg p[i] = true
        · rw [if_pos hg, if_pos hg, if_neg (by decide)]
          exact put _ _ _ (by omega) (by omega)
        · rw [if_neg hg, if_neg hg, if_pos rfl]
    by_cases hm : p[i] = 45
    · rw [if_pos hm]
      unfold p19_j8
      by_cases hj : i + 1 < p.length
      · rw [if_pos (by simp; omega), hw1, idx_get hj]
        simp only [Option.bind_some]
        exact last _ (by simp [hm, List.getElem?_eq_getElem hj])
      · rw [if_neg (by simp; omega)]
        exact last _ (by simp [List.getElem?_eq_none (Nat.le_of_not_lt hj)])
    · rw [if_neg hm]
      unfold p19_j8
      rw [if_neg (by simp)]
      exact last _ (by simp [hm])
  unfold p19_l5
  simp only
  rw [if_pos (by omega), idx_get hi]
  simp only [Option.bind_some]
  unfold p19_j11 p19_j10
  by_cases e1 : p[i] = 32
  · rw [if_pos e1, if_pos rfl, if_pos rfl]
    exact core _ (by simp [isBl, e1])
  rw [if_neg e1]
  by_cases e2 : p[i] = 9
  · rw [if_pos (by simpa using e2), if_pos rfl]
    exact core _ (by simp [isBl, e2])
  rw [if_neg (by simpa using e2)]
  by_cases e3 : p[i] = 10
  · rw [if_pos (by simpa using e3)]
    exact core _ (by simp [isBl, e3])
  rw [if_neg (by simpa using e3)]
  exact core _ (by simp [isBl, e1, e2, e3])
theorem p19_eq {p : List Int} (hp : Bytes p) (hl : p.length ≤ 1000000) : ∃ r, p19 p = some r ∧ ∃ L e a, LexR p 0 [] (L, e, a) ∧
    ((e = 0 ∧ r.2.1 = 0 ∧ r.1.map tokR = L ∧ r.1.length ≤ p.length + 1) ∨ (e ≠ 0 ∧ r.2.1 = e ∧ ∃ i : Nat, i ≤ p.length ∧ a = (i : Int) ∧ r.2.2 = (i : Int))) := by
  have key : ∃ r, loopC (p19_l5 p) ((0 : Int), (0 : Int), (0 : Int), [], []) = some r ∧ ((∃ l, r = .inr l ∧ l.length ≤ p.length ∧ LexR p 0 [] (l.map tokR ++ [⟨0, [], 0, (p.length : Int)⟩], 0, 0)) ∨ ∃ (e : Int) (i : Nat), e ≠ 0 ∧ i ≤ p.length ∧ r = .inl (e, (i : Int)) ∧ LexR p 0 [] ([], e, (i : Int))) := by
    have fin : ∀ (l : List TToken), l.length ≤ p.length → (∀ r, LexR p p.length (l.map tokR) r → LexR p 0 [] r) → ∃ r, p19_l5 p (0, 0, (p.length : Int), [], l) = some (.inr r) ∧ ((∃ l, r = .inr l ∧ l.length ≤ p.length ∧ LexR p 0 [] (l.map tokR ++ [⟨0, [], 0, (p.length : Int)⟩], 0, 0)) ∨ ∃ (e : Int) (i : Nat), e ≠ 0 ∧ i ≤ p.length ∧ r = .inl (e, (i : Int)) ∧ LexR p 0 [] ([], e, (i : Int))) := by
      intro l h1 h2
      unfold p19_l5
      simp only
      rw [if_neg (by omega)]
      exact ⟨_, rfl, .inl ⟨l, rfl, h1, h2 _ (.done rfl)⟩⟩
    refine loop_cnt p.length (fun k st => ∃ (i : Nat) (l : List TToken), st = ((0 : Int), (0 : Int), (i : Int), [], l) ∧ k ≤ i ∧ i ≤ p.length ∧ l.length ≤ i ∧ ∀ r, LexR p i (l.map tokR) r → LexR p 0 [] r) _ ?_ ?_ ⟨0, [], rfl, Nat.le_refl _, Nat.zero_le _, Nat.le_refl _, fun _ h => h⟩
    · rintro k _ hk ⟨i, l, rfl, h1, h2, h3, h4⟩
      by_cases hi : i < p.length
      · rw [p19_round hp hl hi h3]
        cases hst : stepS p i with
        | inl q =>
          obtain ⟨j, t⟩ := q
          obtain ⟨g1, g2, g3⟩ := stepS_gt hi hst
          refine .inl ⟨_, rfl, j, _, rfl, by omega, g2, by simp; omega, fun r h => h4 _ (.go hi hst ?_)⟩
          rw [List.map_append, unTok_tok] at h
          exact h
        | inr e =>
          have he := stepS_err hst
          exact .inr ⟨_, rfl, .inr ⟨e, i, by omega, h2, rfl, h4 _ (.err hi hst)⟩⟩
      · obtain rfl : i = p.length := by omega
        exact .inr (fin l h3 h4)
    · rintro _ ⟨i, l, rfl, h1, h2, h3, h4⟩
      obtain rfl : i = p.length := by omega
      exact fin l h3 h4
  obtain ⟨r, h1, h2⟩ := key
  unfold p19
  rw [h1]
  simp only [Option.bind_some]
  rcases h2 with ⟨l, rfl, g1, g2⟩ | ⟨e, i, g1, g2, rfl, g3⟩
  · simp only
    rw [app_ok (by simp; omega)]
    refine ⟨_, rfl, _, 0, 0, g2, .inl ⟨rfl, rfl, ?_, ?_⟩⟩
    · simp [tokR]
    · simp; omega
  · exact ⟨_, rfl, [], e, _, g3, .inr ⟨g1, rfl, i, g2, rfl, rfl⟩⟩
end Go.Proofs.Ytloaoofdbilpeaa

/- LexTokens and LexPlaces, plainly. Own work. -/
namespace Go.Proofs.Ytloaoofdbilpeaa
open Go Go.Am
set_option linter.unusedVariables false
set_option linter.unusedSimpArgs false
/-- The document's example. -/
theorem p17_eq : p17 = some true := by
  have hp : Bytes [97, 45, 62, 98] := by intro c hc; simp at hc; omega
  obtain ⟨r, h1, L, e, a, h2, h3⟩ := p18_eq hp (by simp)
  have hL : LexR [97, 45, 62, 98] 0 [] ([⟨1, [97], 0, 0⟩, ⟨3, [45, 62], 0, 1⟩, ⟨1, [98], 0, 3⟩, ⟨0, [], 0, 4⟩], 0, 0) := by
    refine .go (j := 1) (t := [⟨1, [97], 0, 0⟩]) (by simp) rfl ?_
    refine .go (j := 3) (t := [⟨3, [45, 62], 0, 1⟩]) (by simp) rfl ?_
    refine .go (j := 4) (t := [⟨1, [98], 0, 3⟩]) (by simp) rfl ?_
    exact .done rfl
  have hd := h2.det hL
  simp only [Prod.mk.injEq] at hd
  obtain ⟨rfl, rfl, rfl⟩ := hd
  rcases h3 with ⟨_, g2, g3⟩ | ⟨g1, _⟩
  · obtain ⟨l, f⟩ := r
    simp only at g2 g3
    subst g2
    have hlen : l.length = 4 := by
      have := congrArg List.length g3
      rw [List.length_map] at this
      exact this
    match l, hlen, g3 with
    | [t1, t2, t3, t4], _, g3 =>
      simp only [List.map_cons, List.map_nil, List.cons.injEq, tokL, Tok.mk.injEq, and_true] at g3
      obtain ⟨⟨a1, a2, a3, a4⟩, ⟨b1, b2, b3, b4⟩, ⟨c1, c2, c3, c4⟩, ⟨d1, d2, d3, d4⟩⟩ := g3
      unfold p17
      rw [h1]
      simp only [Option.bind_some]
      rw [if_pos trivial]
      unfold p17_j2
      rw [if_pos (by simp), show idx [t1, t2, t3, t4] 1 = some t2 from rfl]
      simp only [Option.bind_some]
      unfold p17_j1
      rw [if_pos (by rw [b2]; decide), show idx [t1, t2, t3, t4] 3 = some t4 from rfl]
      simp only [Option.bind_some]
      unfold p17_j0
      rw [d1]; rfl
  · exact absurd rfl g1
theorem p3_true {p : List Int} (hp : Bytes p) : p3 p = some true := by
  unfold p3
  rw [p17_eq]
  simp only [Option.bind_some]
  rw [if_neg (by simp)]
  unfold p3_j2
  by_cases hl : (300 : Int) < (p.length : Int)
  · rw [if_pos (by simpa using hl), p17_eq]; rfl
  rw [if_neg (by simpa using hl)]
  obtain ⟨r, h1, L, e, a, h2, h3⟩ := p18_eq hp (by omega)
  obtain ⟨r', h1', L', e', a', h2', h3'⟩ := p19_eq hp (by omega)
  have hd := h2.det h2'
  simp only [Prod.mk.injEq] at hd
  obtain ⟨rfl, rfl, rfl⟩ := hd
  rw [h1, h1']
  simp only [Option.bind_some]
  rcases h3 with ⟨g1, g2, g3⟩ | ⟨g1, i, g2, g3, g4⟩
  · rcases h3' with ⟨_, k2, k3, k4⟩ | ⟨k1, _⟩
    · obtain ⟨l, f⟩ := r
      obtain ⟨l', e', a'⟩ := r'
      simp only at g2 g3 k2 k3 k4
      subst g2 k2
      have hlen : l.length = l'.length := by
        have h4 := congrArg List.length g3
        have h5 := congrArg List.length k3
        rw [List.length_map] at h4 h5
        omega
      rw [if_neg (by simp), if_neg (by simp)]
      unfold p3_j1
      rw [if_neg (by simp [hlen])]
      obtain ⟨r, q1, q2⟩ : ∃ r, loopC (p3_l0 (l, ⟨0, 0, 0, 0⟩) (l', 0, a')) (0 : Int) = some r ∧ r = .inr () := by
        refine loop_cnt l.length (fun k st => st = (k : Int)) _ ?_ ?_ rfl
        · rintro k _ hk rfl
          have hk' : k < l'.length := by omega
          have e1 : tokL l[k] = tokR l'[k] := by
            have e2 : (l.map tokL)[k]? = (l'.map tokR)[k]? := by rw [g3, k3]
            rw [List.getElem?_map, List.getElem?_map, List.getElem?_eq_getElem hk, List.getElem?_eq_getElem hk'] at e2
            exact Option.some.inj e2
          simp only [tokL, tokR, Tok.mk.injEq] at e1
          unfold p3_l0
          simp only
          rw [if_pos (by omega), idx_get hk, idx_get hk']
          simp only [Option.bind_some]
          rw [if_neg (by simp [e1.1, e1.2.1, e1.2.2.1, e1.2.2.2]), wrap64 (by omega) (by omega)]
          exact .inl ⟨_, rfl, rfl⟩
        · rintro _ rfl
          unfold p3_l0
          simp only
          rw [if_neg (by omega)]
          exact ⟨_, rfl, rfl⟩
      rw [q1, q2]
      rfl
    · exact absurd g1 k1
  · rcases h3' with ⟨k1, _⟩ | ⟨_, k2, j, k3, k4, k5⟩
    · exact absurd k1 g1
    · obtain ⟨l', e', a'⟩ := r'
      simp only at k2 k5
      subst g4 k2 k5
      have hij : i = j := by omega
      subst hij
      rw [if_pos (by simpa using g1), p20_eq (by omega) g2]
      simp only [Option.bind_some]
      rw [if_pos (by simp)]
      unfold p3_j0
      simp
theorem p4_true {p : List Int} (hp : Bytes p) (a e : Int) : p4 p a e = some true := by
  unfold p4
  rw [p17_eq]
  simp only [Option.bind_some]
  rw [if_neg (by simp)]
  unfold p4_j2
  by_cases hl : (200 : Int) < (p.length : Int)
  · rw [if_pos (by simpa using hl), p17_eq]; rfl
  rw [if_neg (by simpa using hl)]
  obtain ⟨i, hi, ha⟩ : ∃ i : Nat, i ≤ p.length ∧ (if (p.length : Int) < (if a < (0 : Int) then (0 : Int) else a) then (p.length : Int) else (if a < (0 : Int) then (0 : Int) else a)) = (i : Int) := by
    by_cases h1 : a < 0
    · rw [if_pos h1]
      exact ⟨0, by omega, by rw [if_neg (by omega)]; rfl⟩
    · rw [if_neg h1]
      by_cases h2 : (p.length : Int) < a
      · rw [if_pos h2]; exact ⟨p.length, Nat.le_refl _, rfl⟩
      · rw [if_neg h2]; exact ⟨a.toNat, by omega, by omega⟩
  rw [p21_eq hp (by omega) a hi ha, ha, p20_eq (by omega) hi]
  simp only [Option.bind_some]
  rw [if_pos trivial]
  unfold p4_j1
  rw [if_pos (by simp), ha, p22_eq hp (by omega) _ hi]
  simp only [Option.bind_some]
  unfold p4_j0
  simp
end Go.Proofs.Ytloaoofdbilpeaa

/- LexNumbers, plainly. Own work. -/
namespace Go.Proofs.Ytloaoofdbilpeaa
open Go Go.Am
set_option linter.unusedVariables false
set_option linter.unusedSimpArgs false
/-- What digits are worth, behind a number. -/
def val : List Int → Int → Int
  | [], n => n
  | d :: l, n => val l (10 * n + (d - 48))
def Digs (l : List Int) : Prop := ∀ d, d ∈ l → 48 ≤ d ∧ d ≤ 57
theorem val_ge : ∀ {l : List Int}, Digs l → ∀ {n : Int}, 0 ≤ n → n ≤ val l n
  | [], _, n, h => Int.le_refl _
  | d :: l, hd, n, h => by
    have h1 := hd d (by simp)
    have := val_ge (l := l) (fun x hx => hd x (by simp [hx])) (n := 10 * n + (d - 48)) (by omega)
    show n ≤ val l (10 * n + (d - 48))
    omega
theorem numv_val : ∀ {l : List Int}, Digs l → ∀ {n : Int}, 0 ≤ n → n ≤ 1125899906842624 → numv l n = if 1125899906842624 < val l n then none else some (val l n)
  | [], _, n, h, h1 => by
    unfold numv val
    rw [if_neg (by omega)]
  | d :: l, hd, n, h, h1 => by
    have h2 := hd d (by simp)
    have hl : Digs l := fun x hx => hd x (by simp [hx])
    unfold numv val
    by_cases hc : 1125899906842624 < 10 * n + (d - 48)
    · have := val_ge hl (n := 10 * n + (d - 48)) (by omega)
      rw [if_pos hc, if_pos (by omega)]
    · rw [if_neg hc, numv_val hl (by omega) (by omega)]
theorem digs_run {l : List Int} (hd : Digs l) : l.takeWhile isDg = l := by
  induction l with
  | nil => rfl
  | cons d l ih =>
    have h1 := hd d (by simp)
    have h2 : isDg d = true := by simp [isDg, h1]
    rw [List.takeWhile_cons, h2]
    simp only [if_true]
    rw [ih (fun x hx => hd x (by simp [hx]))]
theorem u8_back {l : List Int} (h : Bytes l) : (l.map u8).map (fun b => (b.toNat : Int)) = l := by
  rw [List.map_map]
  conv => rhs; rw [← List.map_id l]
  refine List.map_congr_left fun c hc => ?_
  exact u8_nat (h c hc)
theorem p5_dec {k : Int} (h0 : 0 ≤ k) (hk : k < 100000000000000000) : ∃ ds : List Int, loopC p5_l0 (([] : List UInt8), k) = some (ds.map u8) ∧ Digs ds ∧ ds ≠ [] ∧ ds.length ≤ 17 ∧ val ds 0 = k := by
  have key : ∃ r, loopC p5_l0 (([] : List UInt8), k) = some r ∧ ∃ ds : List Int, r = ds.map u8 ∧ Digs ds ∧ ds ≠ [] ∧ ds.length ≤ 17 ∧ val ds 0 = k := by
    refine loop_cnt 17 (fun i st => ∃ (ds : List Int) (x : Int), st = (ds.map u8, x) ∧ Digs ds ∧ ds.length = i ∧ 0 ≤ x ∧ x < ((10 ^ (17 - i) : Nat) : Int) ∧ val ds x = k) _ ?_ ?_ ⟨[], k, rfl, fun _ h => (by cases h), rfl, h0, by simpa using hk, rfl⟩
    · rintro i _ hi ⟨ds, x, rfl, g1, g2, g3, g4, g5⟩
      unfold p5_l0
      simp only
      by_cases hx : 0 < x ∨ ds = []
      · have hb : ∀ b : Bool, b = true → (∃ s', p5_j0 (ds.map u8) x b = some (.inl s') ∧ ∃ (ds : List Int) (x : Int), s' = (ds.map u8, x) ∧ Digs ds ∧ ds.length = i + 1 ∧ 0 ≤ x ∧ x < ((10 ^ (17 - (i + 1)) : Nat) : Int) ∧ val ds x = k) := by
          rintro b rfl
          unfold p5_j0
          have hm : Int.tmod x 10 = x % 10 := Int.tmod_eq_emod_of_nonneg g3
          have hq : Int.tdiv x 10 = x / 10 := Int.tdiv_eq_ediv_of_nonneg g3
          have hxb : x < 100000000000000000 := by
            have : (10 ^ (17 - i) : Nat) ≤ 10 ^ 17 := Nat.pow_le_pow_right (by omega) (by omega)
            omega
          rw [if_pos rfl, hm, hq, wrap64 (n := 48 + x % 10) (by omega) (by omega), IntWalk.u8_in _ (by omega), catS_ok (by simp; omega)]
          simp only [Option.bind_some]
          rw [wrap64 (by omega) (by omega)]
          refine ⟨_, rfl, (48 + x % 10) :: ds, x / 10, rfl, ?_, by simp [g2], by omega, ?_, ?_⟩
          · intro d hd
            rcases List.mem_cons.1 hd with rfl | hd
            · omega
            · exact g1 d hd
          · obtain ⟨m, hm⟩ : ∃ m, 17 - i = m + 1 := ⟨17 - i - 1, by omega⟩
            rw [hm, Nat.pow_succ] at g4
            rw [show 17 - (i + 1) = m by omega]
            omega
          · unfold val
            rw [show 10 * (x / 10) + (48 + x % 10 - 48) = x by omega]
            exact g5
        rcases hx with hx | rfl
        · rw [if_pos hx]; exact .inl (hb _ rfl)
        · by_cases hx : 0 < x
          · rw [if_pos hx]; exact .inl (hb _ rfl)
          · rw [if_neg hx]; exact .inl (hb _ (by simp))
      · have hx1 : ¬ 0 < x := fun h => hx (.inl h)
        have hx2 : ds ≠ [] := fun h => hx (.inr h)
        rw [if_neg hx1]
        unfold p5_j0
        rw [if_neg (by simpa using hx2)]
        obtain rfl : x = 0 := by omega
        exact .inr ⟨_, rfl, ds, rfl, g1, hx2, by omega, g5⟩
    · rintro _ ⟨ds, x, rfl, g1, g2, g3, g4, g5⟩
      have hx : x = 0 := by simp at g4; omega
      subst hx
      have hne : ds ≠ [] := by rintro rfl; simp at g2
      unfold p5_l0 p5_j0
      simp only
      rw [if_neg (by omega), if_neg (by simpa using hne)]
      exact ⟨_, rfl, ds, rfl, g1, hne, by omega, g5⟩
  obtain ⟨r, h1, ds, rfl, h2⟩ := key
  exact ⟨ds, h1, h2⟩
theorem p5_zeros {n : Int} (h0 : 0 ≤ n) (h1 : n ≤ 255) {ds : List Int} (hd : Digs ds) (hn : ds ≠ []) (hl : ds.length ≤ 17) {k : Int} (hv : val ds 0 = k) :
    ∃ es : List Int, loopC (p5_l1 n) (ds.map u8, (0 : Int)) = some (es.map u8) ∧ Digs es ∧ es ≠ [] ∧ es.length ≤ 30 ∧ val es 0 = k := by
  have hm : Int.tmod n 4 = n % 4 := Int.tmod_eq_emod_of_nonneg h0
  obtain ⟨N, hN, hN4⟩ : ∃ N : Nat, n % 4 = (N : Int) ∧ N < 4 := ⟨(n % 4).toNat, by omega, by omega⟩
  have key : ∃ r, loopC (p5_l1 n) (ds.map u8, (0 : Int)) = some r ∧ ∃ es : List Int, r = es.map u8 ∧ Digs es ∧ es ≠ [] ∧ es.length ≤ 30 ∧ val es 0 = k := by
    refine loop_cnt N (fun i st => ∃ es : List Int, st = (es.map u8, (i : Int)) ∧ Digs es ∧ es ≠ [] ∧ es.length ≤ 17 + i ∧ val es 0 = k) _ ?_ ?_ ⟨ds, rfl, hd, hn, hl, hv⟩
    · rintro i _ hi ⟨es, rfl, g1, g2, g3, g4⟩
      unfold p5_l1
      simp only
      rw [hm, hN, wrap64 (n := (N : Int)) (by omega) (by omega), if_pos (by omega), catS_ok (by simp; omega)]
      simp only [Option.bind_some]
      rw [wrap64 (by omega) (by omega)]
      refine .inl ⟨_, rfl, 48 :: es, rfl, ?_, by simp, by simp; omega, ?_⟩
      · intro d hd
        rcases List.mem_cons.1 hd with rfl | hd
        · omega
        · exact g1 d hd
      · exact g4
    · rintro _ ⟨es, rfl, g1, g2, g3, g4⟩
      unfold p5_l1
      simp only
      rw [hm, hN, wrap64 (n := (N : Int)) (by omega) (by omega), if_neg (by omega)]
      exact ⟨_, rfl, es, rfl, g1, g2, by omega, g4⟩
  obtain ⟨r, h1, es, rfl, h2⟩ := key
  exact ⟨es, h1, h2⟩
theorem lex_num {es : List Int} (hd : Digs es) (hn : es ≠ []) : LexR (32 :: es) 0 [] (if 1125899906842624 < val es 0 then ([], 3, ((1 : Nat) : Int)) else ([⟨2, es.map u8, val es 0, 1⟩, ⟨0, [], 0, ((32 :: es).length : Int)⟩], 0, 0)) := by
  have hlen : 1 < (32 :: es).length := by
    have := List.length_pos_iff.2 hn
    simp; omega
  refine .go (j := 1) (t := []) (by omega) rfl ?_
  have hc : ∃ d l, es = d :: l := by
    cases es with
    | nil => exact absurd rfl hn
    | cons d l => exact ⟨d, l, rfl⟩
  obtain ⟨d, l, hdl⟩ := hc
  have hd1 := hd d (by simp [hdl])
  have hget : (32 :: es)[1]'hlen = d := by simp [hdl]
  have hst := stepS_one hlen (by rw [hget]; simp [isBl]; omega) (by rw [hget]; omega)
  have hrun : run isDg (32 :: es) 1 = (32 :: es).length := by
    unfold run
    rw [show (32 :: es).drop 1 = es from rfl, digs_run hd]; simp; omega
  have hnum : num (32 :: es) 1 0 = if 1125899906842624 < val es 0 then none else some (val es 0) := by
    unfold num
    rw [show (32 :: es).drop 1 = es from rfl, digs_run hd, numv_val hd (by omega) (by omega)]
  have hone : oneS (32 :: es) 1 = if 1125899906842624 < val es 0 then .inr 3 else .inl (2, (32 :: es).length, val es 0) := by
    unfold oneS
    simp only [getD_of hlen, hget]
    rw [if_neg (by simp [isSm]; omega), if_pos (by simp [isDg]; omega), hnum]
    by_cases hv : 1125899906842624 < val es 0
    · rw [if_pos hv, if_pos hv]
    · rw [if_neg hv, if_neg hv]
      simp only
      have : run isDg (32 :: es) (1 + 1) = run isDg (32 :: es) 1 := by rw [run_step hlen, if_pos (by rw [hget]; simp [isDg]; omega)]
      rw [this, hrun]
  rw [hone] at hst
  by_cases hv : 1125899906842624 < val es 0
  · rw [if_pos hv] at hst ⊢
    exact .err hlen hst
  · rw [if_neg hv] at hst ⊢
    have ht : textOf (32 :: es) 1 (32 :: es).length = es.map u8 := by
      unfold textOf
      rw [List.take_length]; rfl
    simp only at hst
    rw [ht] at hst
    exact .go hlen hst (.done rfl)
theorem p5_true (n : Int) {m : Int} (h0 : 0 ≤ m) (h1 : m ≤ 255) : p5 n m = some true := by
  have hw0 : 0 ≤ IntKind.wrap .u64 n := by
    unfold IntKind.wrap
    simp only [IntKind.signed, Bool.false_and, Bool.false_eq_true, if_false]
    exact Int.emod_nonneg _ (by decide)
  have hm : Int.tmod (IntKind.wrap .u64 n) 1125899906842627 = IntKind.wrap .u64 n % 1125899906842627 := Int.tmod_eq_emod_of_nonneg hw0
  generalize hkk : IntKind.wrap .u64 n % 1125899906842627 = k at hm
  have hk0 : 0 ≤ k := by omega
  have hk1 : k < 1125899906842627 := by omega
  unfold p5
  rw [hm, wrap64 (n := k) (by omega) (by omega)]
  obtain ⟨ds, e1, d1, d2, d3, d4⟩ := p5_dec hk0 (by omega)
  rw [e1]
  simp only [Option.bind_some]
  obtain ⟨es, e2, f1, f2, f3, f4⟩ := p5_zeros h0 h1 d1 d2 d3 d4
  rw [e2]
  simp only [Option.bind_some]
  rw [catS_ok (by simp; omega)]
  simp only [Option.bind_some]
  have hby : Bytes (32 :: es) := by
    intro c hc
    rcases List.mem_cons.1 hc with rfl | hc
    · omega
    · have := f1 c hc; omega
  have hbi : bytesI ([32] ++ es.map u8) = some (32 :: es) := by
    unfold bytesI
    rw [if_pos (by unfold roomCells; simp; omega)]
    congr 1
    exact u8_back hby
  rw [hbi]
  simp only [Option.bind_some]
  obtain ⟨r, h2, L, e, a, h3, h4⟩ := p18_eq hby (by simp; omega)
  have hdet := h3.det (lex_num f1 f2)
  rw [f4] at hdet
  rw [h2]
  simp only [Option.bind_some, p17_eq]
  by_cases hv : 1125899906842624 < k
  · rw [if_pos hv] at hdet
    simp only [Prod.mk.injEq] at hdet
    obtain ⟨rfl, rfl, rfl⟩ := hdet
    rcases h4 with ⟨g1, _⟩ | ⟨g1, i, g2, g3, g4⟩
    · cases g1
    · obtain rfl : i = 1 := by omega
      subst g4
      rw [if_pos hv, if_pos trivial]
      unfold p5_j3 p5_j2 p5_j1
      simp
  · rw [if_neg hv] at hdet
    simp only [Prod.mk.injEq] at hdet
    obtain ⟨rfl, rfl, rfl⟩ := hdet
    rcases h4 with ⟨g1, g2, g3⟩ | ⟨g1, _⟩
    · obtain ⟨l, f⟩ := r
      simp only at g2 g3
      subst g2
      have hlen : l.length = 2 := by
        have := congrArg List.length g3
        rw [List.length_map] at this
        exact this
      match l, hlen, g3 with
      | [t1, t2], _, g3 =>
        simp only [List.map_cons, List.map_nil, List.cons.injEq, tokL, Tok.mk.injEq, and_true] at g3
        obtain ⟨⟨a1, a2, a3, a4⟩, ⟨b1, b2, b3, b4⟩⟩ := g3
        rw [if_neg hv, if_pos trivial]
        unfold p5_j6
        rw [if_pos (by simp)]
        unfold p5_j5
        rw [if_pos (by simp), show idx [t1, t2] 0 = some t1 from rfl]
        simp only [Option.bind_some]
        unfold p5_j4
        rw [hm, wrap64 (n := k) (by omega) (by omega)]
        simp [a1, a2, a3, a4]
    · exact absurd rfl g1
end Go.Proofs.Ytloaoofdbilpeaa

/- LexBlanks, plainly. Own work. -/
namespace Go.Proofs.Ytloaoofdbilpeaa
open Go Go.Am
set_option linter.unusedVariables false
set_option linter.unusedSimpArgs false
/-- The law's words, as bytes; what they are. -/
def wds : List (List Int × Int × Int) := [([112, 108, 97, 99, 101], 1, 0), ([112, 46, 49], 1, 0), ([49, 55], 2, 17), ([59], 3, 0), ([58], 3, 0), ([44], 3, 0), ([42], 3, 0), ([33], 3, 0), ([126], 3, 0), ([64], 3, 0), ([61], 3, 0), ([45, 62], 3, 0)]
/-- The law's dresses. -/
def drs : List (List Int) := [[32], [10], [35, 32, 97, 32, 45, 62, 32, 98, 10], [9, 32, 13, 10], [35, 10, 35, 10]]
/-- One token by what is left. -/
def oneQ (q : List Int) : (Int × Nat × Int) ⊕ Int :=
  let c := q.getD 0 0
  if isSm c = true then .inl (1, 1 + ((q.drop 1).takeWhile isWd).length, 0)
  else if isDg c = true then match numv (q.takeWhile isDg) 0 with
    | some n => .inl (2, 1 + ((q.drop 1).takeWhile isDg).length, n)
    | none => .inr 3
  else if c = 45 ∧ q[1]? = some 62 then .inl (3, 2, 0)
  else if isSg c = true then .inl (3, 1, 0)
  else .inr 6
theorem oneS_drop {p q : List Int} {i : Nat} (h : p.drop i = q) : oneS p i = match oneQ q with
    | .inl (k, m, n) => .inl (k, i + m, n)
    | .inr e => .inr e := by
  have h0 : p.getD i 0 = q.getD 0 0 := by
    rw [← h, List.getD_eq_getElem?_getD, List.getD_eq_getElem?_getD, List.getElem?_drop]; rfl
  have h1 : p[i + 1]? = q[1]? := by rw [← h, List.getElem?_drop]
  have h2 : p.drop (i + 1) = q.drop 1 := by rw [← h, List.drop_drop]
  unfold oneS oneQ num run
  simp only [h0, h1, h2, h]
  split
  · simp only [Nat.add_assoc]
  · split
    · cases numv (q.takeWhile isDg) 0 with
      | none => rfl
      | some n => simp only [Nat.add_assoc]
    · split
      · rfl
      · split <;> rfl
theorem one_w {w : List Int × Int × Int} (hw : w ∈ wds) {c : Int} (hc : c = 32 ∨ c = 10 ∨ c = 35 ∨ c = 9) (rest : List Int) : oneQ (w.1 ++ c :: rest) = .inl (w.2.1, w.1.length, w.2.2) := by
  simp only [wds, List.mem_cons, List.not_mem_nil, or_false] at hw
  rcases hc with rfl | rfl | rfl | rfl <;> rcases hw with rfl | rfl | rfl | rfl | rfl | rfl | rfl | rfl | rfl | rfl | rfl | rfl <;> rfl
theorem head_w {w : List Int × Int × Int} (hw : w ∈ wds) (rest : List Int) : ∃ c, (w.1 ++ rest)[0]? = some c ∧ isBl c = false ∧ c ≠ 35 := by
  simp only [wds, List.mem_cons, List.not_mem_nil, or_false] at hw
  rcases hw with rfl | rfl | rfl | rfl | rfl | rfl | rfl | rfl | rfl | rfl | rfl | rfl <;> exact ⟨_, rfl, by decide, by decide⟩
theorem blank_step {p : List Int} {i : Nat} {c : Int} (hc : p[i]? = some c) (hb : isBl c = true) {l : List Tok} {r : List Tok × Int × Int} (h : LexR p (i + 1) l r) : LexR p i l r := by
  have hi := (List.getElem?_eq_some_iff.1 hc).1
  refine .go hi (t := []) (j := i + 1) ?_ (by simpa using h)
  unfold stepS
  simp only [getD_of hi]
  have : p[i] = c := by rw [List.getElem?_eq_getElem hi] at hc; exact Option.some.inj hc
  rw [this, if_pos hb]
theorem comment_step {p body rest : List Int} {i : Nat} (hd : p.drop i = 35 :: (body ++ 10 :: rest)) (hb : ∀ c, c ∈ body → c ≠ 10) {l : List Tok} {r : List Tok × Int × Int} (h : LexR p (i + 1 + body.length) l r) : LexR p i l r := by
  have hi : i < p.length := by
    have := congrArg List.length hd
    simp at this; omega
  have hg : p[i] = 35 := by
    have : (p.drop i)[0]? = some 35 := by rw [hd]; rfl
    rw [List.getElem?_drop, Nat.add_zero, List.getElem?_eq_getElem hi] at this
    exact Option.some.inj this
  have hr : run nnl p i = i + 1 + body.length := by
    unfold run
    rw [hd]
    have : (35 :: (body ++ 10 :: rest)).takeWhile nnl = 35 :: body := by
      rw [List.takeWhile_cons, if_pos (by decide)]
      congr 1
      clear hd h
      induction body with
      | nil => rfl
      | cons c b ih =>
        have h1 : nnl c = true := by
          have := hb c (by simp)
          simp [nnl, this]
        rw [List.cons_append, List.takeWhile_cons, h1]
        simp only [if_true]
        rw [ih (fun x hx => hb x (by simp [hx]))]
    rw [this]; simp; omega
  refine .go hi (t := []) (j := i + 1 + body.length) ?_ (by simpa using h)
  unfold stepS
  simp only [getD_of hi]
  rw [hg, if_neg (by decide), if_pos rfl, hr]
theorem dress_step {p d rest : List Int} (hd : d ∈ drs) {i : Nat} (hp : p.drop i = d ++ rest) {l : List Tok} {r : List Tok × Int × Int} (h : LexR p (i + d.length) l r) : LexR p i l r := by
  have at_ : ∀ k, p[i + k]? = (d ++ rest)[k]? := fun k => by rw [← hp, List.getElem?_drop]
  simp only [drs, List.mem_cons, List.not_mem_nil, or_false] at hd
  rcases hd with rfl | rfl | rfl | rfl | rfl
  · exact blank_step (at_ 0) (by decide) h
  · exact blank_step (at_ 0) (by decide) h
  · refine comment_step (body := [32, 97, 32, 45, 62, 32, 98]) (rest := rest) hp (by decide) ?_
    exact blank_step (at_ 8) (by decide) h
  · refine blank_step (at_ 0) (by decide) ?_
    refine blank_step (at_ 1) (by decide) ?_
    refine blank_step (at_ 2) (by decide) ?_
    exact blank_step (at_ 3) (by decide) h
  · refine comment_step (body := []) (rest := [35, 10] ++ rest) hp (by simp) ?_
    refine blank_step (at_ 1) (by decide) ?_
    refine comment_step (body := []) (rest := rest) (by
      have := congrArg (List.drop 2) hp
      rw [List.drop_drop] at this
      exact this) (by simp) ?_
    exact blank_step (at_ 3) (by decide) h
abbrev Seg := (List Int × Int × Int) × List Int
def txt : List Seg → List Int
  | [] => []
  | s :: l => s.1.1 ++ (s.2 ++ txt l)
theorem seg_lex : ∀ (ss : List Seg), (∀ s, s ∈ ss → s.1 ∈ wds ∧ s.2 ∈ drs) → ∀ (pre : List Int) (l : List Tok), ∃ ts : List Tok, LexR (pre ++ txt ss) pre.length l (l ++ ts ++ [⟨0, [], 0, ((pre ++ txt ss).length : Int)⟩], 0, 0) ∧
    ts.map (fun t => (t.k, t.s, t.n)) = ss.map (fun s => (s.1.2.1, s.1.1.map u8, s.1.2.2))
  | [], _, pre, l => ⟨[], by
      rw [show txt ([] : List Seg) = [] from rfl, List.append_nil, List.append_nil]
      exact .done rfl, rfl⟩
  | s :: ss, hs, pre, l => by
    obtain ⟨hw, hdr⟩ := hs s (by simp)
    obtain ⟨c, d', hc, hd⟩ : ∃ c d', (c = 32 ∨ c = 10 ∨ c = 35 ∨ c = 9) ∧ s.2 = c :: d' := by
      have := hdr
      simp only [drs, List.mem_cons, List.not_mem_nil, or_false] at this
      rcases this with h | h | h | h | h <;> (rw [h]; exact ⟨_, _, by decide, rfl⟩)
    have hdrop : (pre ++ txt (s :: ss)).drop pre.length = s.1.1 ++ (s.2 ++ txt ss) := by rw [List.drop_left]; rfl
    obtain ⟨c0, h0, h1, h2⟩ := head_w hw (s.2 ++ txt ss)
    have hi : pre.length < (pre ++ txt (s :: ss)).length := by
      have h3 : (pre ++ txt (s :: ss))[pre.length]? = some c0 := by
        rw [← h0, ← hdrop, List.getElem?_drop]; rfl
      exact (List.getElem?_eq_some_iff.1 h3).1
    have hg : (pre ++ txt (s :: ss))[pre.length] = c0 := by
      apply Option.some.inj
      rw [← List.getElem?_eq_getElem, ← h0, ← hdrop, List.getElem?_drop]; rfl
    have ho := oneS_drop hdrop
    rw [hd, List.cons_append, one_w hw hc] at ho
    have hst := stepS_one hi (by rw [hg]; exact h1) (by rw [hg]; exact h2)
    rw [ho] at hst
    simp only at hst
    have ht : textOf (pre ++ txt (s :: ss)) pre.length (pre.length + s.1.1.length) = s.1.1.map u8 := by
      unfold textOf
      rw [show txt (s :: ss) = s.1.1 ++ (s.2 ++ txt ss) from rfl, ← List.append_assoc, ← List.length_append, List.take_left, List.drop_left]
    rw [ht] at hst
    obtain ⟨ts, h5, h6⟩ := seg_lex ss (fun x hx => hs x (by simp [hx])) (pre ++ s.1.1 ++ s.2) (l ++ [⟨s.1.2.1, s.1.1.map u8, s.1.2.2, (pre.length : Int)⟩])
    have he : pre ++ s.1.1 ++ s.2 ++ txt ss = pre ++ txt (s :: ss) := by rw [List.append_assoc, List.append_assoc]; rfl
    rw [he] at h5
    refine ⟨⟨s.1.2.1, s.1.1.map u8, s.1.2.2, (pre.length : Int)⟩ :: ts, .go hi hst (dress_step hdr (rest := txt ss) ?_ ?_), ?_⟩
    · rw [← List.drop_drop, hdrop, List.drop_left]
    · have e1 : (pre ++ s.1.1 ++ s.2).length = pre.length + s.1.1.length + s.2.length := by simp [Nat.add_assoc]
      rw [e1] at h5
      have e2 : l ++ ⟨s.1.2.1, s.1.1.map u8, s.1.2.2, (pre.length : Int)⟩ :: ts = l ++ [⟨s.1.2.1, s.1.1.map u8, s.1.2.2, (pre.length : Int)⟩] ++ ts := by simp
      rw [e2]
      exact h5
    · rw [List.map_cons, List.map_cons, h6]
end Go.Proofs.Ytloaoofdbilpeaa

/- LexBlanks, plainly: the law. Own work. -/
namespace Go.Proofs.Ytloaoofdbilpeaa
open Go Go.Am
set_option linter.unusedVariables false
set_option linter.unusedSimpArgs false
def wl : List (List UInt8) := [([112, 108, 97, 99, 101] : List UInt8), ([112, 46, 49] : List UInt8), ([49, 55] : List UInt8), ([59] : List UInt8), ([58] : List UInt8), ([44] : List UInt8), ([42] : List UInt8), ([33] : List UInt8), ([126] : List UInt8), ([64] : List UInt8), ([61] : List UInt8), ([45, 62] : List UInt8)]
def dl : List (List UInt8) := [([32] : List UInt8), ([10] : List UInt8), ([35, 32, 97, 32, 45, 62, 32, 98, 10] : List UInt8), ([9, 32, 13, 10] : List UInt8), ([35, 10, 35, 10] : List UInt8)]
/-- The word of a number. -/
def wOf (c : Int) : List Int × Int × Int := wds.getD (c % 12).toNat ([], 0, 0)
def dOf (c : Int) : List Int := drs.getD (c % 5).toNat []
theorem wOf_mem (c : Int) : wOf c ∈ wds := by
  have h : (c % 12).toNat < wds.length := by show _ < 12; omega
  unfold wOf
  rw [List.getD_eq_getElem?_getD, List.getElem?_eq_getElem h]
  exact List.getElem_mem h
theorem dOf_mem (c : Int) : dOf c ∈ drs := by
  have h : (c % 5).toNat < drs.length := by show _ < 5; omega
  unfold dOf
  rw [List.getD_eq_getElem?_getD, List.getElem?_eq_getElem h]
  exact List.getElem_mem h
theorem wOf_idx {c : Int} (h0 : 0 ≤ c) : idx wl (c % 12) = some ((wOf c).1.map u8) := by
  obtain ⟨k, hk, h⟩ : ∃ k : Nat, k < 12 ∧ c % 12 = (k : Int) := ⟨(c % 12).toNat, by omega, by omega⟩
  unfold wOf
  rw [h]
  rcases k with _ | _ | _ | _ | _ | _ | _ | _ | _ | _ | _ | _ | k
  · rfl
  · rfl
  · rfl
  · rfl
  · rfl
  · rfl
  · rfl
  · rfl
  · rfl
  · rfl
  · rfl
  · rfl
  · omega
theorem dOf_idx {c : Int} (h0 : 0 ≤ c) : idx dl (c % 5) = some ((dOf c).map u8) := by
  obtain ⟨k, hk, h⟩ : ∃ k : Nat, k < 5 ∧ c % 5 = (k : Int) := ⟨(c % 5).toNat, by omega, by omega⟩
  unfold dOf
  rw [h]
  rcases k with _ | _ | _ | _ | _ | k
  · rfl
  · rfl
  · rfl
  · rfl
  · rfl
  · omega
theorem w_len {w : List Int × Int × Int} (hw : w ∈ wds) : w.1.length ≤ 5 ∧ Bytes w.1 := by
  simp only [wds, List.mem_cons, List.not_mem_nil, or_false] at hw
  rcases hw with rfl | rfl | rfl | rfl | rfl | rfl | rfl | rfl | rfl | rfl | rfl | rfl <;> exact ⟨by decide, by intro c hc; simp at hc; omega⟩
theorem d_len {d : List Int} (hd : d ∈ drs) : d.length ≤ 9 ∧ Bytes d := by
  simp only [drs, List.mem_cons, List.not_mem_nil, or_false] at hd
  rcases hd with rfl | rfl | rfl | rfl | rfl <;> exact ⟨by decide, by intro c hc; simp at hc; omega⟩
/-- The pieces of the law's two texts. -/
def segA (x : List Int) : List Seg := x.map fun c => (wOf c, [32])
def segB : List Int → List Int → List Seg
  | [], _ => []
  | c :: x, [] => (wOf c, [32]) :: segB x []
  | c :: x, d :: y => (wOf c, dOf d) :: segB x y
theorem segA_ok (x : List Int) : ∀ s, s ∈ segA x → s.1 ∈ wds ∧ s.2 ∈ drs := by
  intro s hs
  obtain ⟨c, _, rfl⟩ := List.mem_map.1 hs
  exact ⟨wOf_mem c, by simp [drs]⟩
theorem segB_ok : ∀ (x y : List Int), ∀ s, s ∈ segB x y → s.1 ∈ wds ∧ s.2 ∈ drs
  | [], _, s, hs => by cases hs
  | c :: x, [], s, hs => by
    rcases List.mem_cons.1 hs with rfl | hs
    · exact ⟨wOf_mem c, by simp [drs]⟩
    · exact segB_ok x [] s hs
  | c :: x, d :: y, s, hs => by
    rcases List.mem_cons.1 hs with rfl | hs
    · exact ⟨wOf_mem c, dOf_mem d⟩
    · exact segB_ok x y s hs
theorem segB_snd : ∀ (x y : List Int), (segB x y).map (fun s => s.1) = x.map wOf
  | [], _ => rfl
  | c :: x, [] => by simp [segB, segB_snd x []]
  | c :: x, d :: y => by simp [segB, segB_snd x y]
theorem segB_len (x y : List Int) : (segB x y).length = x.length := by
  have := congrArg List.length (segB_snd x y)
  simpa using this
theorem segB_get {x y : List Int} : ∀ {k : Nat} (hk : k < x.length), (segB x y)[k]? = some (wOf x[k], match y[k]? with | some d => dOf d | none => [32]) := by
  induction x generalizing y with
  | nil => intro k hk; cases hk
  | cons c x ih =>
    intro k hk
    cases y with
    | nil =>
      cases k with
      | zero => rfl
      | succ k =>
        have := ih (y := []) (k := k) (by simpa using hk)
        simp only [segB, List.getElem?_cons_succ, List.getElem_cons_succ]
        rw [this]
        simp
    | cons d y =>
      cases k with
      | zero => rfl
      | succ k =>
        have := ih (y := y) (k := k) (by simpa using hk)
        simp only [segB, List.getElem?_cons_succ, List.getElem_cons_succ]
        rw [this]
theorem txt_app : ∀ (a b : List Seg), txt (a ++ b) = txt a ++ txt b
  | [], b => rfl
  | s :: a, b => by simp [txt, txt_app a b]
theorem txt_ok : ∀ (ss : List Seg), (∀ s, s ∈ ss → s.1 ∈ wds ∧ s.2 ∈ drs) → Bytes (txt ss) ∧ (txt ss).length ≤ 14 * ss.length
  | [], _ => ⟨fun c hc => (by cases hc), Nat.le_refl _⟩
  | s :: ss, hs => by
    obtain ⟨h1, h2⟩ := hs s (by simp)
    obtain ⟨i1, i2⟩ := txt_ok ss (fun x hx => hs x (by simp [hx]))
    obtain ⟨w1, w2⟩ := w_len h1
    obtain ⟨d1, d2⟩ := d_len h2
    refine ⟨fun c hc => ?_, ?_⟩
    · rcases List.mem_append.1 hc with hc | hc
      · exact w2 c hc
      · rcases List.mem_append.1 hc with hc | hc
        · exact d2 c hc
        · exact i1 c hc
    · show (s.1.1 ++ (s.2 ++ txt ss)).length ≤ 14 * (ss.length + 1)
      rw [List.length_append, List.length_append]; omega
theorem p6_texts {x y : List Int} (hx : Bytes x) (hy : Bytes y) (hl : x.length ≤ 30) (hl2 : y.length ≤ 60) :
    loopC (p6_l0 x y) (([] : List UInt8), ([] : List UInt8), (0 : Int), wl) = some ((txt (segA x)).map u8, (txt (segB x y)).map u8, wl) := by
  obtain ⟨r, h1, h2⟩ : ∃ r, loopC (p6_l0 x y) (([] : List UInt8), ([] : List UInt8), (0 : Int), wl) = some r ∧ r = ((txt (segA x)).map u8, (txt (segB x y)).map u8, wl) := by
    refine loop_cnt x.length (fun k (st : List UInt8 × List UInt8 × Int × List (List UInt8)) => st = ((txt ((segA x).take k)).map u8, (txt ((segB x y).take k)).map u8, (k : Int), wl)) _ ?_ ?_ rfl
    · rintro k _ hk rfl
      have hb := hx.get hk
      have hA : k < (segA x).length := by simpa [segA] using hk
      have hB : k < (segB x y).length := by rw [segB_len]; exact hk
      have hBg : (segB x y)[k] = (wOf x[k], match y[k]? with | some d => dOf d | none => [32]) := by
        apply Option.some.inj
        rw [← List.getElem?_eq_getElem, segB_get hk]
      have hAg : (segA x)[k] = (wOf x[k], [32]) := by simp [segA]
      have tA := txt_ok ((segA x).take k) (fun s hs => segA_ok x s (List.mem_of_mem_take hs))
      have tB := txt_ok ((segB x y).take k) (fun s hs => segB_ok x y s (List.mem_of_mem_take hs))
      have lA : ((segA x).take k).length ≤ 30 := by rw [List.length_take]; omega
      have lB : ((segB x y).take k).length ≤ 30 := by rw [List.length_take]; omega
      obtain ⟨wl1, _⟩ := w_len (wOf_mem x[k])
      have eA : txt ((segA x).take (k + 1)) = txt ((segA x).take k) ++ ((wOf x[k]).1 ++ [32]) := by
        rw [List.take_succ_eq_append_getElem hA, txt_app, hAg]
        simp [txt]
      have eB : txt ((segB x y).take (k + 1)) = txt ((segB x y).take k) ++ ((wOf x[k]).1 ++ (match y[k]? with | some d => dOf d | none => [32])) := by
        rw [List.take_succ_eq_append_getElem hB, txt_app, hBg]
        simp [txt]
      have hm12 : Int.tmod x[k] 12 = x[k] % 12 := Int.tmod_eq_emod_of_nonneg hb.1
      refine .inl ⟨_, ?_, rfl⟩
      unfold p6_l0
      simp only
      rw [if_pos (by omega), idx_get hk]
      simp only [Option.bind_some]
      rw [wrap64 (n := x[k]) (by omega) (by omega), show (wl.length : Int) = 12 from rfl, remI_ok (by omega), hm12]
      simp only [Option.bind_some]
      rw [wOf_idx hb.1]
      simp only [Option.bind_some]
      rw [catS_ok (by simp; omega)]
      simp only [Option.bind_some]
      rw [catS_ok (by simp; omega)]
      simp only [Option.bind_some]
      rw [catS_ok (by simp; omega)]
      simp only [Option.bind_some]
      have fin : ∀ d : List Int, d ∈ drs → d = (match y[k]? with | some d => dOf d | none => [32]) → p6_j0 (k : Int) wl ((txt ((segA x).take k)).map u8 ++ ((wOf x[k]).1.map u8 ++ [32])) ((txt ((segB x y).take k)).map u8 ++ (wOf x[k]).1.map u8) (d.map u8) = some (.inl ((txt ((segA x).take (k + 1))).map u8, (txt ((segB x y).take (k + 1))).map u8, ((k + 1 : Nat) : Int), wl)) := by
        intro d hd he
        obtain ⟨d1, _⟩ := d_len hd
        unfold p6_j0
        rw [catS_ok (by simp; omega)]
        simp only [Option.bind_some]
        rw [eA, eB, ← he, wrap64 (by omega) (by omega)]
        simp only [List.map_append, List.append_assoc]
        rfl
      by_cases hy' : k < y.length
      · have hyb := hy.get hy'
        have hm5 : Int.tmod y[k] 5 = y[k] % 5 := Int.tmod_eq_emod_of_nonneg hyb.1
        rw [if_pos (by omega), idx_get hy']
        simp only [Option.bind_some]
        rw [hm5]
        have := dOf_idx hyb.1
        unfold dl at this
        rw [this]
        simp only [Option.bind_some]
        exact fin _ (dOf_mem _) (by rw [List.getElem?_eq_getElem hy'])
      · rw [if_neg (by omega)]
        exact fin [32] (by simp [drs]) (by rw [List.getElem?_eq_none (by omega)])
    · rintro _ rfl
      unfold p6_l0
      simp only
      rw [if_neg (by omega), List.take_of_length_le (by simp [segA]), List.take_of_length_le (by rw [segB_len]; exact Nat.le_refl _)]
      exact ⟨_, rfl, rfl⟩
  rw [h1, h2]
/-- The tokens of a text of pieces. -/
theorem p18_txt {ss : List Seg} (hs : ∀ s, s ∈ ss → s.1 ∈ wds ∧ s.2 ∈ drs) (hl : ss.length ≤ 100) : ∃ l, p18 (txt ss) = some (l, ⟨0, 0, 0, 0⟩) ∧ l.map (fun t => (t.Kind, t.Text, t.N)) = ss.map (fun s => (s.1.2.1, s.1.1.map u8, s.1.2.2)) ++ [(0, [], 0)] := by
  obtain ⟨t1, t2⟩ := txt_ok ss hs
  obtain ⟨r, h1, L, e, a, h2, h3⟩ := p18_eq t1 (by omega)
  obtain ⟨ts, h4, h5⟩ := seg_lex ss hs [] []
  rw [List.nil_append] at h4
  have hd := h2.det h4
  simp only [Prod.mk.injEq] at hd
  obtain ⟨rfl, rfl, rfl⟩ := hd
  rcases h3 with ⟨_, g2, g3⟩ | ⟨g1, _⟩
  · obtain ⟨l, f⟩ := r
    simp only at g2 g3
    subst g2
    refine ⟨l, h1, ?_⟩
    have : l.map (fun t => (t.Kind, t.Text, t.N)) = (l.map tokL).map (fun t => (t.k, t.s, t.n)) := by
      rw [List.map_map]; rfl
    rw [this, g3, List.map_append, List.nil_append, h5]
    rfl
  · exact absurd rfl g1
theorem p6_true {x y : List Int} (hx : Bytes x) (hy : Bytes y) : p6 x y = some true := by
  unfold p6
  rw [p17_eq]
  simp only [Option.bind_some]
  rw [if_neg (by simp)]
  unfold p6_j9
  by_cases hl0 : (30 : Int) < (x.length : Int)
  · rw [if_pos (by simpa using hl0)]
    unfold p6_j8
    rw [if_pos rfl, p17_eq]; rfl
  rw [if_neg (by simpa using hl0)]
  unfold p6_j8
  by_cases hl1 : (60 : Int) < (y.length : Int)
  · rw [if_pos (by simpa using hl1), p17_eq]; rfl
  rw [if_neg (by simpa using hl1)]
  have ht := p6_texts hx hy (by omega) (by omega)
  unfold wl at ht
  rw [ht]
  simp only [Option.bind_some]
  have lA : (segA x).length = x.length := by simp [segA]
  have lB := segB_len x y
  obtain ⟨bA, tA⟩ := txt_ok (segA x) (segA_ok x)
  obtain ⟨bB, tB⟩ := txt_ok (segB x y) (segB_ok x y)
  have bi : ∀ q : List Int, Bytes q → q.length ≤ 1000 → bytesI (q.map u8) = some q := by
    intro q hq hql
    unfold bytesI
    rw [if_pos (by unfold roomCells; simp; omega), u8_back hq]
  rw [bi _ bA (by omega)]
  simp only [Option.bind_some]
  obtain ⟨u, hu1, hu2⟩ := p18_txt (segA_ok x) (by omega)
  rw [hu1]
  simp only [Option.bind_some]
  rw [bi _ bB (by omega)]
  simp only [Option.bind_some]
  obtain ⟨v, hv1, hv2⟩ := p18_txt (segB_ok x y) (by omega)
  rw [hv1]
  simp only [Option.bind_some]
  have hwA : (segA x).map (fun s => (s.1.2.1, s.1.1.map u8, s.1.2.2)) = x.map (fun c => ((wOf c).2.1, (wOf c).1.map u8, (wOf c).2.2)) := by
    unfold segA; rw [List.map_map]; rfl
  have hwB : (segB x y).map (fun s => (s.1.2.1, s.1.1.map u8, s.1.2.2)) = x.map (fun c => ((wOf c).2.1, (wOf c).1.map u8, (wOf c).2.2)) := by
    have := congrArg (List.map (fun w : List Int × Int × Int => (w.2.1, w.1.map u8, w.2.2))) (segB_snd x y)
    rw [List.map_map, List.map_map] at this
    exact this
  rw [hwA] at hu2
  rw [hwB] at hv2
  have hul : u.length = x.length + 1 := by
    have := congrArg List.length hu2
    simpa using this
  have hvl : v.length = x.length + 1 := by
    have := congrArg List.length hv2
    simpa using this
  rw [if_neg (by simp)]
  unfold p6_j7
  rw [if_neg (by simp)]
  unfold p6_j6
  rw [if_neg (by simp [hul, hvl])]
  unfold p6_j5
  rw [if_neg (by rw [wrap64 (by omega) (by omega)]; simp [hul])]
  obtain ⟨r, q1, q2⟩ : ∃ r, loopC (p6_l1 x [([112, 108, 97, 99, 101] : List UInt8), ([112, 46, 49] : List UInt8), ([49, 55] : List UInt8), ([59] : List UInt8), ([58] : List UInt8), ([44] : List UInt8), ([42] : List UInt8), ([33] : List UInt8), ([126] : List UInt8), ([64] : List UInt8), ([61] : List UInt8), ([45, 62] : List UInt8)] (u, ⟨0, 0, 0, 0⟩) (v, ⟨0, 0, 0, 0⟩)) (0 : Int) = some r ∧ r = .inr () := by
    refine loop_cnt u.length (fun k (st : Int) => st = (k : Int)) _ ?_ ?_ rfl
    · rintro k _ hk rfl
      have hkv : k < v.length := by omega
      have eu : (u[k].Kind, u[k].Text, u[k].N) = (v[k].Kind, v[k].Text, v[k].N) := by
        have h1 : (u.map (fun t => (t.Kind, t.Text, t.N)))[k]? = (v.map (fun t => (t.Kind, t.Text, t.N)))[k]? := by rw [hu2, hv2]
        rw [List.getElem?_map, List.getElem?_map, List.getElem?_eq_getElem hk, List.getElem?_eq_getElem hkv] at h1
        exact Option.some.inj h1
      simp only [Prod.mk.injEq] at eu
      obtain ⟨e1, e2, e3⟩ := eu
      left
      refine ⟨_, ?_, rfl⟩
      unfold p6_l1
      simp only
      rw [if_pos (by omega), idx_get hk, idx_get hkv]
      simp only [Option.bind_some]
      rw [if_neg (by simp [e1])]
      unfold p6_j4
      rw [if_neg (by simp [e2]), idx_get hk, idx_get hkv]
      simp only [Option.bind_some]
      unfold p6_j3
      rw [if_neg (by simp [e3])]
      have last : p6_j2 (k : Int) false = some (.inl ((k + 1 : Nat) : Int)) := by
        unfold p6_j2 p6_j1
        rw [if_neg (by simp), wrap64 (by omega) (by omega)]; rfl
      by_cases hkx : k < x.length
      · have hb := hx.get hkx
        have hm12 : Int.tmod x[k] 12 = x[k] % 12 := Int.tmod_eq_emod_of_nonneg hb.1
        have ew : u[k].Text = (wOf x[k]).1.map u8 := by
          have h1 : (u.map (fun t => (t.Kind, t.Text, t.N)))[k]? = some ((wOf x[k]).2.1, (wOf x[k]).1.map u8, (wOf x[k]).2.2) := by
            rw [hu2, List.getElem?_append_left (by simpa using hkx), List.getElem?_map, List.getElem?_eq_getElem hkx]; rfl
          rw [List.getElem?_map, List.getElem?_eq_getElem hk] at h1
          have h2 := Option.some.inj h1
          simp only [Prod.mk.injEq] at h2
          exact h2.2.1
        rw [if_pos (by omega), idx_get hk, idx_get hkx]
        simp only [Option.bind_some]
        rw [wrap64 (n := x[k]) (by omega) (by omega)]
        have hwi := wOf_idx hb.1
        unfold wl at hwi
        rw [show (([([112, 108, 97, 99, 101] : List UInt8), ([112, 46, 49] : List UInt8), ([49, 55] : List UInt8), ([59] : List UInt8), ([58] : List UInt8), ([44] : List UInt8), ([42] : List UInt8), ([33] : List UInt8), ([126] : List UInt8), ([64] : List UInt8), ([61] : List UInt8), ([45, 62] : List UInt8)] : List (List UInt8)).length : Int) = 12 from rfl, remI_ok (by omega), hm12]
        simp only [Option.bind_some]
        rw [hwi]
        simp only [Option.bind_some]
        rw [ew]
        simp only [beq_self_eq_true, Bool.not_true]
        exact last
      · rw [if_neg (by omega)]
        exact last
    · rintro _ rfl
      unfold p6_l1
      simp only
      rw [if_neg (by omega)]
      exact ⟨_, rfl, rfl⟩
  rw [q1, q2]
  rfl
end Go.Proofs.Ytloaoofdbilpeaa

/- The law LexBlanks of the machine: whatever it is called with, it answers true. Own work. -/
namespace Go.Proofs.Ytloaoofdbilpeaa
open Go Go.Am
set_option linter.unusedVariables false
set_option linter.unusedSimpArgs false
theorem wf8 {n : Int} (h : (Lit.int .u8 n).wf = true) : 0 ≤ n ∧ n ≤ 255 := by
  simp only [Lit.wf, Bool.and_eq_true, decide_eq_true_eq] at h
  exact h
theorem law_lexBlanks : ∀ h xs, TyAs [(.sl (.int .u8)), (.sl (.int .u8))] h xs → ACalls F 6 xs h fun v _ => v = .bool true := by
  intro h xs ht
  obtain ⟨a, b, rfl, h1, c, d, rfl, h2, h4⟩ := ht
  simp only [TyAs] at h4
  subst h4
  obtain ⟨s0, l0, e0, k1, k2, _⟩ := sl_open (r := rI .u8) (ok := fun n => 0 ≤ n ∧ n ≤ 255) (cs := [a]) rfl (fun c hc => by obtain ⟨n, q1, q2⟩ := int_open hc; exact ⟨n, q1, wf8 q2⟩) h1
  obtain ⟨s1, l1, e1, k3, k4, _⟩ := sl_open (r := rI .u8) (ok := fun n => 0 ≤ n ∧ n ≤ 255) (cs := [c]) rfl (fun c hc => by obtain ⟨n, q1, q2⟩ := int_open hc; exact ⟨n, q1, wf8 q2⟩) h2
  obtain rfl : a = s0 := by injection e0
  obtain rfl : c = s1 := by injection e1
  exact (r6 k1.frz k3.frz (p6_true k2 k4)).val fun v h' hq => hq.1
end Go.Proofs.Ytloaoofdbilpeaa
