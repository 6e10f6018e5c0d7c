/- Parts of a heap, what they stand for, and what each operation makes of them. No condition. Own work. -/
import Derived.Test.YtloaoofdbilpeaaPm1
import Derived.Test.YtloaoofdbilpeaaAm6
import Derived.IntWalk
/- Texts: what is read of them, what is made of them, and walks through them. Own work. -/
namespace Go.Am
set_option linter.unusedVariables false
set_option linter.unusedSimpArgs false
open Go
def idxB (s : List UInt8) (c : Int) : Int := Go.Lib.indexByte s c.toNat.toUInt8
def cntB (s : List UInt8) (c : Int) : Int := ((Go.Lib.countByte s c.toNat.toUInt8 : Nat) : Int)
def idxS (s : List UInt8) (i : Int) : Option Int := if 0 ≤ i then match s[i.toNat]? with
  | some b => some (b.toNat : Int)
  | none => none else none
theorem idxS_ev {s : List UInt8} {i n : Int} {k : IntKind} (h : idxS s i = some n) : POp.ev .indexStr [.str s, .int k i] = some (.int .u8 n) := by
  unfold idxS at h
  simp only [POp.ev]
  split at h
  · rename_i h0
    rw [if_pos h0]
    split at h
    · rename_i b hb; cases h; rw [hb]
    · cases h
  · cases h
theorem sliceStr_ev11 {s q : List UInt8} {k k' : IntKind} {lo hi : Int} (h : slc s lo hi = some q) : POp.ev (.sliceStr true true) [.str s, .int k lo, .int k' hi] = some (.str q) := by
  obtain ⟨h1, h2, h3, rfl⟩ := slc_some h
  simp only [POp.ev, sliceStrEv, boundLo, boundHi, if_pos h1, if_pos (Int.le_trans h1 h2)]
  rw [if_pos (by omega)]
theorem sliceStr_ev01 {s q : List UInt8} {k : IntKind} {hi : Int} (h : slc s 0 hi = some q) : POp.ev (.sliceStr false true) [.str s, .int k hi] = some (.str q) := by
  obtain ⟨h1, h2, h3, rfl⟩ := slc_some h
  simp only [POp.ev, sliceStrEv, boundLo, boundHi, if_pos h2]
  rw [if_pos (by omega)]; rfl
theorem sliceStr_ev10 {s q : List UInt8} {k : IntKind} {lo : Int} (h : slc s lo (s.length : Int) = some q) : POp.ev (.sliceStr true false) [.str s, .int k lo] = some (.str q) := by
  obtain ⟨h1, h2, h3, rfl⟩ := slc_some h
  simp only [POp.ev, sliceStrEv, boundLo, boundHi, if_pos h1]
  rw [if_pos (by omega)]; rfl
theorem sliceStr_ev00 {s q : List UInt8} (h : slc s 0 (s.length : Int) = some q) : POp.ev (.sliceStr false false) [.str s] = some (.str q) := by
  obtain ⟨h1, h2, h3, rfl⟩ := slc_some h
  simp only [POp.ev, sliceStrEv, boundLo, boundHi]
  rw [if_pos (by omega)]; rfl
/-- A text's bytes as a slice. -/
def bytesI (s : List UInt8) : Option (List Int) := if s.length ≤ roomCells then some (s.map fun b => (b.toNat : Int)) else none
theorem bytesI_some {s : List UInt8} {r : List Int} (h : bytesI s = some r) : s.length ≤ roomCells ∧ (s.map fun b => (b.toNat : Int)) = r := by
  unfold bytesI at h
  split at h
  · rename_i hh; cases h; exact ⟨hh, rfl⟩
  · cases h
theorem bytesI_ob {s : List UInt8} {r : List Int} {h : Heap} (hr : bytesI s = some r) : NOp.ob .strToBytes [.str s] h = some (.row (ofBytes s) 0 true) := by
  simp only [NOp.ob]
  rw [if_pos (bytesI_some hr).1]
theorem St.ofStr {g h : Heap} {M : Nat → Prop} {Γ : List Ch} (S : St g M Γ h) (s : List UInt8) : St g M (own (oSl (fz (rI .u8))) [NOp.mk .strToBytes [.str s] h.n] (s.map fun b => (b.toNat : Int)) :: Γ) (h.push (.row (ofBytes s) 0 true)) := by
  have e : ofBytes s = (s.map fun b => [AV.int .u8 (b.toNat : Int)]).flatten := by
    unfold ofBytes
    induction s with
    | nil => rfl
    | cons a s ih => simp only [List.map_cons, List.flatten_cons, ih]; rfl
  have a : ∀ (h' : Heap) (s : List UInt8), All2 ((rI .u8).R (Frz h')) (s.map fun b => [AV.int .u8 (b.toNat : Int)]) (s.map fun b => (b.toNat : Int)) := by
    intro h' s
    induction s with
    | nil => exact .nil
    | cons x s ih => exact .cons rfl ih
  have := St.lit (r := rI .u8) (n := s.length) (S.pushRow (ofBytes s)) e (a _ s) (by simp)
  exact this
def strI (s : List UInt8) : List Int := s.map fun b => (b.toNat : Int)
theorem ofBytes_rows : ∀ s : List UInt8, ofBytes s = (s.map fun b => [AV.int .u8 (b.toNat : Int)]).flatten
  | [] => rfl
  | a :: s => by
    have ih := ofBytes_rows s
    unfold ofBytes at ih ⊢
    simp only [List.map_cons, List.flatten_cons, ih]; rfl
/-- A text's bytes are appended. -/
theorem St.appS {g h : Heap} {M : Nat → Prop} {Γ : List Ch} {s : AV} {l : List Int} {b : Nat} (S : St g M (own (oSl (fz (rI .u8))) [s] l :: Γ) h) (t : List UInt8) (hroom : (l.length + (strI t).length) * b ≤ roomCells) :
    ∃ v h', EOp.ev (.append 1 b) [s, .str t] h = some (v, h') ∧ St g M (own (oSl (fz (rI .u8))) [v] (l ++ strI t) :: Γ) h' := by
  have conv : ∀ (h : Heap) (t : List UInt8), All3 ((fz (rI .u8)).O h) (t.map fun b => [AV.int .u8 (b.toNat : Int)]) (strI t) ((strI t).map fun _ => []) := by
    intro h t
    induction t with
    | nil => exact .nil
    | cons x t ih => exact .cons ⟨rfl, rfl⟩ ih
  have hfl0 : ∀ l : List Int, (l.map fun _ => ([] : List Nat)).flatten = [] := fun l => by induction l <;> simp_all
  have S2 : St g M (own (oSl (fz (rI .u8))) [s] l :: own (fz rU) [] () :: Γ) h := (S.add (r := rU) (cs := []) (x := ()) rfl).swap
  refine St.app_gen (l2 := strI t) (els2 := t.map fun b => [AV.int .u8 (b.toNat : Int)]) (fps2 := []) (fp2 := []) S2 ?_ (fun fp hp => ⟨_, conv _ t, by rw [hfl0]; simp, by rw [hfl0]; simp⟩) hroom
  show (if (1 : Nat) = 1 then some (ofBytes t, t.length) else none) = _
  rw [if_pos rfl, ofBytes_rows]
  simp [strI]
/-- The same slice. -/
theorem St.byteConv {g h : Heap} {M : Nat → Prop} {Γ : List Ch} {α : Type} {r : ORep α} {s : AV} {l : List α} (S : St g M Γ h) (hm : own (oSl r) [s] l ∈ Γ) (hn : s.slen ≠ 0) : EOp.ev .byteConv [s] h = some (s, h) := by
  obtain ⟨fp, s', e, a⟩ := S.mem hm
  cases e
  rcases a with ⟨rfl, _, _⟩ | ⟨o, v, off, row, els, fps, rfl, hg, _⟩
  · exact absurd rfl hn
  · simp only [EOp.ev, hg]
    rw [if_pos ⟨trivial, hn⟩]
/-! ### a walk through a text -/
theorem St.pushIt {g h : Heap} {M : Nat → Prop} {Γ : List Ch} (S : St g M Γ h) (s : List UInt8) : St g M (itC h.n s 0 :: Γ) (h.push (.iter s 0)) :=
  S.new (c := itC h.n s 0) (fp := [h.n]) ⟨rfl, get_new h _⟩ (by simp)
theorem St.nextEnd {g h : Heap} {M : Nat → Prop} {Γ : List Ch} {o pos : Nat} {s : List UInt8} (S : St g M (itC o s pos :: Γ) h) (hp : ¬ pos < s.length) : EOp.ev .nextStr [.iter o] h = some (.tuple [.bool false], h) := by
  obtain ⟨fp, ⟨rfl, hg⟩, k⟩ := S.turn1
  simp only [EOp.ev, hg]
  rw [if_neg hp]
def runeAt (s : List UInt8) (p : Nat) : Int := (Utf8.decode ⟨s.toArray⟩ p).1
def nextAt (s : List UInt8) (p : Nat) : Nat := p + (Utf8.decode ⟨s.toArray⟩ p).2
theorem St.next {g h : Heap} {M : Nat → Prop} {Γ : List Ch} {o pos : Nat} {s : List UInt8} (S : St g M (itC o s pos :: Γ) h) (hp : pos < s.length) :
    ∃ h', EOp.ev .nextStr [.iter o] h = some (.tuple [.bool true, .int .i64 (pos : Int), .int .i32 (runeAt s pos)], h') ∧ St g M (itC o s (nextAt s pos) :: Γ) h' := by
  obtain ⟨fp, ⟨rfl, hg⟩, k⟩ := S.turn1
  refine ⟨h.set o (.iter s (pos + (Utf8.decode ⟨s.toArray⟩ pos).2)), ?_, k _ (itC o s (pos + (Utf8.decode ⟨s.toArray⟩ pos).2)) [o] ?_ (Nat.le_refl _) ?_ ⟨rfl, ?_⟩ (fun p hp => .inl hp)⟩
  · simp only [EOp.ev, hg]
    rw [if_pos hp]
    rfl
  · intro p c u hp
    have hp : h.get p = _ := hp
    show (h.set _ _).get p = _
    have : p ≠ o := fun e => by rw [e, hg] at hp; cases hp
    rw [get_set_ne hg this]; exact hp
  · intro p y hp hy
    rw [List.mem_singleton] at hp
    rw [get_set_ne hg hp]; exact hy
  · rw [get_set_eq hg]
end Go.Am

/- A law's arguments, as pure values. Own work. -/
namespace Go.Am
set_option linter.unusedVariables false
set_option linter.unusedSimpArgs false
open Go
theorem els_open {α : Type} {s : Sh} {r : Rep α} {ok : α → Prop} {h : Heap} (conv : ∀ c, TyC s h c → ∃ x, r.R (Frz h) c x ∧ ok x) : ∀ (els : List (List AV)), (∀ x, x ∈ els → TyC s h x) → ∃ l : List α, All2 (r.R (Frz h)) els l ∧ ∀ x, x ∈ l → ok x
  | [], _ => ⟨[], .nil, fun _ h => by cases h⟩
  | e :: els, he => by
    obtain ⟨x, h1, h2⟩ := conv e (he e (List.mem_cons_self ..))
    obtain ⟨l, h3, h4⟩ := els_open conv els (fun y hy => he y (List.mem_cons_of_mem _ hy))
    refine ⟨x :: l, .cons h1 h3, fun y hy => ?_⟩
    rcases List.mem_cons.1 hy with rfl | hy
    · exact h2
    · exact h4 y hy
/-- A slice that came in: its elements. -/
theorem sl_open {α : Type} {s : Sh} {r : Rep α} {ok : α → Prop} {h : Heap} (hz : r.z = s.n) (conv : ∀ c, TyC s h c → ∃ x, r.R (Frz h) c x ∧ ok x) {cs : List AV} (ht : TyC (.sl s) h cs) : ∃ sv l, cs = [sv] ∧ SlR r (Frz h) sv l ∧ (∀ x, x ∈ l → ok x) ∧ l.length ≤ maxLen := by
  simp only [TyC] at ht
  obtain ⟨sv, rfl, rfl | ⟨o, els, rfl, h1, h2, h3⟩⟩ := ht
  · exact ⟨_, [], rfl, .inl ⟨rfl, rfl⟩, fun _ h => (by cases h), Nat.zero_le _⟩
  · obtain ⟨l, k1, k2⟩ := els_open conv els h3
    have hl := k1.len
    have hfl : els.flatten.length = els.length * r.z := flatten_len els fun d hd => by rw [TyC.len s (h3 d hd), hz]
    refine ⟨_, l, rfl, .inr ⟨o, 0, 0, els.flatten, els, by rw [hz, hl], h2, by rw [← hl]; omega, ?_, k1⟩, k2, by omega⟩
    rw [List.drop_zero, ← hl, List.take_of_length_le (by omega)]
theorem SlR.frz {α : Type} {r : Rep α} {h : Heap} {s : AV} {l : List α} (a : SlR r (Frz h) s l) : SlR r (Snap h) s l := a.mono (frz_snap h)
theorem int_open {k : IntKind} {h : Heap} {c : List AV} (ht : TyC (.int k) h c) : ∃ n, (rI k).R (Frz h) c n ∧ (Lit.int k n).wf = true := by
  simp only [TyC] at ht
  exact ht
end Go.Am

/- Loops that count, and other plain help for the pure functions. Own work. -/
namespace Go.Am
set_option linter.unusedVariables false
set_option linter.unusedSimpArgs false
open Go
theorem wrap64 {n : Int} (h1 : -9223372036854775808 ≤ n) (h2 : n ≤ 9223372036854775807) : IntKind.wrap .i64 n = n := IntWalk.i64_in _ (by omega)
theorem room_of {n b : Nat} (hn : n ≤ 1000000000) (hb : b ≤ 1000) : n * b ≤ roomCells := by
  have : n * b ≤ 1000000000 * 1000 := Nat.mul_le_mul hn hb
  unfold roomCells; omega
theorem app_ok {α : Type} {b : Nat} {l k : List α} (h : l.length + k.length ≤ 1000000000) (hb : b ≤ 1000 := by decide) : app b l k = some (l ++ k) := by
  unfold app; rw [if_pos (room_of h hb)]
theorem mkS_ok {α : Type} {b : Nat} {n : Int} {x : α} (h0 : 0 ≤ n) (h : n ≤ 1000000000) (hb : b ≤ 1000 := by decide) : mkS b n n x = some (List.replicate n.toNat x) := by
  unfold mkS
  have h1 := room_of (n := n.toNat) (b := b) (by omega) hb
  have h2 := room_of (n := n.toNat) (b := 1) (by omega) (by decide)
  have h3 : n * (b : Int) = ((n.toNat * b : Nat) : Int) := by rw [Int.natCast_mul, Int.toNat_of_nonneg h0]
  have h4 : n * (b : Int) ≤ roomCells := by rw [h3]; exact_mod_cast h1
  have h5 : n ≤ (roomCells : Int) := by omega
  exact if_pos ⟨h0, Int.le_refl _, h4, h5⟩
theorem idx_ok {α : Type} {l : List α} {k : Nat} {x : α} (h : l[k]? = some x) : idx l (k : Int) = some x := by
  unfold idx; rw [if_pos (by omega), Int.toNat_natCast]; exact h
theorem idx_get {α : Type} {l : List α} {k : Nat} (h : k < l.length) : idx l (k : Int) = some l[k] := idx_ok (List.getElem?_eq_getElem h)
theorem idx_int {α : Type} {l : List α} {i : Int} (h0 : 0 ≤ i) (h : i < (l.length : Int)) : ∃ x, idx l i = some x ∧ l[i.toNat]? = some x := by
  have hl : i.toNat < l.length := by omega
  refine ⟨l[i.toNat], ?_, List.getElem?_eq_getElem hl⟩
  unfold idx; rw [if_pos h0, List.getElem?_eq_getElem hl]
/-- A loop that counts up, with a state. -/
theorem loop_up {σ ρ : Type} {f : Int × σ → Option ((Int × σ) ⊕ ρ)} (n : Nat) (hn : n ≤ 1000000000) (I : Nat → σ → Prop) (Q : ρ → Prop)
    (step : ∀ k s, k < n → I k s → (∃ s', f ((k : Int), s) = some (.inl (IntKind.wrap .i64 ((k : Int) + 1), s')) ∧ I (k + 1) s') ∨ ∃ r, f ((k : Int), s) = some (.inr r) ∧ Q r)
    (done : ∀ s, I n s → ∃ r, f ((n : Int), s) = some (.inr r) ∧ Q r) {s : σ} (h0 : I 0 s) : ∃ r, loopC f ((0 : Int), s) = some r ∧ Q r := by
  refine loopC_rule (fun p => ∃ k : Nat, p.1 = (k : Int) ∧ k ≤ n ∧ I k p.2) (fun p => n + 1 - p.1.toNat) Q ?_ ⟨0, rfl, Nat.zero_le _, h0⟩
  rintro ⟨i, s⟩ ⟨k, hk, hle, hI⟩
  simp only at hk
  subst hk
  rcases Nat.lt_or_ge k n with hlt | hge
  · rcases step k s hlt hI with ⟨s', h1, h2⟩ | ⟨r, h1, h2⟩
    · refine .inl ⟨_, h1, ⟨k + 1, ?_, hlt, h2⟩, ?_⟩
      · simp only; rw [wrap64 (by omega) (by omega)]; rfl
      · simp only; rw [wrap64 (by omega) (by omega)]; omega
    · exact .inr ⟨r, h1, h2⟩
  · obtain rfl : k = n := by omega
    exact .inr (done s hI)
/-- A loop that counts up, alone. -/
theorem loop_up0 {ρ : Type} {f : Int → Option (Int ⊕ ρ)} (n : Nat) (hn : n ≤ 1000000000) (I : Nat → Prop) (Q : ρ → Prop)
    (step : ∀ k, k < n → I k → (f (k : Int) = some (.inl (IntKind.wrap .i64 ((k : Int) + 1))) ∧ I (k + 1)) ∨ ∃ r, f (k : Int) = some (.inr r) ∧ Q r)
    (done : I n → ∃ r, f (n : Int) = some (.inr r) ∧ Q r) (h0 : I 0) : ∃ r, loopC f (0 : Int) = some r ∧ Q r := by
  refine loopC_rule (fun p => ∃ k : Nat, p = (k : Int) ∧ k ≤ n ∧ I k) (fun p => n + 1 - p.toNat) Q ?_ ⟨0, rfl, Nat.zero_le _, h0⟩
  rintro i ⟨k, rfl, hle, hI⟩
  rcases Nat.lt_or_ge k n with hlt | hge
  · rcases step k hlt hI with ⟨h1, h2⟩ | ⟨r, h1, h2⟩
    · refine .inl ⟨_, h1, ⟨k + 1, ?_, hlt, h2⟩, ?_⟩
      · rw [wrap64 (by omega) (by omega)]; rfl
      · rw [wrap64 (by omega) (by omega)]; omega
    · exact .inr ⟨r, h1, h2⟩
  · obtain rfl : k = n := by omega
    exact .inr (done hI)
theorem catS_ok {a b : List UInt8} (h : a.length + b.length ≤ 1000000000) : catS a b = some (a ++ b) := by
  unfold catS; rw [if_pos (by omega)]
theorem remI_ok {k : IntKind} {a b : Int} (h : b ≠ 0) : remI k a b = some (a.tmod b) := by unfold remI; rw [if_neg h]
/-- One step of a relation, or more. -/
inductive Walk {α : Type} (E : α → α → Prop) : α → α → Prop where
  | one {a b : α} : E a b → Walk E a b
  | step {a b c : α} : Walk E a b → E b c → Walk E a c
theorem Walk.trans {α : Type} {E : α → α → Prop} {a b c : α} (h : Walk E a b) (k : Walk E b c) : Walk E a c := by
  induction k with
  | one e => exact .step h e
  | step _ e ih => exact .step ih e
end Go.Am
