/- All operations that make objects, write, or call, as theorems. Own work. -/
import Derived.Test.YtgbkpiaonlabgaaAmQ
namespace Go.Am
set_option linter.unusedVariables false
set_option linter.unusedSimpArgs false
open Go Go.RowKit
section
variable {P : Program} {K : KM} {w : World} {B : Nat} {H : Heap}
/-- The step of an operation ends with this value in its slot. -/
def OpRuns (P : Program) (a : Act) (o : Oper) (w : World) (v' : Value) (w' : World) : Prop :=
  (execOp a.eval o).run P w = .ok (.value v') w' ∨ ((execOp a.eval o).run P w = .ok .skip w' ∧ v' = Go.undef)
theorem Makes.lift {id : Nat} {s : Sem Value} {v : AV} (h : Makes P B K H id s w v) {a : Act} {o : Oper} (ho : execOp a.eval o = do pure (Next.value (← s))) :
    ∃ v' w' K', OpRuns P a o w v' w' ∧ Below B w w' ∧ KLe K K' ∧ (∀ x, x ≠ id → K' x = K x) ∧ Sim B K' H w' ∧ VR K' v v' := by
  obtain ⟨v', w', K', h1, h2⟩ := h
  exact ⟨v', w', K', .inl (by rw [ho]; exact lift_v h1), h2⟩
theorem append_types {ts : List TypeId} {n m : Nat} (h : compBuiltin P .append ts = some (.e (.append n m))) : ∃ t u e z, ts = [t, u] ∧ AppT P t u e n m z := by
  match ts, h with
  | [t, u], h =>
    simp only [compBuiltin] at h
    split at h
    · rename_i e hd
      split at h
      · cases h
      · rename_i d hne hu
        split at h
        · rename_i z n' m' hz hn hm
          split at h
          · rename_i hb
            cases h
            simp only [Bool.and_eq_true] at hb
            exact ⟨t, u, e, z, rfl, ⟨hd, ⟨d, hu, fun k e' => by subst e'; exact hne _ rfl⟩, hz, hn, hm, hb.1.1, hb.1.2, Nat.eq_of_beq_eq_true hb.2⟩⟩
          · cases h
        · cases h
      · cases h
    · cases h
theorem args_two {args : Array Operand} {a : Act} {x y : Operand} (h : args.toList = [x, y]) : args.map a.eval = #[a.eval x, a.eval y] := by
  have : args = #[x, y] := by apply Array.ext'; simpa using h
  subst this; simp
theorem nop_ok (hs : Sim B K H w) {a : Act} {e : Env} (he : ER K e a.tmps) {o : Oper} {q : NOp} {xs : List Opd} {vs : List AV} {ob : AObj} {id : Nat} (h : compOp P o.op = some (.n q, xs)) (hev : evs e xs = some vs) (hob : q.ob vs H = some ob)
    (hK : K id = none) (hid : H.get id = some ob) (hlt : id < H.n) : ∃ v' w' K', OpRuns P a o w v' w' ∧ Below B w w' ∧ KLe K K' ∧ (∀ x, x ≠ id → K' x = K x) ∧ Sim B K' H w' ∧ VR K' (q.mk vs id) v' := by
  obtain ⟨dst, op, type, pos, after, guard⟩ := o
  simp only at h
  cases op with
  | alloc t =>
    obtain ⟨h1, h2⟩ := withOpds_some h
    have hvs := opds_ok he h2 hev
    simp only [List.map_nil] at hvs
    have e0 : vs = [] := List.eq_nil_of_length_eq_zero (by rw [hvs.length]; rfl)
    subst e0
    split at h1
    · rename_i z hz
      cases h1
      simp only [NOp.ob] at hob
      cases hob
      obtain ⟨v0, g1, g2, g3⟩ := run_zeroOf (K := K) hz w
      have := newVar_ok (P := P) hs t hK hid hlt g2 g3
      obtain ⟨v', w', K', k1, k2⟩ := this
      refine ⟨v', w', K', .inl ?_, k2⟩
      show (do pure (Next.value (← _)) : Sem Next).run P w = _
      refine lift_v ?_
      unfold Instr.alloc
      simp only [Sem.run_bind, g1, Result.andThen_ok]
      exact k1
    · cases h1
  | box t x =>
    obtain ⟨h1, h2⟩ := withOpds_some h
    cases h1
    obtain ⟨u, rfl, hu⟩ := len1 (opds_ok he h2 hev)
    simp only [NOp.ob] at hob
    split at hob
    · cases hob
    · rename_i ht
      cases hob
      obtain ⟨g2, g3⟩ := hu.cells (by simpa using ht)
      exact (newVar_ok (P := P) hs t hK hid hlt g2 g3).lift rfl
  | buildSlice t len ps =>
    obtain ⟨h1, h2⟩ := withOpds_some h
    have hvs := opds_ok he h2 hev
    split at h1
    · rename_i e' hd
      split at h1
      · rename_i z n hz hn
        split at h1
        · rename_i hb
          cases h1
          simp only [Bool.and_eq_true] at hb
          simp only [NOp.ob] at hob
          split at hob
          · rename_i cs hcs
            cases hob
            have := buildSlice_ok (P := P) (ps := ps.toList.map fun p => (p.1, a.eval p.2)) (vs := vs) hs hK hid hlt hd hz hn hb.1.1 (Nat.le_of_ble_eq_true hb.1.2) (Nat.eq_of_beq_eq_true hb.2) (by simpa [List.map_map, Function.comp_def] using hvs) (by simpa [List.map_map, Function.comp_def] using hcs)
            refine this.lift ?_
            have e2 : (ps.toList.map fun p => (p.1, a.eval p.2)).toArray = ps.map fun p => (p.1, a.eval p.2) := by apply Array.ext'; simp
            rw [e2]
            rfl
          · cases hob
        · cases h1
      · cases h1
    · cases h1
  | convert s d x =>
    obtain ⟨h1, h2⟩ := withOpds_some h
    obtain ⟨u, rfl, hu⟩ := len1 (opds_ok he h2 hev)
    split at h1
    · cases h1
    · cases h1
    · rename_i e' hss hdd
      split at h1
      · rename_i hee
        cases h1
        cases u <;> first | (simp only [NOp.ob] at hob; cases hob; done) | skip
        simp only [NOp.ob] at hob
        split at hob
        · rename_i hl
          cases hob
          have := strToBytes_ok (P := P) hs hK hid hlt hl e'
          obtain ⟨v', w', K', k1, k2⟩ := this
          refine ⟨v', w', K', .inl ?_, k2⟩
          show (do pure (Next.value (← _)) : Sem Next).run P w = _
          refine lift_v ?_
          simp only [VR] at hu
          rw [hu]
          unfold convert
          simp only [Sem.run_bind, run_underlying hss, run_underlying hdd, Result.andThen_ok, run_underlying hee]
          exact k1
        · cases hob
      · cases h1
    · (repeat' split at h1) <;> cases h1
    · cases h1
  | makeMap t r =>
    cases r with
    | some x => cases h
    | none =>
      simp only [compOp] at h
      obtain ⟨h1, h2⟩ := withOpds_some h
      cases h1
      have hvs := opds_ok he h2 hev
      simp only [List.map_nil] at hvs
      have e0 : vs = [] := List.eq_nil_of_length_eq_zero (by rw [hvs.length]; rfl)
      subst e0
      simp only [NOp.ob] at hob
      cases hob
      exact (mkMap_ok (P := P) hs hK hid hlt t).lift rfl
  | makeSlice t l c =>
    obtain ⟨h1, h2⟩ := withOpds_some h
    obtain ⟨u, u', rfl, hu, hu'⟩ := len2 (opds_ok he h2 hev)
    split at h1
    · rename_i e' hd
      split at h1
      · rename_i z n m hz hn hm
        split at h1
        · rename_i hb
          cases h1
          simp only [Bool.and_eq_true] at hb
          cases u <;> first | (simp only [NOp.ob] at hob; cases hob; done) | skip
          cases u' <;> first | (simp only [NOp.ob] at hob; cases hob; done) | skip
          simp only [NOp.ob] at hob
          split at hob
          · rename_i hc
            cases hob
            simp only [VR] at hu hu'
            refine Makes.lift (s := Instr.makeSlice t (a.eval l) (a.eval c)) ?_ rfl
            rw [hu, hu']
            exact mkSlice_ok (P := P) hs hK hid hlt hd hz hn hm hb.1.1 (Nat.eq_of_beq_eq_true hb.2) hc
          · cases hob
        · cases h1
      · cases h1
    · cases h1
  | range t x =>
    obtain ⟨h1, h2⟩ := withOpds_some h
    obtain ⟨u, rfl, hu⟩ := len1 (opds_ok he h2 hev)
    split at h1
    · rename_i hd
      cases h1
      cases u <;> first | (simp only [NOp.ob] at hob; cases hob; done) | skip
      simp only [NOp.ob] at hob
      cases hob
      simp only [VR] at hu
      refine (rangeStr_ok (P := P) hs hK hid hlt hd).lift ?_
      rw [← hu]
      rfl
    · cases h1
  | call c =>
    obtain ⟨callee, args, argTypes⟩ := c
    simp only [compOp] at h
    split at h
    · split at h
      · rename_i x n m hargs hcb
        obtain ⟨h1, h2⟩ := withOpds_some h
        cases h1
        obtain ⟨u, rfl, hu⟩ := len1 (opds_ok he h2 hev)
        simp only [NOp.ob] at hob
        split at hob
        · rename_i cs k ha
          split at hob
          · rename_i hroom
            cases hob
            obtain ⟨t, u', e', z, ht, T⟩ := append_types hcb
            have := appendNil_ok (P := P) hs T hu ha hroom hK hid hlt type
            refine this.lift ?_
            have hat : argTypes = #[t, u'] := by apply Array.ext'; simpa using ht
            simp only [execOp, resolve, args_two hargs, hat]
            rfl
          · cases hob
        · cases hob
      · obtain ⟨h1, h2⟩ := withOpds_some h
        exfalso
        rename_i hne
        revert h1
        rcases argTypes.toList with _ | ⟨t, _ | ⟨t', _ | ⟨_, _⟩⟩⟩ <;> simp only [compBuiltin] <;> intro h1 <;> ((repeat' split at h1) <;> cases h1)
    · obtain ⟨h1, h2⟩ := withOpds_some h
      exfalso
      rename_i b hne
      revert h1
      cases b <;> rcases argTypes.toList with _ | ⟨t, _ | ⟨t', _ | ⟨_, _⟩⟩⟩ <;> simp only [compBuiltin] <;> intro h1 <;> ((repeat' split at h1) <;> cases h1)
    · obtain ⟨h1, h2⟩ := withOpds_some h; cases h1
    · obtain ⟨h1, h2⟩ := withOpds_some h; cases h1
    · cases h
  | binOp op t x y yt =>
    obtain ⟨h1, h2⟩ := withOpds_some h
    split at h1
    · unfold plainEq at h1; (repeat' (first | split at h1 | (cases hh : P.eqGuardType P.depth t <;> rw [hh] at h1 <;> simp only [cond_true, cond_false] at h1))) <;> cases h1
    · unfold plainEq at h1; (repeat' (first | split at h1 | (cases hh : P.eqGuardType P.depth t <;> rw [hh] at h1 <;> simp only [cond_true, cond_false] at h1))) <;> cases h1
    · cases h1
  | next it s =>
    cases s with
    | true => obtain ⟨h1, h2⟩ := withOpds_some h; cases h1
    | false => cases h
  | slice t x lo hi mx =>
    cases mx with
    | some m => cases h
    | none =>
      obtain ⟨h1, h2⟩ := withOpds_some h
      (repeat' split at h1) <;> cases h1
  | move x => obtain ⟨h1, h2⟩ := withOpds_some h; cases h1
  | assign x => obtain ⟨h1, h2⟩ := withOpds_some h; cases h1
  | pick c x y => obtain ⟨h1, h2⟩ := withOpds_some h; cases h1
  | nilCheck x => obtain ⟨h1, h2⟩ := withOpds_some h; cases h1
  | unOp op t x => obtain ⟨h1, h2⟩ := withOpds_some h; cases h1
  | extract t i => obtain ⟨h1, h2⟩ := withOpds_some h; cases h1
  | load t x | lookup t x i ok | build t ps | store t x y | makeInterface t x | makeFunc fn first caps | fieldAddr t x f | field t x f | indexAddr t x i | index t x i | mapUpdate t m k x | insert t m k x =>
    obtain ⟨h1, h2⟩ := withOpds_some h
    (repeat' split at h1) <;> cases h1
  | _ => cases h
end
end Go.Am
