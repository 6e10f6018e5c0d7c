/- The operations that read the heap, as one theorem. Own work. -/
import Derived.Test.YtgbkpiaonlabgaaAmK
namespace Go.Am
set_option linter.unusedVariables false
set_option linter.unusedSimpArgs false
open Go Go.MapKept
section
variable {P : Program} {K : KM} {w : World} {B : Nat} {H : Heap}
def keyKind : TypeDesc → Option Nat
  | .int _ => some 1
  | .string => some 2
  | _ => none
theorem bytes_beq' (a b : List UInt8) : ((⟨a.toArray⟩ : ByteArray) == ⟨b.toArray⟩) = (a == b) := by
  rw [Bool.eq_iff_iff, bytes_beq]
  constructor
  · intro h
    have : (⟨a.toArray⟩ : ByteArray).data.toList = (⟨b.toArray⟩ : ByteArray).data.toList := by rw [h]
    simpa using this
  · intro h; simp at h; rw [h]
theorem keyEq_ok {q : Nat} {k k2 : AV} {b : Bool} {x x2 : Value} {d : TypeDesc} (hk : keyOk q k = true) (hd : keyKind d = some q) (h : keyEq k k2 = some b) (hx : VR K k x) (hx2 : VR K k2 x2) :
    Instr.sameNow d x x2 = some b := by
  unfold keyEq at h
  split at h
  · simp only [VR] at hx hx2
    subst hx; subst hx2
    split at h
    · rename_i e; subst e; cases h
      have hq : q = 1 := by unfold keyOk at hk; split at hk <;> simp_all
      cases d <;> simp [keyKind] at hd <;> first | omega | skip
      simp [Instr.sameNow]; rw [Bool.eq_iff_iff]; simp
    · cases h
  · simp only [VR] at hx hx2
    subst hx; subst hx2
    cases h
    have hq : q = 2 := by unfold keyOk at hk; split at hk <;> simp_all
    cases d <;> simp [keyKind] at hd <;> first | omega | skip
    simp [Instr.sameNow, bytes_beq']
  · cases h
theorem findIn_ok {q : Nat} {k : AV} {x : Value} {d : TypeDesc} (hk : keyOk q k = true) (hd : keyKind d = some q) (hx : VR K k x) : ∀ {es : List (AV × AV)} {l : List MapEntry} {r : Option AV}, VRm K es l → findIn k es = some r → ∀ i,
    ∃ r', Instr.findNow d x l i = some r' ∧ match r, r' with
      | none, none => True
      | some v, some (_, v') => VR K v v'
      | _, _ => False
  | [], l, r, hm, h, i => by
    simp only [VRm] at hm; subst hm; cases h
    exact ⟨none, rfl, trivial⟩
  | (k2, v2) :: es, l, r, hm, h, i => by
    simp only [VRm] at hm
    obtain ⟨e, ents, rfl, h1, h2, h3⟩ := hm
    simp only [findIn] at h
    split at h
    · cases h
    · rename_i he
      cases h
      exact ⟨some (i, e.val), by simp only [Instr.findNow, keyEq_ok hk hd he hx h1], h2⟩
    · rename_i he
      obtain ⟨r', g1, g2⟩ := findIn_ok hk hd hx h3 h (i + 1)
      exact ⟨r', by simp only [Instr.findNow, keyEq_ok hk hd he hx h1, g1], g2⟩
theorem checkKey_ok {q : Nat} {k : AV} {x : Value} {d : TypeDesc} {kt : TypeId} (hu : P.underlying kt = some d) (hk : keyOk q k = true) (hd : keyKind d = some q) (hx : VR K k x) (em : Bool) : (Instr.checkKey em 10000 kt x).run P w = .ok () w := by
  have e : Instr.checkKey em 10000 kt x = Instr.checkKey em (9999 + 1) kt x := rfl
  rw [e]
  unfold Instr.checkKey
  rw [Sem.run_bind, run_underlying hu]
  cases d <;> simp [keyKind] at hd
  · rfl
  · rfl
theorem VRm.length : ∀ {es : List (AV × AV)} {l : List MapEntry}, VRm K es l → es.length = l.length
  | [], l, h => by simp only [VRm] at h; subst h; rfl
  | (_, _) :: es, l, h => by
    simp only [VRm] at h
    obtain ⟨e, ents, rfl, _, _, h3⟩ := h
    simp [VRm.length h3]
theorem lookup_ok (h : Sim B K H w) {kq : Nat} {ok : Bool} {zero m k v : AV} {m' k' : Value} (hv : (ROp.lookup kq ok zero).ev [m, k] H = some v) (hm : VR K m m') (hk : VR K k k') {t kt et : TypeId} {d : TypeDesc}
    (ht : P.underlying t = some (.map kt et)) (hkt : P.underlying kt = some d) (hd : keyKind d = some kq) (hz : zero1Of P et = some zero) : Yields P (Instr.lookup t m' k' ok) w K v := by
  obtain ⟨z', hz1, hz2⟩ := run_zero1Of (K := K) hz w
  cases m <;> first | (simp only [ROp.ev] at hv; cases hv; done) | skip
  · simp only [ROp.ev] at hv
    split at hv
    · rename_i hko
      simp only [VR] at hm; subst hm
      have hc := checkKey_ok (P := P) (w := w) hkt hko hd hk true
      cases hv
      refine ⟨if ok then .tuple #[z', .bool false] else z', ?_, ?_⟩
      · unfold Instr.lookup
        simp only [Sem.run_bind, run_underlying ht, Result.andThen_ok, Sem.run_pure]
        have hf : (Instr.findKey kt k' (#[] : Array MapEntry).toList).run P w = .ok none w := by
          simp [Instr.findKey, run_underlying hkt, Instr.findNow]
        have he : (#[] : Array MapEntry).isEmpty = true := rfl
        rw [he, hc]
        simp only [Result.andThen_ok, hf, Sem.run_bind, hz1, Sem.run_pure]
      · cases ok
        · exact hz2
        · simp only [if_true, VR]; exact ⟨_, rfl, VRs.cons hz2 (VRs.cons (by simp only [VR]) VRs.nil)⟩
    · cases hv
  · rename_i o
    simp only [ROp.ev] at hv
    split at hv
    · rename_i es hes
      split at hv
      · rename_i hko
        simp only [VR] at hm
        obtain ⟨r, i, rfl, hK, hr⟩ := hm
        obtain ⟨ob, h1, h2⟩ := h.obj o i hK
        rw [hes] at h1; cases h1
        obtain ⟨g1, g2, ents, clock, g3, g4⟩ := h2
        rw [← hr g1] at g3
        have hc := checkKey_ok (P := P) (w := w) hkt hko hd hk ents.isEmpty
        have hgo := MapKept.run_getObj_map (P := P) g3
        have fin : ∀ rr, findIn k es = some rr → v = (match rr with
            | some u => if ok = true then .tuple [u, .bool true] else u
            | none => if ok = true then .tuple [zero, .bool false] else zero) → Yields P (Instr.lookup t (.map (some r)) k' ok) w K v := by
          intro rr hrr hvv
          obtain ⟨r', f1, f2⟩ := findIn_ok hko hd hk g4 hrr 0
          have hf : (Instr.findKey kt k' ents.toList).run P w = .ok r' w := by
            simp [Instr.findKey, run_underlying hkt, f1]
          cases rr with
          | none =>
            cases r' with
            | some p => exact f2.elim
            | none =>
              refine ⟨if ok then .tuple #[z', .bool false] else z', ?_, ?_⟩
              · unfold Instr.lookup
                simp only [Sem.run_bind, run_underlying ht, Result.andThen_ok, Sem.run_pure, hgo, hc, hf, hz1]
              · subst hvv
                cases ok
                · exact hz2
                · simp only [if_true, VR]; exact ⟨_, rfl, VRs.cons hz2 (VRs.cons (by simp only [VR]) VRs.nil)⟩
          | some u =>
            cases r' with
            | none => exact f2.elim
            | some p =>
              obtain ⟨j, u'⟩ := p
              refine ⟨if ok then .tuple #[u', .bool true] else u', ?_, ?_⟩
              · unfold Instr.lookup
                simp only [Sem.run_bind, run_underlying ht, Result.andThen_ok, Sem.run_pure, hgo, hc, hf]
              · subst hvv
                cases ok
                · exact f2
                · simp only [if_true, VR]; exact ⟨_, rfl, VRs.cons f2 (VRs.cons (by simp only [VR]) VRs.nil)⟩
        split at hv
        · rename_i u hu; exact fin _ hu (by cases hv; rfl)
        · rename_i hu; exact fin _ hu (by cases hv; rfl)
        · cases hv
      · cases hv
    · cases hv
theorem lenMap_ok (h : Sim B K H w) {m v : AV} {m' : Value} (hv : ROp.lenMap.ev [m] H = some v) (hm : VR K m m') {t kt et : TypeId} (ht : P.underlying t = some (.map kt et)) (ty : TypeId) : Yields P (Builtin.len_ #[t] ty #[m']) w K v := by
  cases m <;> first | (simp only [ROp.ev] at hv; cases hv; done) | skip
  · simp only [ROp.ev] at hv
    cases hv
    simp only [VR] at hm; subst hm
    exact ⟨_, by unfold Builtin.len_; simp [run_underlying ht]; rfl, by simp [VR, goInt]⟩
  · rename_i o
    simp only [ROp.ev] at hv
    split at hv
    · rename_i es hes
      cases hv
      simp only [VR] at hm
      obtain ⟨r, i, rfl, hK, hr⟩ := hm
      obtain ⟨ob, h1, h2⟩ := h.obj o i hK
      rw [hes] at h1; cases h1
      obtain ⟨g1, g2, ents, clock, g3, g4⟩ := h2
      rw [← hr g1] at g3
      have hgo := MapKept.run_getObj_map (P := P) g3
      refine ⟨goInt ents.size, by unfold Builtin.len_; simp [run_underlying ht, hgo], ?_⟩
      have := VRm.length g4
      simp [VR, goInt, this]
    · cases hv
theorem rop_ok (hs : Sim B K H w) {a : Act} {e : Env} (he : ER K e a.tmps) {o : Oper} {q : ROp} {xs : List Opd} {vs : List AV} {v : AV} (h : compOp P o.op = some (.r q, xs)) (hev : evs e xs = some vs) (hv : q.ev vs H = some v) : StepsTo P a o w K v := by
  unfold StepsTo execOp
  generalize o.op = op at h
  cases op with
  | load t x =>
    obtain ⟨h1, h2⟩ := withOpds_some h
    obtain ⟨u, rfl, hu⟩ := len1 (opds_ok he h2 hev)
    refine Yields.lift ?_
    split at h1
    · rename_i n ha hn
      cases h1
      cases u <;> first | (simp only [ROp.ev] at hv; cases hv; done) | skip
      simp only [ROp.ev] at hv
      split at hv
      · rename_i cs hcs
        cases hv
        exact loadN_ok hs hu hcs ha hn
      · cases hv
    · rename_i n ha hn
      cases h1
      cases u <;> first | (simp only [ROp.ev] at hv; cases hv; done) | skip
      simp only [ROp.ev] at hv
      split at hv
      · rename_i x hcs
        cases hv
        exact load1_ok hs hu hcs ha
      · cases hv
    · cases h1
  | convert s d x =>
    obtain ⟨h1, h2⟩ := withOpds_some h
    obtain ⟨u, rfl, hu⟩ := len1 (opds_ok he h2 hev)
    refine Yields.lift ?_
    split at h1
    · cases h1
    · cases h1
    · (repeat' split at h1) <;> cases h1
    · rename_i e' hss hdd
      split at h1
      · rename_i hee
        cases h1
        simp only [ROp.ev] at hv
        split at hv
        · rename_i cs hcs
          split at hv
          · rename_i bs hbs
            cases hv
            obtain ⟨v', k1, k2⟩ := bytesToStr_ok (P := P) hs hu hcs hbs
            refine ⟨v', ?_, k2⟩
            have hsh : (∃ y, a.eval x = .slice none 0 y) ∨ ∃ b n c, a.eval x = .slice b n c := by
              cases u <;> simp only [Heap.rows] at hcs <;> first | (cases hcs; done) | skip
              · simp only [VR] at hu; exact .inl ⟨_, hu⟩
              · simp only [VR] at hu; obtain ⟨b, c, i, hu, _⟩ := hu; exact .inr ⟨_, _, _, hu⟩
            unfold convert
            rcases hsh with ⟨y, hsh⟩ | ⟨b, n, c, hsh⟩
            · rw [hsh] at k1 ⊢
              simp only [Sem.run_bind, run_underlying hss, run_underlying hdd, Result.andThen_ok, run_underlying hee]
              exact k1
            · rw [hsh] at k1 ⊢
              simp only [Sem.run_bind, run_underlying hss, run_underlying hdd, Result.andThen_ok, run_underlying hee]
              exact k1
          · cases hv
        · cases hv
      · cases h1
    · cases h1
  | lookup t x i ok =>
    obtain ⟨h1, h2⟩ := withOpds_some h
    obtain ⟨u, u', rfl, hu, hu'⟩ := len2 (opds_ok he h2 hev)
    refine Yields.lift ?_
    split at h1
    · rename_i kt et ht
      split at h1
      · rename_i k z hkt hz
        cases h1
        exact lookup_ok hs hv hu hu' ht hkt rfl hz
      · rename_i z hkt hz
        cases h1
        exact lookup_ok hs hv hu hu' ht hkt rfl hz
      · cases h1
    · cases h1
  | call c =>
    obtain ⟨callee, args, argTypes⟩ := c
    simp only [compOp] at h
    have blt : ∀ b, withOpds (compBuiltin P b argTypes.toList) args.toList = some (.r q, xs) → callee = .builtin b → ∃ v', (do let d ← resolve a.eval ⟨callee, args, argTypes⟩ o.type; invoke d.target d.args : Sem Next).run P w = .ok (.value v') w ∧ VR K v v' := by
      intro b hw hb
      subst hb
      obtain ⟨h1, h2⟩ := withOpds_some hw
      have hvs := opds_ok he h2 hev
      have hargs : args.map a.eval = (args.toList.map a.eval).toArray := by apply Array.ext'; simp
      simp only [resolve, Sem.run_bind, Sem.run_pure, Result.andThen_ok, invoke, hargs]
      clear h hw hargs
      cases b with
      | len =>
        match hts : argTypes.toList, h1 with
        | [t], h1 =>
          have hat : argTypes = [t].toArray := by apply Array.ext'; simpa using hts
          simp only [compBuiltin] at h1
          split at h1
          · cases h1
          · cases h1
          · cases h1
          · rename_i kt et ht
            cases h1
            have hq : ∃ u, vs = [u] := by
              rcases vs with _ | ⟨u, _ | ⟨u', r⟩⟩
              · simp only [ROp.ev] at hv; cases hv
              · exact ⟨u, rfl⟩
              · cases u <;> (simp only [ROp.ev] at hv; cases hv)
            obtain ⟨u, rfl⟩ := hq
            obtain ⟨x, e', hx⟩ := hvs.one
            rw [e', hat]
            exact (lenMap_ok hs hv hx ht o.type).lift
          · cases h1
      | append =>
        match hts : argTypes.toList, h1 with
        | [t, t'], h1 =>
          simp only [compBuiltin] at h1
          (repeat' split at h1) <;> cases h1
      | copy =>
        match hts : argTypes.toList, h1 with
        | [t, t'], h1 =>
          simp only [compBuiltin] at h1
          (repeat' split at h1) <;> cases h1
      | min => match hts : argTypes.toList, h1 with
        | [t, t'], h1 => cases h1
      | max => match hts : argTypes.toList, h1 with
        | [t, t'], h1 => cases h1
      | _ => simp only [compBuiltin] at h1; cases h1
    split at h
    · rename_i hc
      split at h
      · obtain ⟨h1, h2⟩ := withOpds_some h; cases h1
      · exact blt _ h rfl
    · exact blt _ h rfl
    · obtain ⟨h1, h2⟩ := withOpds_some h; cases h1
    · obtain ⟨h1, h2⟩ := withOpds_some h; cases h1
    · cases h
  | binOp op t x y yt =>
    obtain ⟨h1, h2⟩ := withOpds_some h
    split at h1
    · unfold plainEq at h1; (repeat' (first | split at h1 | (cases hh : P.eqGuardType P.depth t <;> rw [hh] at h1 <;> simp only [cond_true, cond_false] at h1))) <;> cases h1
    · unfold plainEq at h1; (repeat' (first | split at h1 | (cases hh : P.eqGuardType P.depth t <;> rw [hh] at h1 <;> simp only [cond_true, cond_false] at h1))) <;> cases h1
    · cases h1
  | makeMap t r =>
    cases r with
    | none => simp only [compOp] at h; obtain ⟨h1, h2⟩ := withOpds_some h; cases h1
    | some x => cases h
  | next it s =>
    cases s with
    | true => obtain ⟨h1, h2⟩ := withOpds_some h; cases h1
    | false => cases h
  | slice t x lo hi mx =>
    cases mx with
    | some m => cases h
    | none =>
      obtain ⟨h1, h2⟩ := withOpds_some h
      (repeat' split at h1) <;> cases h1
  | move x => obtain ⟨h1, h2⟩ := withOpds_some h; cases h1
  | assign x => obtain ⟨h1, h2⟩ := withOpds_some h; cases h1
  | pick c x y => obtain ⟨h1, h2⟩ := withOpds_some h; cases h1
  | box t x => obtain ⟨h1, h2⟩ := withOpds_some h; cases h1
  | nilCheck x => obtain ⟨h1, h2⟩ := withOpds_some h; cases h1
  | unOp op t x => obtain ⟨h1, h2⟩ := withOpds_some h; cases h1
  | extract t i => obtain ⟨h1, h2⟩ := withOpds_some h; cases h1
  | alloc t | build t ps | buildSlice t len ps | store t x y | makeInterface t x | makeFunc fn first caps | makeSlice t l c | fieldAddr t x f | field t x f | indexAddr t x i | index t x i | mapUpdate t m k x | insert t m k x | range t x =>
    obtain ⟨h1, h2⟩ := withOpds_some h
    (repeat' split at h1) <;> cases h1
  | _ => cases h
end
end Go.Am
