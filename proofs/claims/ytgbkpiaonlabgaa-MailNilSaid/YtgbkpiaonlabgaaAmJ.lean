/- All operations that look at their operands alone, as one theorem. Own work. -/
import Derived.Test.YtgbkpiaonlabgaaAmI
import Derived.Laws.Build
namespace Go.Am
set_option linter.unusedVariables false
set_option linter.unusedSimpArgs false
open Go
section
variable {P : Program} {K : KM} {w : World}
theorem one_of {vs : List AV} {x : Value} {a : AV} (e : vs = [a]) (h : VRs K vs [x]) : VR K a x := by
  subst e
  obtain ⟨x', e, h⟩ := h.one
  simp only [List.cons.injEq, and_true] at e
  subst e; exact h
theorem len1 {vs : List AV} {x : Value} (h : VRs K vs [x]) : ∃ u, vs = [u] ∧ VR K u x := by
  have := h.length
  rcases vs with _ | ⟨u, _ | ⟨u', r⟩⟩ <;> simp at this
  exact ⟨u, rfl, one_of rfl h⟩
theorem len2 {vs : List AV} {x y : Value} (h : VRs K vs [x, y]) : ∃ u v, vs = [u, v] ∧ VR K u x ∧ VR K v y := by
  have := h.length
  rcases vs with _ | ⟨u, _ | ⟨u', _ | ⟨_, r⟩⟩⟩ <;> simp at this
  obtain ⟨x', y', e, h1, h2⟩ := h.two
  simp only [List.cons.injEq, and_true] at e
  obtain ⟨rfl, rfl⟩ := e
  exact ⟨u, u', rfl, h1, h2⟩
theorem len3 {vs : List AV} {x y z : Value} (h : VRs K vs [x, y, z]) : ∃ u v r, vs = [u, v, r] ∧ VR K u x ∧ VR K v y ∧ VR K r z := by
  have := h.length
  rcases vs with _ | ⟨u, _ | ⟨u', _ | ⟨u'', _ | ⟨_, r⟩⟩⟩⟩ <;> simp at this
  obtain ⟨x', y', z', e, h1, h2, h3⟩ := h.three
  simp only [List.cons.injEq, and_true] at e
  obtain ⟨rfl, rfl, rfl⟩ := e
  exact ⟨u, u', u'', rfl, h1, h2, h3⟩
theorem pop_ok {a : Act} {e : Env} (he : ER K e a.tmps) {o : Oper} {q : POp} {xs : List Opd} {vs : List AV} {v : AV} (h : compOp P o.op = some (.p q, xs)) (hev : evs e xs = some vs) (hv : q.ev vs = some v) : StepsTo P a o w K v := by
  unfold StepsTo execOp
  generalize o.op = op at h
  cases op with
  | move x =>
    obtain ⟨h1, h2⟩ := withOpds_some h
    cases h1
    obtain ⟨u, rfl, hu⟩ := len1 (opds_ok he h2 hev)
    cases hv
    exact ⟨_, rfl, hu⟩
  | assign x =>
    obtain ⟨h1, h2⟩ := withOpds_some h
    cases h1
    obtain ⟨u, rfl, hu⟩ := len1 (opds_ok he h2 hev)
    cases hv
    exact ⟨_, rfl, hu⟩
  | pick c x y =>
    obtain ⟨h1, h2⟩ := withOpds_some h
    cases h1
    obtain ⟨u1, u2, u3, rfl, h3, h4, h5⟩ := len3 (opds_ok he h2 hev)
    cases u1 <;> simp only [POp.ev] at hv <;> cases hv
    rename_i b
    simp only [VR] at h3
    simp only [h3, asBool, Sem.run_bind, Sem.run_pure, Result.andThen_ok]
    cases b
    · exact ⟨_, rfl, h5⟩
    · exact ⟨_, rfl, h4⟩
  | build t ps =>
    obtain ⟨h1, h2⟩ := withOpds_some h
    have hvs := opds_ok he h2 hev
    have key : ∀ z os, zeroOf P t = some z → q = .build z os → ((∃ fs, P.underlying t = some (.struct fs) ∧ fieldOffs P fs ps.toList = some os ∧ fs.toList.all (fun f => isSome' (size? P f.type)) = true) ∨
        (∃ len e n, P.underlying t = some (.array len e) ∧ size? P e = some n ∧ os = ps.toList.map fun p => (p.1 * n, n))) → ∃ v', (do pure (Next.value (← Instr.build t (ps.map fun x => (x.1, a.eval x.2)))) : Sem Next).run P w = .ok (.value v') w ∧ VR K v v' := by
      intro z os hz hq hd
      subst hq
      simp only [POp.ev] at hv
      split at hv
      · rename_i cs hcs
        cases hv
        have := (build_ok (P := P) (w := w) (ps := ps.toList) (a := a) hz hd (by simpa [List.map_map, Function.comp_def] using hvs) hcs).lift
        simpa using this
      · cases hv
    split at h1
    · rename_i z fs hz hd
      split at h1
      · rename_i os hos
        split at h1
        · rename_i hall
          cases h1
          exact key z os hz rfl (.inl ⟨fs, hd, hos, hall⟩)
        · cases h1
      · cases h1
    · rename_i z len e' hz hd
      split at h1
      · rename_i n hn
        cases h1
        exact key z _ hz rfl (.inr ⟨len, e', n, hd, hn, rfl⟩)
      · cases h1
    · cases h1
  | nilCheck x =>
    obtain ⟨h1, h2⟩ := withOpds_some h
    cases h1
    obtain ⟨u, rfl, hu⟩ := len1 (opds_ok he h2 hev)
    cases u <;> simp only [POp.ev] at hv <;> cases hv
    · have hu' := hu
      simp only [VR] at hu
      obtain ⟨a', i, e', _⟩ := hu
      simp only [e']
      exact ⟨_, rfl, by rw [e'] at hu'; exact hu'⟩
    · have hu' := hu
      simp only [VR] at hu
      obtain ⟨ys, e', _⟩ := hu
      simp only [e']
      exact ⟨_, rfl, by rw [e'] at hu'; exact hu'⟩
    · have hu' := hu
      simp only [VR] at hu
      obtain ⟨ys, e', _⟩ := hu
      simp only [e']
      exact ⟨_, rfl, by rw [e'] at hu'; exact hu'⟩
  | binOp op t x y yt =>
    obtain ⟨h1, h2⟩ := withOpds_some h
    have hvs := opds_ok he h2 hev
    refine Yields.lift ?_
    split at h1
    · exact plainEq_case (neg := false) rfl h1 hv hvs
    · exact plainEq_case (neg := true) rfl h1 hv hvs
    · cases h1; exact bin_case rfl hv hvs
  | unOp op t x =>
    obtain ⟨h1, h2⟩ := withOpds_some h
    cases h1
    obtain ⟨u, rfl, hu⟩ := len1 (opds_ok he h2 hev)
    simp only [POp.ev] at hv
    exact (un_ok hv hu).lift
  | convert s d x =>
    obtain ⟨h1, h2⟩ := withOpds_some h
    obtain ⟨u, rfl, hu⟩ := len1 (opds_ok he h2 hev)
    refine Yields.lift ?_
    split at h1
    · rename_i k k' hs hd
      cases h1
      cases u <;> simp only [POp.ev] at hv <;> cases hv
      simp only [VR] at hu
      exact ⟨_, by rw [hu]; unfold convert; simp only [Sem.run_bind, run_underlying hs, run_underlying hd, Result.andThen_ok, Conv.intToInt]; rfl, by simp only [VR]⟩
    · rename_i hs hd
      cases h1
      cases u <;> simp only [POp.ev] at hv <;> cases hv
      simp only [VR] at hu
      exact ⟨_, by rw [hu]; unfold convert; simp only [Sem.run_bind, run_underlying hs, run_underlying hd, Result.andThen_ok]; rfl, by simp only [VR]⟩
    · split at h1 <;> cases h1
    · split at h1 <;> cases h1
    · cases h1
  | makeInterface t x =>
    obtain ⟨h1, h2⟩ := withOpds_some h
    obtain ⟨u, rfl, hu⟩ := len1 (opds_ok he h2 hev)
    refine Yields.lift ?_
    split at h1
    · cases h1
    · rename_i d hn hd
      cases h1
      simp only [POp.ev] at hv
      cases hv
      have hc : P.concrete t = true := by
        unfold Program.concrete; rw [hd]
        cases d <;> first | rfl | exact absurd rfl (hn _)
      exact ⟨_, run_makeInterface w t _ hc, by simp only [VR]; exact ⟨_, rfl, hu⟩⟩
    · cases h1
  | makeFunc fn first caps =>
    obtain ⟨h1, h2⟩ := withOpds_some h
    have hvs := opds_ok he h2 hev
    refine Yields.lift ?_
    split at h1
    · rename_i f hf
      cases h1
      simp only [POp.ev] at hv
      cases hv
      have e0 : first = #[] := by apply Array.ext'; simpa using hf
      subst e0
      exact ⟨_, rfl, by simp only [VR]; exact ⟨caps.map a.eval, by simp, by simpa using hvs⟩⟩
    · cases h1
  | slice t x lo hi mx =>
    cases mx with
    | some m => cases h
    | none =>
      obtain ⟨h1, h2⟩ := withOpds_some h
      obtain ⟨u, us, rfl, hu, hus⟩ : ∃ u us, vs = u :: us ∧ VR K u (a.eval x) ∧ VRs K us ((consIf lo (consIf hi [])).map a.eval) := by
        have := opds_ok he h2 hev
        cases vs with
        | nil => simp only [VRs, List.map_cons] at this; cases this
        | cons u us =>
          obtain ⟨x', xs', e', k1, k2⟩ := this.uncons
          simp only [List.map_cons, List.cons.injEq] at e'
          obtain ⟨rfl, rfl⟩ := e'
          exact ⟨u, us, rfl, k1, k2⟩
      refine Yields.lift ?_
      split at h1
      · rename_i hd
        cases h1
        cases u <;> first | (simp only [POp.ev] at hv; cases hv; done) | skip
        simp only [POp.ev, sliceStrEv] at hv
        split at hv
        · cases hv
        · rename_i l vs' hl
          split at hv
          · cases hv
          · rename_i h' hh
            split at hv
            · rename_i hlh
              cases hv
              obtain ⟨b1, b2⟩ := bounds_ok hus hl hh
              simp only [VR] at hu
              rw [hu]
              exact strSlice_ok b1 b2 hlh.1 hlh.2 hd
            · cases hv
      · rename_i e' hd
        split at h1
        · rename_i n hn
          split at h1
          · cases h1
            simp only [POp.ev, sliceSlEv] at hv
            split at hv
            · cases hv
            · rename_i l vs' hl
              split at hv
              · cases hv
              · rename_i h' hh
                split at hv
                · rename_i hlh
                  cases hv
                  obtain ⟨b1, b2⟩ := bounds_ok hus hl hh
                  exact sub_ok hu hlh.1 hlh.2.1 hlh.2.2 hd hn b1 b2
                · cases hv
          · cases h1
        · cases h1
      · cases h1
  | fieldAddr t x f =>
    obtain ⟨h1, h2⟩ := withOpds_some h
    obtain ⟨u, rfl, hu⟩ := len1 (opds_ok he h2 hev)
    refine Yields.lift ?_
    split at h1
    · rename_i fs hd
      split at h1
      · rename_i fd hf
        split at h1
        · rename_i n hn
          split at h1
          · rename_i hp
            cases h1
            cases u <;> simp only [POp.ev] at hv <;> cases hv
            exact field_ok hu hd hf hn hp
          · cases h1
        · cases h1
      · cases h1
    · cases h1
  | field t x f =>
    obtain ⟨h1, h2⟩ := withOpds_some h
    obtain ⟨u, rfl, hu⟩ := len1 (opds_ok he h2 hev)
    refine Yields.lift ?_
    split at h1
    · rename_i fs hd
      split at h1
      · rename_i fd hf
        split at h1
        · rename_i n ha hn
          cases h1
          cases u <;> first | (simp only [POp.ev] at hv; cases hv; done) | skip
          simp only [POp.ev] at hv
          split at hv
          · cases hv
            simp only [VR] at hu
            obtain ⟨ys, e', h3, h4⟩ := hu
            obtain ⟨v', h5, h6⟩ := partN_ok (P := P) (w := w) (off := fd.offset) h3 h4 ha hn
            exact ⟨v', by rw [e']; unfold Instr.field; simp only [Sem.run_bind, run_underlying hd, Result.andThen_ok, hf, asAgg, Sem.run_pure, h5], h6⟩
          · cases hv
        · rename_i n ha hn
          cases h1
          cases u <;> first | (simp only [POp.ev] at hv; cases hv; done) | skip
          simp only [POp.ev] at hv
          simp only [VR] at hu
          obtain ⟨ys, e', h3, h4⟩ := hu
          obtain ⟨v', h5, h6⟩ := part1_ok (P := P) (w := w) h3 hv ha
          exact ⟨v', by rw [e']; unfold Instr.field; simp only [Sem.run_bind, run_underlying hd, Result.andThen_ok, hf, asAgg, Sem.run_pure, h5], h6⟩
        · cases h1
      · cases h1
    · cases h1
  | indexAddr t x i =>
    obtain ⟨h1, h2⟩ := withOpds_some h
    obtain ⟨u, u', rfl, hu, hu'⟩ := len2 (opds_ok he h2 hev)
    refine Yields.lift ?_
    split at h1
    · rename_i e' hd
      split at h1
      · rename_i n hn
        split at h1
        · cases h1
          cases u' <;> first | (simp only [POp.ev] at hv; cases hv; done) | skip
          simp only [POp.ev] at hv
          split at hv
          · rename_i hc
            cases hv
            simp only [VR] at hu'
            rw [hu']
            exact at_ok hu hc hd hn
          · cases hv
        · cases h1
      · cases h1
    · rename_i len e' hd
      split at h1
      · rename_i n hn
        split at h1
        · cases h1
          cases u <;> first | (simp only [POp.ev] at hv; cases hv; done) | skip
          cases u' <;> first | (simp only [POp.ev] at hv; cases hv; done) | skip
          simp only [POp.ev] at hv
          split at hv
          · rename_i hc
            cases hv
            simp only [VR] at hu'
            rw [hu']
            exact atArr_ok hu hc hd hn
          · cases hv
        · cases h1
      · cases h1
    · cases h1
  | index t x i =>
    obtain ⟨h1, h2⟩ := withOpds_some h
    obtain ⟨u, u', rfl, hu, hu'⟩ := len2 (opds_ok he h2 hev)
    refine Yields.lift ?_
    split at h1
    · rename_i hd
      cases h1
      cases u <;> first | (simp only [POp.ev] at hv; cases hv; done) | skip
      cases u' <;> first | (simp only [POp.ev] at hv; cases hv; done) | skip
      simp only [POp.ev] at hv
      split at hv
      · rename_i h0
        split at hv
        · rename_i b hb
          cases hv
          simp only [VR] at hu hu'
          rw [hu, hu']
          exact strIdx_ok h0 hb hd
        · cases hv
      · cases hv
    · rename_i len e' hd
      split at h1
      · rename_i n ha hn
        cases h1
        cases u <;> first | (simp only [POp.ev] at hv; cases hv; done) | skip
        cases u' <;> first | (simp only [POp.ev] at hv; cases hv; done) | skip
        simp only [POp.ev] at hv
        split at hv
        · rename_i hc
          cases hv
          simp only [VR] at hu hu'
          obtain ⟨ys, e1, h3, h4⟩ := hu
          rw [e1, hu']
          obtain ⟨v', h5, h6⟩ := partN_ok (P := P) (w := w) h3 h4 ha hn
          exact ⟨v', by unfold Instr.index; simp only [asIntOf, Sem.run_bind, Sem.run_pure, run_underlying hd, Result.andThen_ok]; rw [if_pos ⟨hc.1, hc.2.1⟩]; simp only [Sem.run_bind, run_sizeOf' hn, Result.andThen_ok, h5], h6⟩
        · cases hv
      · rename_i ha hn
        cases h1
        cases u <;> first | (simp only [POp.ev] at hv; cases hv; done) | skip
        cases u' <;> first | (simp only [POp.ev] at hv; cases hv; done) | skip
        simp only [POp.ev] at hv
        split at hv
        · rename_i hc
          simp only [VR] at hu hu'
          obtain ⟨ys, e1, h3, h4⟩ := hu
          rw [e1, hu']
          obtain ⟨v', h5, h6⟩ := part1_ok (P := P) (w := w) h3 hv ha
          exact ⟨v', by unfold Instr.index; simp only [asIntOf, Sem.run_bind, Sem.run_pure, run_underlying hd, Result.andThen_ok]; rw [if_pos hc]; simp only [Sem.run_bind, run_sizeOf' hn, Result.andThen_ok, Nat.mul_one, h5], h6⟩
        · cases hv
      · cases h1
    · cases h1
  | extract t i =>
    obtain ⟨h1, h2⟩ := withOpds_some h
    cases h1
    obtain ⟨u, rfl, hu⟩ := len1 (opds_ok he h2 hev)
    cases u <;> first | (simp only [POp.ev] at hv; cases hv; done) | skip
    simp only [POp.ev] at hv
    simp only [VR] at hu
    obtain ⟨ys, e', h3⟩ := hu
    obtain ⟨v', h4, h5⟩ := h3.get i v hv
    rw [Array.getElem?_toList] at h4
    refine Yields.lift ⟨v', ?_, h5⟩
    rw [e']; unfold Instr.extract; simp only [h4]; rfl
  | call c =>
    obtain ⟨callee, args, argTypes⟩ := c
    simp only [compOp] at h
    have blt : ∀ b, withOpds (compBuiltin P b argTypes.toList) args.toList = some (.p q, xs) → callee = .builtin b → ∃ v', (do let d ← resolve a.eval ⟨callee, args, argTypes⟩ o.type; invoke d.target d.args : Sem Next).run P w = .ok (.value v') w ∧ VR K v v' := by
      intro b hw hb
      subst hb
      obtain ⟨h1, h2⟩ := withOpds_some hw
      have hvs := opds_ok he h2 hev
      have hargs : args.map a.eval = (args.toList.map a.eval).toArray := by apply Array.ext'; simp
      have hlen : vs.length = args.toList.length := by rw [hvs.length]; simp
      simp only [resolve, Sem.run_bind, Sem.run_pure, Result.andThen_ok, invoke, hargs]
      clear h hw hargs
      have two : ∀ u v' , args.toList = [u, v'] → ∃ x y, vs = [x, y] ∧ VR K x (a.eval u) ∧ VR K y (a.eval v') := fun u v' e' => by rw [e'] at hvs; exact len2 hvs
      cases b with
      | len =>
        match hts : argTypes.toList, h1 with
        | [t], h1 =>
          have hq : ∃ u, vs = [u] := by
            have : q = .lenStr ∨ q = .lenSl ∨ ∃ n, q = .lenArr n := by
              simp only [compBuiltin] at h1
              split at h1 <;> cases h1 <;> simp
            rcases vs with _ | ⟨u, _ | ⟨u', r⟩⟩
            · rcases this with rfl | rfl | ⟨n, rfl⟩ <;> (simp only [POp.ev] at hv; cases hv)
            · exact ⟨u, rfl⟩
            · rcases this with rfl | rfl | ⟨n, rfl⟩
              · cases u <;> (simp only [POp.ev] at hv; cases hv)
              · simp only [POp.ev] at hv; cases hv
              · simp only [POp.ev] at hv; cases hv
          obtain ⟨u, rfl⟩ := hq
          obtain ⟨x, e', hx⟩ := hvs.one
          rw [e']
          have hat : argTypes = [t].toArray := by apply Array.ext'; simpa using hts
          have := (len_step h1 hv hx o.type (w := w)).lift
          rw [hat]
          exact this
      | min =>
        match hts : argTypes.toList, h1 with
        | [t, t'], h1 =>
          cases h1
          simp only [POp.ev] at hv
          unfold minEv at hv
          split at hv
          · split at hv
            · rename_i hk; subst hk; cases hv
              obtain ⟨x, y, e', hx, hy⟩ := hvs.two
              simp only [VR] at hx hy
              rw [e', hx, hy]
              exact ⟨_, lift_v min_run, by simp only [VR]⟩
            · cases hv
          · cases hv
      | max =>
        match hts : argTypes.toList, h1 with
        | [t, t'], h1 =>
          cases h1
          simp only [POp.ev] at hv
          unfold maxEv at hv
          split at hv
          · split at hv
            · rename_i hk; subst hk; cases hv
              obtain ⟨x, y, e', hx, hy⟩ := hvs.two
              simp only [VR] at hx hy
              rw [e', hx, hy]
              exact ⟨_, lift_v max_run, by simp only [VR]⟩
            · cases hv
          · cases hv
      | append =>
        match hts : argTypes.toList, h1 with
        | [t, t'], h1 =>
          simp only [compBuiltin] at h1
          (repeat' split at h1) <;> cases h1
      | copy =>
        match hts : argTypes.toList, h1 with
        | [t, t'], h1 =>
          simp only [compBuiltin] at h1
          (repeat' split at h1) <;> cases h1
      | _ => simp only [compBuiltin] at h1; cases h1
    split at h
    · rename_i hc
      split at h
      · obtain ⟨h1, h2⟩ := withOpds_some h; cases h1
      · exact blt _ h rfl
    · exact blt _ h rfl
    · obtain ⟨h1, h2⟩ := withOpds_some h; cases h1
    · obtain ⟨h1, h2⟩ := withOpds_some h; cases h1
    · cases h
  | alloc t =>
    obtain ⟨h1, h2⟩ := withOpds_some h
    (repeat' split at h1) <;> cases h1
  | box t x => obtain ⟨h1, h2⟩ := withOpds_some h; cases h1
  | buildSlice t len ps =>
    obtain ⟨h1, h2⟩ := withOpds_some h
    (repeat' split at h1) <;> cases h1
  | load t x =>
    obtain ⟨h1, h2⟩ := withOpds_some h
    (repeat' split at h1) <;> cases h1
  | store t x y =>
    obtain ⟨h1, h2⟩ := withOpds_some h
    (repeat' split at h1) <;> cases h1
  | makeMap t r =>
    cases r with
    | none => simp only [compOp] at h; obtain ⟨h1, h2⟩ := withOpds_some h; cases h1
    | some x => cases h
  | makeSlice t l c =>
    obtain ⟨h1, h2⟩ := withOpds_some h
    (repeat' split at h1) <;> cases h1
  | lookup t x i ok =>
    obtain ⟨h1, h2⟩ := withOpds_some h
    (repeat' split at h1) <;> cases h1
  | mapUpdate t m k x =>
    obtain ⟨h1, h2⟩ := withOpds_some h
    (repeat' split at h1) <;> cases h1
  | insert t m k x =>
    obtain ⟨h1, h2⟩ := withOpds_some h
    (repeat' split at h1) <;> cases h1
  | range t x =>
    obtain ⟨h1, h2⟩ := withOpds_some h
    (repeat' split at h1) <;> cases h1
  | next it s =>
    cases s with
    | true => obtain ⟨h1, h2⟩ := withOpds_some h; cases h1
    | false => cases h
  | _ => cases h
end
end Go.Am
