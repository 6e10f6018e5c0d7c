/- Pure functions, and that the machine's functions answer as they do. No condition. Own work. -/
import Derived.Test.YtgbkpiaonlabgaaSLoopsTail
import Derived.Test.YtgbkpiaonlabgaaTLoopsTail
/- Pure functions, and that the machine's functions answer as they do; printed by a program of mine (pm.py). Own work. -/
namespace Go.Proofs.Ytgbkpiaonlabgaa
open Go Go.Am
set_option linter.unusedVariables false
set_option linter.unusedSimpArgs false
/-! 16: marblerun/marblerunlaw15.few -/
noncomputable def p16_j0 (b103 : Bool) : Option Bool := some b103
noncomputable def p16 (d0 : TDraft) : Option Bool := if (d0.Tokens.length : Int) ≤ (60 : Int) then (p16_j0 (decide ((d0.Acts.length : Int) ≤ (12 : Int)))) else (p16_j0 false)
theorem r16 {h : Heap} {a0_0 : AV} {a0_1 : AV} {d0 : TDraft} (f0_0 : SlR (rI .u8) (Snap h) a0_0 d0.Tokens) (f0_1 : SlR rAct (Snap h) a0_1 d0.Acts) {r : Bool} (hf : p16 d0 = some r) : ZCalls F 16 [(.agg [a0_0, a0_1])] h fun v h' => v = .bool r ∧ St h none' [] h' := by
  refine w16 ?_
  unfold W16
  unfold p16 at hf
  have S : St h none' [] h := St.refl _ _
  intro h101
  have S : St h none' [rowC h.n [a0_0, a0_1] 0] h101 := S.pushRow [a0_0, a0_1]
  refine ⟨a0_0, S.rd1 (.head _) rfl, ?_⟩
  refine ifP_iff.2 ⟨(f0_0).is, ?_⟩
  try rw [(f0_0).slen]
  intro jjj0
  have hjj0 : ∀ (b103 : Bool) (h104 : Heap), p16_j0 b103 = some r → h101 = h104 → St h none' [] h101 → jjj0 b103 h104 := by
    rintro b103 h104 hf rfl S
    unfold p16_j0 at hf
    unfold jjj0
    obtain rfl := Option.some.inj hf
    exact ⟨rfl, S.sel [] rfl⟩
  refine bP_intro (fun hc => ?_) (fun hc => ?_)
  · rw [if_pos (show (d0.Tokens.length : Int) ≤ (60 : Int) from of_decide_eq_true hc)] at hf
    refine ⟨a0_1, S.rd1 (.head _) rfl, ?_⟩
    refine ifP_iff.2 ⟨(f0_1).is, ?_⟩
    try rw [(f0_1).slen]
    have S : St h none' [] h101 := S.sel [] rfl
    exact hjj0 _ _  hf rfl S
  · rw [if_neg (show ¬ ((d0.Tokens.length : Int) ≤ (60 : Int)) from of_decide_eq_false hc)] at hf
    have S : St h none' [] h101 := S.sel [] rfl
    exact hjj0 _ _  hf rfl S
/-! 18: marblerun/marblerunref14.Gives -/
noncomputable def p18_l0 (t0 : TTrans) (place1 : Int) (i106 : Int) : Option (Int ⊕ (Unit ⊕ Unit)) := if i106 < (t0.Out.length : Int) then ((idx t0.Out i106).bind fun e125 => if e125.Place = place1 then (some (.inr (.inl ()))) else (some (.inl (IntKind.wrap .i64 (i106 + (1 : Int)))))) else (some (.inr (.inr ())))
noncomputable def p18 (t0 : TTrans) (place1 : Int) : Option Bool := (loopC (p18_l0 t0 place1) (0 : Int)).bind fun res121 => (match res121 with | .inl _ => some true | .inr _ => some false)
theorem r18 {h : Heap} {a0_3 : AV} {a0_4 : AV} {a0_5 : AV} {t0 : TTrans} {place1 : Int} (f0_3 : SlR rArc (Snap h) a0_3 t0.In) (f0_4 : SlR rArc (Snap h) a0_4 t0.Not) (f0_5 : SlR rArc (Snap h) a0_5 t0.Out) {r : Bool} (hf : p18 t0 place1 = some r) : ZCalls F 18 [(.agg [(.str t0.Name), (.int .i64 t0.Delay), (.int .i64 t0.Prio), a0_3, a0_4, a0_5]), (.int .i64 place1)] h fun v h' => v = .bool r ∧ St h none' [] h' := by
  refine w18 ?_
  unfold W18
  unfold p18 at hf
  have S : St h none' [] h := St.refl _ _
  intro h101
  have S : St h none' [rowC h.n [(.str t0.Name), (.int .i64 t0.Delay), (.int .i64 t0.Prio), a0_3, a0_4, a0_5] 0] h101 := S.pushRow [(.str t0.Name), (.int .i64 t0.Delay), (.int .i64 t0.Prio), a0_3, a0_4, a0_5]
  obtain ⟨res121, hL, hf⟩ := obind hf
  obtain ⟨n122, hL⟩ := loopC_iff.1 hL
  refine loopm18_0 (R := fun (place111 : Int) (t112 : AV) (y113 : Bool) (i114 : Int) (h115 : Heap) => true = y113 ∧ St h none' [] h115 ∧ (.inl ()) = res121) (X0 := fun (place116 : Int) (t117 : AV) (y118 : Bool) (i119 : Int) (h120 : Heap) => St h none' [] h120 ∧ (.inr ()) = res121) ?_ ?_ (loop18_0 (I := fun (m124 : Nat) (place103 : Int) (t104 : AV) (y105 : Bool) (i106 : Int) (h107 : Heap) => place1 = place103 ∧ AV.ptr h.n 0 0 = t104 ∧ St h none' [rowC h.n [(.str t0.Name), (.int .i64 t0.Delay), (.int .i64 t0.Prio), a0_3, a0_4, a0_5] 0] h107 ∧ iter (p18_l0 t0 place1) m124 i106 = some res121) ?_ (m := n122) ?_)
  · rintro place111 t112 y113 i114 h115 ⟨rfl, S, rfl⟩
    try dsimp only at hf
    obtain rfl := Option.some.inj hf
    exact ⟨rfl, S.sel [] rfl⟩
  · rintro place116 t117 y118 i119 h120 ⟨S, rfl⟩
    try dsimp only at hf
    obtain rfl := Option.some.inj hf
    exact ⟨rfl, S.sel [] rfl⟩
  · rintro m1240 place103 t104 y105 i106 h107 ⟨rfl, rfl, S, hit⟩
    obtain ⟨m124, q123, rfl, hf, hk⟩ := iter_some hit
    clear hit
    unfold B18_0
    unfold p18_l0 at hf
    try dsimp only at hf
    refine ifP_iff.2 ⟨rfl, ?_⟩
    refine ⟨a0_5, S.rd1 (.head _) rfl, ?_⟩
    refine ifP_iff.2 ⟨(f0_5).is, ?_⟩
    try rw [(f0_5).slen]
    refine bP_intro (fun hc => ?_) (fun hc => ?_)
    · rw [if_pos (show i106 < (t0.Out.length : Int) from of_decide_eq_true hc)] at hf
      refine ifP_iff.2 ⟨rfl, ?_⟩
      refine ⟨a0_5, S.rd1 (.head _) rfl, ?_⟩
      obtain ⟨e125, he125, hf⟩ := obind hf
      obtain ⟨qe125, q0e125, q1e125⟩ := SlR.ix f0_5 he125
      have pe125 := (SlR.idx f0_5 (snap_mono S.le) he125).1
      refine ifP_iff.2 ⟨qe125, q0e125, (by first | exact q1e125 | exact (idx_lt he125).2), ?_⟩
      refine ifP_iff.2 ⟨pe125, ?_⟩
      obtain ⟨_, cr126, Rr126, Nr126, Or126, Zr126⟩ := SlR.idx f0_5 (snap_mono S.le) he125
      obtain rfl := rArc_open Rr126
      refine ⟨e125.Place, Or126 0 _ rfl, ?_⟩
      refine bP_intro (fun hc => ?_) (fun hc => ?_)
      · rw [if_pos (show e125.Place = place1 from of_decide_eq_true hc)] at hf
        have S : St h none' [] h107 := S.sel [] rfl
        obtain rfl := Option.some.inj hf
        obtain rfl := hk
        exact ⟨rfl, S, rfl⟩
      · rw [if_neg (show ¬ (e125.Place = place1) from of_decide_eq_false hc)] at hf
        obtain rfl := Option.some.inj hf
        exact ⟨m124, Nat.lt_succ_self _, rfl, rfl, S, hk⟩
    · rw [if_neg (show ¬ (i106 < (t0.Out.length : Int)) from of_decide_eq_false hc)] at hf
      have S : St h none' [] h107 := S.sel [] rfl
      obtain rfl := Option.some.inj hf
      obtain rfl := hk
      exact ⟨S, rfl⟩
  · exact ⟨rfl, rfl, S, hL⟩
/-! 19: marblerun/marblerunlaw15.takes -/
noncomputable def p19_l0 (t0 : TTrans) (place1 : Int) (i106 : Int) : Option (Int ⊕ (Unit ⊕ Unit)) := if i106 < (t0.In.length : Int) then ((idx t0.In i106).bind fun e125 => if e125.Place = place1 then (some (.inr (.inl ()))) else (some (.inl (IntKind.wrap .i64 (i106 + (1 : Int)))))) else (some (.inr (.inr ())))
noncomputable def p19 (t0 : TTrans) (place1 : Int) : Option Bool := (loopC (p19_l0 t0 place1) (0 : Int)).bind fun res121 => (match res121 with | .inl _ => some true | .inr _ => some false)
theorem r19 {h : Heap} {a0_3 : AV} {a0_4 : AV} {a0_5 : AV} {t0 : TTrans} {place1 : Int} (f0_3 : SlR rArc (Snap h) a0_3 t0.In) (f0_4 : SlR rArc (Snap h) a0_4 t0.Not) (f0_5 : SlR rArc (Snap h) a0_5 t0.Out) {r : Bool} (hf : p19 t0 place1 = some r) : ZCalls F 19 [(.agg [(.str t0.Name), (.int .i64 t0.Delay), (.int .i64 t0.Prio), a0_3, a0_4, a0_5]), (.int .i64 place1)] h fun v h' => v = .bool r ∧ St h none' [] h' := by
  refine w19 ?_
  unfold W19
  unfold p19 at hf
  have S : St h none' [] h := St.refl _ _
  intro h101
  have S : St h none' [rowC h.n [(.str t0.Name), (.int .i64 t0.Delay), (.int .i64 t0.Prio), a0_3, a0_4, a0_5] 0] h101 := S.pushRow [(.str t0.Name), (.int .i64 t0.Delay), (.int .i64 t0.Prio), a0_3, a0_4, a0_5]
  obtain ⟨res121, hL, hf⟩ := obind hf
  obtain ⟨n122, hL⟩ := loopC_iff.1 hL
  refine loopm19_0 (R := fun (place111 : Int) (t112 : AV) (y113 : Bool) (i114 : Int) (h115 : Heap) => true = y113 ∧ St h none' [] h115 ∧ (.inl ()) = res121) (X0 := fun (place116 : Int) (t117 : AV) (y118 : Bool) (i119 : Int) (h120 : Heap) => St h none' [] h120 ∧ (.inr ()) = res121) ?_ ?_ (loop19_0 (I := fun (m124 : Nat) (place103 : Int) (t104 : AV) (y105 : Bool) (i106 : Int) (h107 : Heap) => place1 = place103 ∧ AV.ptr h.n 0 0 = t104 ∧ St h none' [rowC h.n [(.str t0.Name), (.int .i64 t0.Delay), (.int .i64 t0.Prio), a0_3, a0_4, a0_5] 0] h107 ∧ iter (p19_l0 t0 place1) m124 i106 = some res121) ?_ (m := n122) ?_)
  · rintro place111 t112 y113 i114 h115 ⟨rfl, S, rfl⟩
    try dsimp only at hf
    obtain rfl := Option.some.inj hf
    exact ⟨rfl, S.sel [] rfl⟩
  · rintro place116 t117 y118 i119 h120 ⟨S, rfl⟩
    try dsimp only at hf
    obtain rfl := Option.some.inj hf
    exact ⟨rfl, S.sel [] rfl⟩
  · rintro m1240 place103 t104 y105 i106 h107 ⟨rfl, rfl, S, hit⟩
    obtain ⟨m124, q123, rfl, hf, hk⟩ := iter_some hit
    clear hit
    unfold B19_0
    unfold p19_l0 at hf
    try dsimp only at hf
    refine ifP_iff.2 ⟨rfl, ?_⟩
    refine ⟨a0_3, S.rd1 (.head _) rfl, ?_⟩
    refine ifP_iff.2 ⟨(f0_3).is, ?_⟩
    try rw [(f0_3).slen]
    refine bP_intro (fun hc => ?_) (fun hc => ?_)
    · rw [if_pos (show i106 < (t0.In.length : Int) from of_decide_eq_true hc)] at hf
      refine ifP_iff.2 ⟨rfl, ?_⟩
      refine ⟨a0_3, S.rd1 (.head _) rfl, ?_⟩
      obtain ⟨e125, he125, hf⟩ := obind hf
      obtain ⟨qe125, q0e125, q1e125⟩ := SlR.ix f0_3 he125
      have pe125 := (SlR.idx f0_3 (snap_mono S.le) he125).1
      refine ifP_iff.2 ⟨qe125, q0e125, (by first | exact q1e125 | exact (idx_lt he125).2), ?_⟩
      refine ifP_iff.2 ⟨pe125, ?_⟩
      obtain ⟨_, cr126, Rr126, Nr126, Or126, Zr126⟩ := SlR.idx f0_3 (snap_mono S.le) he125
      obtain rfl := rArc_open Rr126
      refine ⟨e125.Place, Or126 0 _ rfl, ?_⟩
      refine bP_intro (fun hc => ?_) (fun hc => ?_)
      · rw [if_pos (show e125.Place = place1 from of_decide_eq_true hc)] at hf
        have S : St h none' [] h107 := S.sel [] rfl
        obtain rfl := Option.some.inj hf
        obtain rfl := hk
        exact ⟨rfl, S, rfl⟩
      · rw [if_neg (show ¬ (e125.Place = place1) from of_decide_eq_false hc)] at hf
        obtain rfl := Option.some.inj hf
        exact ⟨m124, Nat.lt_succ_self _, rfl, rfl, S, hk⟩
    · rw [if_neg (show ¬ (i106 < (t0.In.length : Int)) from of_decide_eq_false hc)] at hf
      have S : St h none' [] h107 := S.sel [] rfl
      obtain rfl := Option.some.inj hf
      obtain rfl := hk
      exact ⟨S, rfl⟩
  · exact ⟨rfl, rfl, S, hL⟩
/-! 41: marblerun/marblerunref01.SameInts -/
noncomputable def p41_l0 (a0 : List Int) (b1 : List Int) (i104 : Int) : Option (Int ⊕ (Unit ⊕ Unit)) := if i104 < (a0.length : Int) then ((idx a0 i104).bind fun e125 => (idx b1 i104).bind fun e127 => if (!decide (e125 = e127)) = true then (some (.inr (.inl ()))) else (some (.inl (IntKind.wrap .i64 (i104 + (1 : Int)))))) else (some (.inr (.inr ())))
noncomputable def p41 (a0 : List Int) (b1 : List Int) : Option Bool := if (!decide ((a0.length : Int) = (b1.length : Int))) = true then (some false) else ((loopC (p41_l0 a0 b1) (0 : Int)).bind fun res121 => (match res121 with | .inl _ => some false | .inr _ => some true))
theorem r41 {h : Heap} {a0_0 : AV} {a1_0 : AV} {a0 : List Int} {b1 : List Int} (f0_0 : SlR (rI .i64) (Snap h) a0_0 a0) (f1_0 : SlR (rI .i64) (Snap h) a1_0 b1) {r : Bool} (hf : p41 a0 b1 = some r) : ZCalls F 41 [a0_0, a1_0] h fun v h' => v = .bool r ∧ St h none' [] h' := by
  refine w41 ?_
  unfold W41
  unfold p41 at hf
  have S : St h none' [] h := St.refl _ _
  refine ifP_iff.2 ⟨(f0_0).is, ?_⟩
  try rw [(f0_0).slen]
  refine ifP_iff.2 ⟨(f1_0).is, ?_⟩
  try rw [(f1_0).slen]
  refine bP_intro (fun hc => ?_) (fun hc => ?_)
  · rw [if_pos (show (!decide ((a0.length : Int) = (b1.length : Int))) = true from hc)] at hf
    obtain rfl := Option.some.inj hf
    exact ⟨rfl, S.sel [] rfl⟩
  · rw [if_neg (show ¬ ((!decide ((a0.length : Int) = (b1.length : Int))) = true) from by rw [show (!decide ((a0.length : Int) = (b1.length : Int))) = false from hc]; exact Bool.false_ne_true)] at hf
    obtain ⟨res121, hL, hf⟩ := obind hf
    obtain ⟨n122, hL⟩ := loopC_iff.1 hL
    refine loopm41_0 (R := fun (a111 : AV) (b112 : AV) (y113 : Bool) (i114 : Int) (h115 : Heap) => false = y113 ∧ St h none' [] h115 ∧ (.inl ()) = res121) (X0 := fun (a116 : AV) (b117 : AV) (y118 : Bool) (i119 : Int) (h120 : Heap) => St h none' [] h120 ∧ (.inr ()) = res121) ?_ ?_ (loop41_0 (I := fun (m124 : Nat) (a101 : AV) (b102 : AV) (y103 : Bool) (i104 : Int) (h105 : Heap) => a0_0 = a101 ∧ a1_0 = b102 ∧ St h none' [] h105 ∧ iter (p41_l0 a0 b1) m124 i104 = some res121) ?_ (m := n122) ?_)
    · rintro a111 b112 y113 i114 h115 ⟨rfl, S, rfl⟩
      try dsimp only at hf
      obtain rfl := Option.some.inj hf
      exact ⟨rfl, S.sel [] rfl⟩
    · rintro a116 b117 y118 i119 h120 ⟨S, rfl⟩
      try dsimp only at hf
      obtain rfl := Option.some.inj hf
      exact ⟨rfl, S.sel [] rfl⟩
    · rintro m1240 a101 b102 y103 i104 h105 ⟨rfl, rfl, S, hit⟩
      obtain ⟨m124, q123, rfl, hf, hk⟩ := iter_some hit
      clear hit
      unfold B41_0
      unfold p41_l0 at hf
      try dsimp only at hf
      refine ifP_iff.2 ⟨(f0_0).is, ?_⟩
      try rw [(f0_0).slen]
      refine bP_intro (fun hc => ?_) (fun hc => ?_)
      · rw [if_pos (show i104 < (a0.length : Int) from of_decide_eq_true hc)] at hf
        obtain ⟨e125, he125, hf⟩ := obind hf
        obtain ⟨qe125, q0e125, q1e125⟩ := SlR.ix f0_0 he125
        have pe125 := (SlR.idx f0_0 (snap_mono S.le) he125).1
        refine ifP_iff.2 ⟨qe125, q0e125, (by first | exact q1e125 | exact (idx_lt he125).2), ?_⟩
        obtain ⟨_, cr126, Rr126, Nr126, Or126, Zr126⟩ := SlR.idx f0_0 (snap_mono S.le) he125
        obtain rfl : cr126 = [(.int .i64 e125)] := Rr126
        refine ⟨e125, Zr126 _ rfl, ?_⟩
        obtain ⟨e127, he127, hf⟩ := obind hf
        obtain ⟨qe127, q0e127, q1e127⟩ := SlR.ix f1_0 he127
        have pe127 := (SlR.idx f1_0 (snap_mono S.le) he127).1
        refine ifP_iff.2 ⟨qe127, q0e127, (by first | exact q1e127 | exact (idx_lt he127).2), ?_⟩
        obtain ⟨_, cr128, Rr128, Nr128, Or128, Zr128⟩ := SlR.idx f1_0 (snap_mono S.le) he127
        obtain rfl : cr128 = [(.int .i64 e127)] := Rr128
        refine ⟨e127, Zr128 _ rfl, ?_⟩
        refine bP_intro (fun hc => ?_) (fun hc => ?_)
        · rw [if_pos (show (!decide (e125 = e127)) = true from hc)] at hf
          obtain rfl := Option.some.inj hf
          obtain rfl := hk
          exact ⟨rfl, S, rfl⟩
        · rw [if_neg (show ¬ ((!decide (e125 = e127)) = true) from by rw [show (!decide (e125 = e127)) = false from hc]; exact Bool.false_ne_true)] at hf
          obtain rfl := Option.some.inj hf
          exact ⟨m124, Nat.lt_succ_self _, rfl, rfl, S, hk⟩
      · rw [if_neg (show ¬ (i104 < (a0.length : Int)) from of_decide_eq_false hc)] at hf
        obtain rfl := Option.some.inj hf
        obtain rfl := hk
        exact ⟨S, rfl⟩
    · exact ⟨rfl, rfl, S, hL⟩
/-! 21: marblerun/marblerunref01.Same -/
noncomputable def p21_l0 (a0 : List (List Int)) (b1 : List (List Int)) (i104 : Int) : Option (Int ⊕ (Unit ⊕ Unit)) := if i104 < (a0.length : Int) then ((idx a0 i104).bind fun e128 => (idx b1 i104).bind fun e130 => (p41 e128 e130).bind fun y134 => if (!y134) = true then (some (.inr (.inl ()))) else (some (.inl (IntKind.wrap .i64 (i104 + (1 : Int)))))) else (some (.inr (.inr ())))
noncomputable def p21 (a0 : List (List Int)) (b1 : List (List Int)) : Option Bool := if (!decide ((a0.length : Int) = (b1.length : Int))) = true then (some false) else ((loopC (p21_l0 a0 b1) (0 : Int)).bind fun res124 => (match res124 with | .inl _ => some false | .inr _ => some true))
theorem r21 {h : Heap} {a0_0 : AV} {a1_0 : AV} {a0 : List (List Int)} {b1 : List (List Int)} (f0_0 : SlR (rSl (rI .i64)) (Snap h) a0_0 a0) (f1_0 : SlR (rSl (rI .i64)) (Snap h) a1_0 b1) {r : Bool} (hf : p21 a0 b1 = some r) : ZCalls F 21 [a0_0, a1_0] h fun v h' => v = .bool r ∧ St h none' [] h' := by
  refine w21 ?_
  unfold W21
  unfold p21 at hf
  have S : St h none' [] h := St.refl _ _
  refine ifP_iff.2 ⟨(f0_0).is, ?_⟩
  try rw [(f0_0).slen]
  refine ifP_iff.2 ⟨(f1_0).is, ?_⟩
  try rw [(f1_0).slen]
  refine bP_intro (fun hc => ?_) (fun hc => ?_)
  · rw [if_pos (show (!decide ((a0.length : Int) = (b1.length : Int))) = true from hc)] at hf
    obtain rfl := Option.some.inj hf
    exact ⟨rfl, S.sel [] rfl⟩
  · rw [if_neg (show ¬ ((!decide ((a0.length : Int) = (b1.length : Int))) = true) from by rw [show (!decide ((a0.length : Int) = (b1.length : Int))) = false from hc]; exact Bool.false_ne_true)] at hf
    obtain ⟨res124, hL, hf⟩ := obind hf
    obtain ⟨n125, hL⟩ := loopC_iff.1 hL
    refine loopm21_0 (R := fun (a114 : AV) (b115 : AV) (y116 : Bool) (i117 : Int) (h118 : Heap) => false = y116 ∧ St h none' [] h118 ∧ (.inl ()) = res124) (X0 := fun (a119 : AV) (b120 : AV) (y121 : Bool) (i122 : Int) (h123 : Heap) => St h none' [] h123 ∧ (.inr ()) = res124) ?_ ?_ (loop21_0 (I := fun (m127 : Nat) (a101 : AV) (b102 : AV) (y103 : Bool) (i104 : Int) (h105 : Heap) => a0_0 = a101 ∧ a1_0 = b102 ∧ St h none' [] h105 ∧ iter (p21_l0 a0 b1) m127 i104 = some res124) ?_ (m := n125) ?_)
    · rintro a114 b115 y116 i117 h118 ⟨rfl, S, rfl⟩
      try dsimp only at hf
      obtain rfl := Option.some.inj hf
      exact ⟨rfl, S.sel [] rfl⟩
    · rintro a119 b120 y121 i122 h123 ⟨S, rfl⟩
      try dsimp only at hf
      obtain rfl := Option.some.inj hf
      exact ⟨rfl, S.sel [] rfl⟩
    · rintro m1270 a101 b102 y103 i104 h105 ⟨rfl, rfl, S, hit⟩
      obtain ⟨m127, q126, rfl, hf, hk⟩ := iter_some hit
      clear hit
      unfold B21_0
      unfold p21_l0 at hf
      try dsimp only at hf
      refine ifP_iff.2 ⟨(f0_0).is, ?_⟩
      try rw [(f0_0).slen]
      refine bP_intro (fun hc => ?_) (fun hc => ?_)
      · rw [if_pos (show i104 < (a0.length : Int) from of_decide_eq_true hc)] at hf
        obtain ⟨e128, he128, hf⟩ := obind hf
        obtain ⟨qe128, q0e128, q1e128⟩ := SlR.ix f0_0 he128
        have pe128 := (SlR.idx f0_0 (snap_mono S.le) he128).1
        refine ifP_iff.2 ⟨qe128, q0e128, (by first | exact q1e128 | exact (idx_lt he128).2), ?_⟩
        obtain ⟨_, cr129, Rr129, Nr129, Or129, Zr129⟩ := SlR.idx f0_0 (snap_mono S.le) he128
        obtain ⟨cr129, rfl, Fr129⟩ := Rr129
        refine ⟨cr129, Zr129 _ rfl, ?_⟩
        obtain ⟨e130, he130, hf⟩ := obind hf
        obtain ⟨qe130, q0e130, q1e130⟩ := SlR.ix f1_0 he130
        have pe130 := (SlR.idx f1_0 (snap_mono S.le) he130).1
        refine ifP_iff.2 ⟨qe130, q0e130, (by first | exact q1e130 | exact (idx_lt he130).2), ?_⟩
        obtain ⟨_, cr131, Rr131, Nr131, Or131, Zr131⟩ := SlR.idx f1_0 (snap_mono S.le) he130
        obtain ⟨cr131, rfl, Fr131⟩ := Rr131
        refine ⟨cr131, Zr131 _ rfl, ?_⟩
        obtain ⟨y134, hy134, hf⟩ := obind hf
        refine ⟨_, Fz.refl _, ?_⟩
        refine (r41 (a0 := e128) (b1 := e130) (f0_0 := (SlR.mono (snap_mono S.le) Fr129)) (f1_0 := (SlR.mono (snap_mono S.le) Fr131)) hy134).mono fun v132 h133 T => ?_
        obtain ⟨rfl, T⟩ := T
        have S : St h none' [] h133 := S.comp T
        refine ⟨y134, rfl, ?_⟩
        refine bP_intro (fun hc => ?_) (fun hc => ?_)
        · rw [if_pos (show (!y134) = true from hc)] at hf
          obtain rfl := Option.some.inj hf
          obtain rfl := hk
          exact ⟨rfl, S, rfl⟩
        · rw [if_neg (show ¬ ((!y134) = true) from by rw [show (!y134) = false from hc]; exact Bool.false_ne_true)] at hf
          obtain rfl := Option.some.inj hf
          exact ⟨m127, Nat.lt_succ_self _, rfl, rfl, S, hk⟩
      · rw [if_neg (show ¬ (i104 < (a0.length : Int)) from of_decide_eq_false hc)] at hf
        obtain rfl := Option.some.inj hf
        obtain rfl := hk
        exact ⟨S, rfl⟩
    · exact ⟨rfl, rfl, S, hL⟩
/-! 39: marblerun/marblerunref05.put -/
noncomputable def p39_l0 (l0 : List TArc) (place1 : Int) (i106 : Int) : Option (Int ⊕ (Unit ⊕ Unit)) := if i106 < (l0.length : Int) then ((idx l0 i106).bind fun e127 => if e127.Place = place1 then (some (.inr (.inl ()))) else (some (.inl (IntKind.wrap .i64 (i106 + (1 : Int)))))) else (some (.inr (.inr ())))
noncomputable def p39 (l0 : List TArc) (place1 : Int) (n2 : Int) : Option (List TArc) := (loopC (p39_l0 l0 place1) (0 : Int)).bind fun res123 => (match res123 with | .inl _ => some l0 | .inr _ => (app 16 l0 [(TArc.mk place1 n2)]).bind fun l133 => some l133)
theorem r39 {h : Heap} {a0_0 : AV} {M : Nat → Prop} {l0 : List TArc} {place1 : Int} {n2 : Int} (S : St h M [own (oSl (fz rArc)) [a0_0] l0] h) {r : List TArc} (hf : p39 l0 place1 n2 = some r) : ZCalls F 39 [a0_0, (.int .i64 place1), (.int .i64 n2)] h fun v h' => St h M [own (oSl (fz rArc)) [v] r] h' := by
  refine w39 ?_
  unfold W39
  unfold p39 at hf
  obtain ⟨res123, hL, hf⟩ := obind hf
  obtain ⟨n124, hL⟩ := loopC_iff.1 hL
  refine loopm39_0 (R := fun (l111 : AV) (place112 : Int) (n113 : Int) (y114 : AV) (i115 : Int) (h116 : Heap) => a0_0 = y114 ∧ St h M [own (oSl (fz rArc)) [a0_0] l0] h116 ∧ (.inl ()) = res123) (X0 := fun (l117 : AV) (place118 : Int) (n119 : Int) (y120 : AV) (i121 : Int) (h122 : Heap) => a0_0 = l117 ∧ place1 = place118 ∧ n2 = n119 ∧ St h M [own (oSl (fz rArc)) [a0_0] l0] h122 ∧ (.inr ()) = res123) ?_ ?_ (loop39_0 (I := fun (m126 : Nat) (l102 : AV) (place103 : Int) (n104 : Int) (y105 : AV) (i106 : Int) (h107 : Heap) => a0_0 = l102 ∧ place1 = place103 ∧ n2 = n104 ∧ St h M [own (oSl (fz rArc)) [a0_0] l0] h107 ∧ iter (p39_l0 l0 place1) m126 i106 = some res123) ?_ (m := n124) ?_)
  · rintro l111 place112 n113 y114 i115 h116 ⟨rfl, S, rfl⟩
    try dsimp only at hf
    obtain rfl := Option.some.inj hf
    exact S.sel [0] rfl
  · rintro l117 place118 n119 y120 i121 h122 ⟨rfl, rfl, rfl, S, rfl⟩
    try dsimp only at hf
    intro h129
    have S : St h M [rowC h122.n [(.int .i64 place1), (.int .i64 n2)] 0, own (oSl (fz rArc)) [a0_0] l0] h129 := S.pushRow [(.int .i64 place1), (.int .i64 n2)]
    obtain ⟨l133, hl133, hf⟩ := obind hf
    have S : St h M [own (fz rArc) [(.int .i64 place1), (.int .i64 n2)] (TArc.mk place1 n2), rowC h122.n [(.int .i64 place1), (.int .i64 n2)] 0, own (oSl (fz rArc)) [a0_0] l0] h129 := S.add (r := rArc) (x := (TArc.mk place1 n2)) (rArc_mk (x := (TArc.mk place1 n2)))
    have S : St h M [own (oSl (fz rArc)) [a0_0] l0, own (fz rArc) [(.int .i64 place1), (.int .i64 n2)] (TArc.mk place1 n2), rowC h122.n [(.int .i64 place1), (.int .i64 n2)] 0] h129 := S.sel [2, 0, 1] rfl
    have ml133 := app_some hl133
    obtain ⟨v132, h131, e134, S⟩ := St.app1R (r := (fz rArc)) (b := 16) S ml133.1
    have S : St h M [own (oSl (fz rArc)) [v132] l133] h131 := S.cast (by rw [← ml133.2] <;> rfl)
    refine ⟨v132, h131, e134, ?_⟩
    obtain rfl := Option.some.inj hf
    exact S.sel [0] rfl
  · rintro m1260 l102 place103 n104 y105 i106 h107 ⟨rfl, rfl, rfl, S, hit⟩
    obtain ⟨m126, q125, rfl, hf, hk⟩ := iter_some hit
    clear hit
    unfold B39_0
    unfold p39_l0 at hf
    try dsimp only at hf
    refine ifP_iff.2 ⟨((S.sl (r := (fz rArc)) (.head _))).is, ?_⟩
    try rw [((S.sl (r := (fz rArc)) (.head _))).slen]
    refine bP_intro (fun hc => ?_) (fun hc => ?_)
    · rw [if_pos (show i106 < (l0.length : Int) from of_decide_eq_true hc)] at hf
      obtain ⟨e127, he127, hf⟩ := obind hf
      obtain ⟨qe127, q0e127, q1e127⟩ := SlR.ix (S.sl (r := (fz rArc)) (.head _)) he127
      have pe127 := (SlR.idx (S.sl (r := (fz rArc)) (.head _)) (Hp.le_refl _) he127).1
      refine ifP_iff.2 ⟨qe127, q0e127, (by first | exact q1e127 | exact (idx_lt he127).2), ?_⟩
      refine ifP_iff.2 ⟨pe127, ?_⟩
      obtain ⟨_, cr128, Rr128, Nr128, Or128, Zr128⟩ := St.idxO (r := rArc) S (.head _) he127
      obtain rfl := rArc_open Rr128
      refine ⟨e127.Place, Or128 0 _ rfl, ?_⟩
      refine bP_intro (fun hc => ?_) (fun hc => ?_)
      · rw [if_pos (show e127.Place = place1 from of_decide_eq_true hc)] at hf
        obtain rfl := Option.some.inj hf
        obtain rfl := hk
        exact ⟨rfl, S, rfl⟩
      · rw [if_neg (show ¬ (e127.Place = place1) from of_decide_eq_false hc)] at hf
        obtain rfl := Option.some.inj hf
        exact ⟨m126, Nat.lt_succ_self _, rfl, rfl, rfl, S, hk⟩
    · rw [if_neg (show ¬ (i106 < (l0.length : Int)) from of_decide_eq_false hc)] at hf
      obtain rfl := Option.some.inj hf
      obtain rfl := hk
      exact ⟨rfl, rfl, rfl, S, rfl⟩
  · exact ⟨rfl, rfl, rfl, S, hL⟩
/-! 40: marblerun/loops.comes -/
noncomputable def p40_j0 (next0 : List (List Int)) (seen148 : List Bool) (e199 : Int) (y201 : List Int) (b206 : Bool) : Option (((List Bool) × (List Int)) ⊕ (Unit ⊕ Unit)) := if b206 = true then ((idx seen148 e199).bind fun e214 => (some (seen148.set (e199 : Int).toNat true)).bind fun seen217 => (idx next0 e199).bind fun e218 => (app 8 y201 e218).bind fun y222 => some (.inl (seen217, y222))) else (some (.inl (seen148, y201)))
noncomputable def p40_l0 (next0 : List (List Int)) (n1 : TNet) (from2 : Int) (st : (List Bool) × (List Int)) : Option (((List Bool) × (List Int)) ⊕ (Unit ⊕ Unit)) := match st with | (seen148, work149) => if (0 : Int) < (work149.length : Int) then ((idx work149 (IntKind.wrap .i64 ((work149.length : Int) - (1 : Int)))).bind fun e199 => (slc work149 (0 : Int) (IntKind.wrap .i64 ((work149.length : Int) - (1 : Int)))).bind fun y201 => if e199 = from2 then (some (.inr (.inl ()))) else ((idx seen148 e199).bind fun e202 => if (!e202) = true then ((idx n1.Trans e199).bind fun e225 => p40_j0 next0 seen148 e199 y201 (decide (e225.Delay = (0 : Int)))) else (p40_j0 next0 seen148 e199 y201 false))) else (some (.inr (.inr ())))
noncomputable def p40 (next0 : List (List Int)) (n1 : TNet) (from2 : Int) : Option Bool := (mkS 1 (next0.length : Int) (next0.length : Int) false).bind fun y103 => (idx next0 from2).bind fun e106 => (app 8 [] e106).bind fun y108 => (loopC (p40_l0 next0 n1 from2) (y103, y108)).bind fun res195 => (match res195 with | .inl _ => some true | .inr _ => some false)
theorem r40 {h : Heap} {a0_0 : AV} {a1_0 : AV} {a1_1 : AV} {next0 : List (List Int)} {n1 : TNet} {from2 : Int} (f0_0 : SlR (rSl (rI .i64)) (Snap h) a0_0 next0) (f1_0 : SlR rPlace (Snap h) a1_0 n1.Places) (f1_1 : SlR rTrans (Snap h) a1_1 n1.Trans) {r : Bool} (hf : p40 next0 n1 from2 = some r) : ZCalls F 40 [a0_0, (.agg [a1_0, a1_1]), (.int .i64 from2)] h fun v h' => v = .bool r ∧ St h none' [] h' := by
  refine w40 ?_
  unfold W40
  unfold p40 at hf
  have S : St h none' [] h := St.refl _ _
  intro h101
  have S : St h none' [rowC h.n [a1_0, a1_1] 0] h101 := S.pushRow [a1_0, a1_1]
  refine ifP_iff.2 ⟨(f0_0).is, ?_⟩
  try rw [(f0_0).slen]
  obtain ⟨y103, hy103, hf⟩ := obind hf
  obtain ⟨my103, ey103⟩ := mkS_some hy103
  refine ⟨my103, ?_⟩
  intro h104
  have S : St h none' [own (oSl (fz rB)) [(.slice h101.n 0 0 ((next0.length : Int) : Int).toNat 1)] y103, rowC h.n [a1_0, a1_1] 0] h104 := (S.make (r := (fz rB)) (zero := [(.bool false)]) (x := false) (fun _ => ⟨rfl, rfl⟩) _).cast (by rw [ey103]; rfl)
  obtain ⟨e106, he106, hf⟩ := obind hf
  obtain ⟨qe106, q0e106, q1e106⟩ := SlR.ix f0_0 he106
  have pe106 := (SlR.idx f0_0 (snap_mono S.le) he106).1
  refine ifP_iff.2 ⟨qe106, q0e106, (by first | exact q1e106 | exact (idx_lt he106).2), ?_⟩
  obtain ⟨_, cr107, Rr107, Nr107, Or107, Zr107⟩ := SlR.idx f0_0 (snap_mono S.le) he106
  obtain ⟨cr107, rfl, Fr107⟩ := Rr107
  refine ⟨cr107, Zr107 _ rfl, ?_⟩
  obtain ⟨y108, hy108, hf⟩ := obind hf
  have my108 := app_nil hy108
  obtain ⟨o110, gy108, S⟩ := St.clone (r := (rI .i64)) (b := 8) S (snap_mono S.le) Fr107 (.inl (flat_I _)) my108.1
  refine oP_intro _ gy108 ?_
  intro h109
  have S : St h none' [own (oSl (fz (rI .i64))) [(NOp.mk (.appendNil 1 8) [cr107] h104.n)] y108, own (oSl (fz rB)) [(.slice h101.n 0 0 ((next0.length : Int) : Int).toNat 1)] y103, rowC h.n [a1_0, a1_1] 0] h109 := S.cast (by rw [my108.2] <;> rfl)
  obtain ⟨res195, hL, hf⟩ := obind hf
  obtain ⟨n196, hL⟩ := loopC_iff.1 hL
  have S : St h none' [rowC h.n [a1_0, a1_1] 0, own (oSl (fz rB)) [(.slice h101.n 0 0 ((next0.length : Int) : Int).toNat 1)] y103, own (oSl (fz (rI .i64))) [(NOp.mk (.appendNil 1 8) [cr107] h104.n)] y108] h109 := S.sel [2, 1, 0] rfl
  refine loopm40_0 (R := fun (next181 : AV) (from182 : Int) (n183 : AV) (y184 : Bool) (seen185 : AV) (work186 : AV) (h187 : Heap) => true = y184 ∧ St h none' [] h187 ∧ (.inl ()) = res195) (X0 := fun (next188 : AV) (from189 : Int) (n190 : AV) (y191 : Bool) (seen192 : AV) (work193 : AV) (h194 : Heap) => St h none' [] h194 ∧ (.inr ()) = res195) ?_ ?_ (loop40_0 (I := fun (m198 : Nat) (next112 : AV) (from113 : Int) (n114 : AV) (y115 : Bool) (seen116 : AV) (work117 : AV) (h147 : Heap) => ∃ (seen148 : List Bool), ∃ (work149 : List Int), a0_0 = next112 ∧ from2 = from113 ∧ AV.ptr h.n 0 0 = n114 ∧ (AV.slice h101.n 0 0 ((next0.length : Int) : Int).toNat 1) = seen116 ∧ St h none' [rowC h.n [a1_0, a1_1] 0, own (oSl (fz rB)) [(.slice h101.n 0 0 ((next0.length : Int) : Int).toNat 1)] seen148, own (oSl (fz (rI .i64))) [work117] work149] h147 ∧ iter (p40_l0 next0 n1 from2) m198 (seen148, work149) = some res195) ?_ (m := n196) ?_)
  · rintro next181 from182 n183 y184 seen185 work186 h187 ⟨rfl, S, rfl⟩
    try dsimp only at hf
    obtain rfl := Option.some.inj hf
    exact ⟨rfl, S.sel [] rfl⟩
  · rintro next188 from189 n190 y191 seen192 work193 h194 ⟨S, rfl⟩
    try dsimp only at hf
    obtain rfl := Option.some.inj hf
    exact ⟨rfl, S.sel [] rfl⟩
  · rintro m1980 next112 from113 n114 y115 seen116 work117 h147 ⟨seen148, work149, rfl, rfl, rfl, rfl, S, hit⟩
    obtain ⟨m198, q197, rfl, hf, hk⟩ := iter_some hit
    clear hit
    unfold B40_0
    unfold p40_l0 at hf
    try dsimp only at hf
    refine ifP_iff.2 ⟨((S.sl (r := (fz (rI .i64))) (.tail _ (.tail _ (.head _))))).is, ?_⟩
    try rw [((S.sl (r := (fz (rI .i64))) (.tail _ (.tail _ (.head _))))).slen]
    refine bP_intro (fun hc => ?_) (fun hc => ?_)
    · rw [if_pos (show (0 : Int) < (work149.length : Int) from of_decide_eq_true hc)] at hf
      refine ifP_iff.2 ⟨((S.sl (r := (fz (rI .i64))) (.tail _ (.tail _ (.head _))))).is, ?_⟩
      try rw [((S.sl (r := (fz (rI .i64))) (.tail _ (.tail _ (.head _))))).slen]
      obtain ⟨e199, he199, hf⟩ := obind hf
      obtain ⟨qe199, q0e199, q1e199⟩ := SlR.ix (S.sl (r := (fz (rI .i64))) (.tail _ (.tail _ (.head _)))) he199
      have pe199 := (SlR.idx (S.sl (r := (fz (rI .i64))) (.tail _ (.tail _ (.head _)))) (Hp.le_refl _) he199).1
      refine ifP_iff.2 ⟨qe199, q0e199, (by first | exact q1e199 | exact (idx_lt he199).2), ?_⟩
      obtain ⟨_, cr200, Rr200, Nr200, Or200, Zr200⟩ := St.idxO (r := (rI .i64)) S (.tail _ (.tail _ (.head _))) he199
      obtain rfl : cr200 = [(.int .i64 e199)] := Rr200
      refine ⟨e199, Zr200 _ rfl, ?_⟩
      refine ifP_iff.2 ⟨((S.sl (r := (fz (rI .i64))) (.tail _ (.tail _ (.head _))))).is, ?_⟩
      try rw [((S.sl (r := (fz (rI .i64))) (.tail _ (.tail _ (.head _))))).slen]
      obtain ⟨y201, hy201, hf⟩ := obind hf
      have ey201 := (sliceSl_ev01 (k := .i64) (S.sl (r := (fz (rI .i64))) (.tail _ (.tail _ (.head _)))) hy201)
      have S : St h none' [own (oSl (fz (rI .i64))) [work117] work149, rowC h.n [a1_0, a1_1] 0, own (oSl (fz rB)) [(.slice h101.n 0 0 ((next0.length : Int) : Int).toNat 1)] seen148] h147 := S.sel [2, 0, 1] rfl
      have S : St h none' [own (oSl (fz (rI .i64))) [(work117.sub 1 ((0 : Int) : Int).toNat ((IntKind.wrap .i64 ((work149.length : Int) - (1 : Int))) : Int).toNat)] y201, rowC h.n [a1_0, a1_1] 0, own (oSl (fz rB)) [(.slice h101.n 0 0 ((next0.length : Int) : Int).toNat 1)] seen148] h147 := (S.sub (slc_le hy201).1 (slc_le hy201).2).cast (by rw [← slc_eq hy201] <;> rfl)
      refine oP_intro _ ey201 ?_
      refine bP_intro (fun hc => ?_) (fun hc => ?_)
      · rw [if_pos (show e199 = from2 from of_decide_eq_true hc)] at hf
        have S : St h none' [] h147 := S.sel [] rfl
        obtain rfl := Option.some.inj hf
        obtain rfl := hk
        exact ⟨rfl, S, rfl⟩
      · rw [if_neg (show ¬ (e199 = from2) from of_decide_eq_false hc)] at hf
        obtain ⟨e202, he202, hf⟩ := obind hf
        obtain ⟨qe202, q0e202, q1e202⟩ := SlR.ix (S.sl (r := (fz rB)) (.tail _ (.tail _ (.head _)))) he202
        have pe202 := (SlR.idx (S.sl (r := (fz rB)) (.tail _ (.tail _ (.head _)))) (Hp.le_refl _) he202).1
        refine ifP_iff.2 ⟨qe202, q0e202, (by first | exact q1e202 | exact (idx_lt he202).2), ?_⟩
        obtain ⟨_, cr203, Rr203, Nr203, Or203, Zr203⟩ := St.idxO (r := rB) S (.tail _ (.tail _ (.head _))) he202
        obtain rfl : cr203 = [(.bool e202)] := Rr203
        refine ⟨e202, Zr203 _ rfl, ?_⟩
        intro jjj0
        have hjj0 : ∀ (b206 : Bool) (h207 : Heap), p40_j0 next0 seen148 e199 y201 b206 = some q197 → h147 = h207 → St h none' [rowC h.n [a1_0, a1_1] 0, own (oSl (fz rB)) [(.slice h101.n 0 0 ((next0.length : Int) : Int).toNat 1)] seen148, own (oSl (fz (rI .i64))) [(work117.sub 1 ((0 : Int) : Int).toNat ((IntKind.wrap .i64 ((work149.length : Int) - (1 : Int))) : Int).toNat)] y201] h147 → jjj0 b206 h207 := by
          rintro b206 h207 hf rfl S
          unfold p40_j0 at hf
          unfold jjj0
          refine bP_intro (fun hc => ?_) (fun hc => ?_)
          · rw [if_pos (show b206 = true from hc)] at hf
            obtain ⟨e214, he214, hf⟩ := obind hf
            obtain ⟨qe214, q0e214, q1e214⟩ := SlR.ix (S.sl (r := (fz rB)) (.tail _ (.head _))) he214
            have pe214 := (SlR.idx (S.sl (r := (fz rB)) (.tail _ (.head _))) (Hp.le_refl _) he214).1
            refine ifP_iff.2 ⟨qe214, q0e214, (by first | exact q1e214 | exact (idx_lt he214).2), ?_⟩
            obtain ⟨seen217, hseen217, hf⟩ := obind hf
            have S : St h none' [own (oSl (fz rB)) [(.slice h101.n 0 0 ((next0.length : Int) : Int).toNat 1)] seen148, rowC h.n [a1_0, a1_1] 0, own (oSl (fz (rI .i64))) [(work117.sub 1 ((0 : Int) : Int).toNat ((IntKind.wrap .i64 ((work149.length : Int) - (1 : Int))) : Int).toNat)] y201] h147 := S.sel [1, 0, 2] rfl
            obtain ⟨h215, e216, S⟩ := St.setE (r := rB) (x' := true) (k := 0) (n := 1) (y := (.bool true)) S he214 rfl rfl (Nat.le_of_ble_eq_true rfl) (by rintro _ h; obtain rfl := h; exact rfl)
            rw [padd_zero] at e216
            have S : St h none' [own (oSl (fz rB)) [(.slice h101.n 0 0 ((next0.length : Int) : Int).toNat 1)] seen217, rowC h.n [a1_0, a1_1] 0, own (oSl (fz (rI .i64))) [(work117.sub 1 ((0 : Int) : Int).toNat ((IntKind.wrap .i64 ((work149.length : Int) - (1 : Int))) : Int).toNat)] y201] h215 := S.cast (by rw [← Option.some.inj hseen217] <;> rfl)
            refine ⟨h215, e216, ?_⟩
            obtain ⟨e218, he218, hf⟩ := obind hf
            obtain ⟨qe218, q0e218, q1e218⟩ := SlR.ix f0_0 he218
            have pe218 := (SlR.idx f0_0 (snap_mono S.le) he218).1
            refine ifP_iff.2 ⟨qe218, q0e218, (by first | exact q1e218 | exact (idx_lt he218).2), ?_⟩
            obtain ⟨_, cr219, Rr219, Nr219, Or219, Zr219⟩ := SlR.idx f0_0 (snap_mono S.le) he218
            obtain ⟨cr219, rfl, Fr219⟩ := Rr219
            refine ⟨cr219, Zr219 _ rfl, ?_⟩
            obtain ⟨y222, hy222, hf⟩ := obind hf
            have Fy222 := (SlR.mono (snap_mono S.le) Fr219)
            have S : St h none' [own (oSl (fz (rI .i64))) [(work117.sub 1 ((0 : Int) : Int).toNat ((IntKind.wrap .i64 ((work149.length : Int) - (1 : Int))) : Int).toNat)] y201, own (oSl (fz rB)) [(.slice h101.n 0 0 ((next0.length : Int) : Int).toNat 1)] seen217, rowC h.n [a1_0, a1_1] 0] h215 := S.sel [2, 0, 1] rfl
            have my222 := app_some hy222
            obtain ⟨v221, h220, e223, S⟩ := St.appF (r := (rI .i64)) (b := 8) S (Hp.le_refl _) Fy222 (.inl (flat_I _)) my222.1
            have S : St h none' [own (oSl (fz (rI .i64))) [v221] y222, own (oSl (fz rB)) [(.slice h101.n 0 0 ((next0.length : Int) : Int).toNat 1)] seen217, rowC h.n [a1_0, a1_1] 0] h220 := S.cast (by rw [← my222.2] <;> rfl)
            refine ⟨v221, h220, e223, ?_⟩
            have S : St h none' [rowC h.n [a1_0, a1_1] 0, own (oSl (fz rB)) [(.slice h101.n 0 0 ((next0.length : Int) : Int).toNat 1)] seen217, own (oSl (fz (rI .i64))) [v221] y222] h220 := S.sel [2, 1, 0] rfl
            obtain rfl := Option.some.inj hf
            exact ⟨m198, Nat.lt_succ_self _, seen217, y222, rfl, rfl, rfl, rfl, S, hk⟩
          · rw [if_neg (show ¬ (b206 = true) from by rw [show b206 = false from hc]; exact Bool.false_ne_true)] at hf
            obtain rfl := Option.some.inj hf
            exact ⟨m198, Nat.lt_succ_self _, seen148, y201, rfl, rfl, rfl, rfl, S, hk⟩
        refine bP_intro (fun hc => ?_) (fun hc => ?_)
        · rw [if_pos (show (!e202) = true from hc)] at hf
          refine ifP_iff.2 ⟨rfl, ?_⟩
          refine ⟨a1_1, S.rd1 (.tail _ (.head _)) rfl, ?_⟩
          obtain ⟨e225, he225, hf⟩ := obind hf
          obtain ⟨qe225, q0e225, q1e225⟩ := SlR.ix f1_1 he225
          have pe225 := (SlR.idx f1_1 (snap_mono S.le) he225).1
          refine ifP_iff.2 ⟨qe225, q0e225, (by first | exact q1e225 | exact (idx_lt he225).2), ?_⟩
          refine ifP_iff.2 ⟨pe225, ?_⟩
          obtain ⟨_, cr226, Rr226, Nr226, Or226, Zr226⟩ := SlR.idx f1_1 (snap_mono S.le) he225
          obtain ⟨cr226_3, cr226_4, cr226_5, rfl, Fr226_3, Fr226_4, Fr226_5⟩ := rTrans_open Rr226
          refine ⟨e225.Delay, Or226 1 _ rfl, ?_⟩
          have S : St h none' [rowC h.n [a1_0, a1_1] 0, own (oSl (fz rB)) [(.slice h101.n 0 0 ((next0.length : Int) : Int).toNat 1)] seen148, own (oSl (fz (rI .i64))) [(work117.sub 1 ((0 : Int) : Int).toNat ((IntKind.wrap .i64 ((work149.length : Int) - (1 : Int))) : Int).toNat)] y201] h147 := S.sel [1, 2, 0] rfl
          exact hjj0 _ _  hf rfl S
        · rw [if_neg (show ¬ ((!e202) = true) from by rw [show (!e202) = false from hc]; exact Bool.false_ne_true)] at hf
          have S : St h none' [rowC h.n [a1_0, a1_1] 0, own (oSl (fz rB)) [(.slice h101.n 0 0 ((next0.length : Int) : Int).toNat 1)] seen148, own (oSl (fz (rI .i64))) [(work117.sub 1 ((0 : Int) : Int).toNat ((IntKind.wrap .i64 ((work149.length : Int) - (1 : Int))) : Int).toNat)] y201] h147 := S.sel [1, 2, 0] rfl
          exact hjj0 _ _  hf rfl S
    · rw [if_neg (show ¬ ((0 : Int) < (work149.length : Int)) from of_decide_eq_false hc)] at hf
      have S : St h none' [] h147 := S.sel [] rfl
      obtain rfl := Option.some.inj hf
      obtain rfl := hk
      exact ⟨S, rfl⟩
  · exact ⟨y103, y108, rfl, rfl, rfl, rfl, S, hL⟩
/-! 22: marblerun/loops.Next -/
noncomputable def p22_l0 (y110 : Int) (e323 : TTrans) (st : Int × (List (List Int))) : Option ((Int × (List (List Int))) ⊕ (List (List Int))) := match st with | (y337, y361) => if y337 < (e323.In.length : Int) then ((idx e323.In y337).bind fun e400 => (idx y361 e400.Place).bind fun e406 => (app 8 e406 [y110]).bind fun e415 => some (.inl ((IntKind.wrap .i64 (y337 + (1 : Int))), (y361.set (e400.Place : Int).toNat e415)))) else (some (.inr y361))
noncomputable def p22_l1 (x0 : TNet) (st : Int × (List (List Int))) : Option ((Int × (List (List Int))) ⊕ (List (List Int))) := match st with | (y110, y211) => if y110 < (x0.Trans.length : Int) then ((idx x0.Trans y110).bind fun e323 => (loopC (p22_l0 y110 e323) ((0 : Int), y211)).bind fun res396 => ((fun (y395 : List (List Int)) => some (.inl ((IntKind.wrap .i64 (y110 + (1 : Int))), y395))) res396)) else (some (.inr y211))
noncomputable def p22_l2 (y1376 : List (List Int)) (e1474 : List Int) (st : Int × (List Bool)) : Option ((Int × (List Bool)) ⊕ ((List (List Int)) × (List Bool))) := match st with | (y1492, y1501) => if y1492 < (e1474.length : Int) then ((idx e1474 y1492).bind fun e1531 => (idx y1501 e1531).bind fun e1533 => (some (y1501.set (e1531 : Int).toNat true)).bind fun y1536 => some (.inl ((IntKind.wrap .i64 (y1492 + (1 : Int))), y1536))) else (some (.inr (y1376, y1501)))
noncomputable def p22_l3 (e1285 : TTrans) (st : Int × (List (List Int)) × (List Bool)) : Option ((Int × (List (List Int)) × (List Bool)) ⊕ ((List (List Int)) × (List Bool))) := match st with | (y1304, y1376, y1377) => if y1304 < (e1285.Out.length : Int) then ((idx e1285.Out y1304).bind fun e1468 => (idx y1376 e1468.Place).bind fun e1474 => (loopC (p22_l2 y1376 e1474) ((0 : Int), y1377)).bind fun res1527 => (match res1527 with | (y1525, y1526) => some (.inl ((IntKind.wrap .i64 (y1304 + (1 : Int))), y1525, y1526)))) else (some (.inr (y1376, y1377)))
noncomputable def p22_j0 (y1546 : Int) (y1686 : List (List Int)) : Option ((Int × (List (List Int))) ⊕ (List (List Int))) := some (.inl ((IntKind.wrap .i64 (y1546 + (1 : Int))), y1686))
noncomputable def p22_l4 (y429 : Int) (y1463 : List Bool) (st : Int × (List (List Int))) : Option ((Int × (List (List Int))) ⊕ (List (List Int))) := match st with | (y1546, y1594) => if y1546 < (y1463.length : Int) then ((idx y1463 y1546).bind fun e1658 => if e1658 = true then ((idx y1594 y429).bind fun e1688 => (app 8 e1688 [y1546]).bind fun e1697 => p22_j0 y1546 (y1594.set (y429 : Int).toNat e1697)) else (p22_j0 y1546 y1594)) else (some (.inr y1594))
noncomputable def p22_l5 (x0 : TNet) (st : Int × (List (List Int)) × (List (List Int))) : Option ((Int × (List (List Int)) × (List (List Int))) ⊕ (List (List Int))) := match st with | (y429, y850, y851) => if y429 < (x0.Trans.length : Int) then ((idx x0.Trans y429).bind fun e1285 => if (0 : Int) < e1285.Delay then (some (.inl ((IntKind.wrap .i64 (y429 + (1 : Int))), y850, y851))) else ((mkS 1 (x0.Trans.length : Int) (x0.Trans.length : Int) false).bind fun y1291 => (loopC (p22_l3 e1285) ((0 : Int), y850, y1291)).bind fun res1464 => (match res1464 with | (y1462, y1463) => (loopC (p22_l4 y429 y1463) ((0 : Int), y851)).bind fun res1654 => ((fun (y1653 : List (List Int)) => some (.inl ((IntKind.wrap .i64 (y429 + (1 : Int))), y1462, y1653))) res1654)))) else (some (.inr y851))
noncomputable def p22 (x0 : TNet) : Option (List (List Int)) := (mkS 24 (x0.Places.length : Int) (x0.Places.length : Int) []).bind fun y103 => (loopC (p22_l1 x0) ((0 : Int), y103)).bind fun res319 => ((fun (y318 : List (List Int)) => (mkS 24 (x0.Trans.length : Int) (x0.Trans.length : Int) []).bind fun y421 => (loopC (p22_l5 x0) ((0 : Int), y318, y421)).bind fun res1281 => ((fun (y1280 : List (List Int)) => some y1280) res1281)) res319)
theorem r22 {h : Heap} {a0_0 : AV} {a0_1 : AV} {x0 : TNet} (f0_0 : SlR rPlace (Snap h) a0_0 x0.Places) (f0_1 : SlR rTrans (Snap h) a0_1 x0.Trans) {r : List (List Int)} (hf : p22 x0 = some r) : ZCalls F 22 [(.agg [a0_0, a0_1])] h fun v h' => St h none' [own (oSl (oSl (fz (rI .i64)))) [v] r] h' := by
  refine w22 ?_
  unfold W22
  unfold p22 at hf
  have S : St h none' [] h := St.refl _ _
  intro h101
  have S : St h none' [rowC h.n [a0_0, a0_1] 0] h101 := S.pushRow [a0_0, a0_1]
  refine ⟨a0_0, S.rd1 (.head _) rfl, ?_⟩
  refine ifP_iff.2 ⟨(f0_0).is, ?_⟩
  try rw [(f0_0).slen]
  obtain ⟨y103, hy103, hf⟩ := obind hf
  obtain ⟨my103, ey103⟩ := mkS_some hy103
  refine ⟨my103, ?_⟩
  intro h104
  have S : St h none' [own (oSl (oSl (fz (rI .i64)))) [(.slice h101.n 0 0 ((x0.Places.length : Int) : Int).toNat 1)] y103, rowC h.n [a0_0, a0_1] 0] h104 := (S.make (r := (oSl (fz (rI .i64)))) (zero := [.nilSlice]) (x := []) (fun _ => ⟨_, rfl, .inl ⟨rfl, rfl, rfl⟩⟩) _).cast (by rw [ey103]; rfl)
  refine ⟨a0_1, S.rd1 (.tail _ (.head _)) rfl, ?_⟩
  refine ifP_iff.2 ⟨(f0_1).is, ?_⟩
  try rw [(f0_1).slen]
  obtain ⟨res319, hL, hf⟩ := obind hf
  obtain ⟨n320, hL⟩ := loopC_iff.1 hL
  have S : St h none' [rowC h.n [a0_0, a0_1] 0, own (oSl (oSl (fz (rI .i64)))) [(.slice h101.n 0 0 ((x0.Places.length : Int) : Int).toNat 1)] y103] h104 := S.sel [1, 0] rfl
  refine loopm22_1 (X0 := fun (y312 : AV) (y313 : AV) (y314 : AV) (y315 : Int) (y316 : Int) (h317 : Heap) => ∃ (y318 : List (List Int)), AV.ptr h.n 0 0 = y312 ∧ (AV.slice h101.n 0 0 ((x0.Places.length : Int) : Int).toNat 1) = y313 ∧ St h none' [rowC h.n [a0_0, a0_1] 0, own (oSl (oSl (fz (rI .i64)))) [(.slice h101.n 0 0 ((x0.Places.length : Int) : Int).toNat 1)] y318] h317 ∧ y318 = res319) ?_ (loop22_1 (I := fun (m322 : Nat) (y106 : AV) (y107 : AV) (y108 : AV) (y109 : Int) (y110 : Int) (h210 : Heap) => ∃ (y211 : List (List Int)), AV.ptr h.n 0 0 = y106 ∧ (AV.slice h101.n 0 0 ((x0.Places.length : Int) : Int).toNat 1) = y107 ∧ a0_1 = y108 ∧ (x0.Trans.length : Int) = y109 ∧ St h none' [rowC h.n [a0_0, a0_1] 0, own (oSl (oSl (fz (rI .i64)))) [(.slice h101.n 0 0 ((x0.Places.length : Int) : Int).toNat 1)] y211] h210 ∧ iter (p22_l1 x0) m322 (y110, y211) = some res319) ?_ (m := n320) ?_)
  · rintro y312 y313 y314 y315 y316 h317 ⟨y318, rfl, rfl, S, rfl⟩
    try dsimp only at hf
    refine ifP_iff.2 ⟨rfl, ?_⟩
    refine ⟨a0_1, S.rd1 (.head _) rfl, ?_⟩
    refine ifP_iff.2 ⟨(f0_1).is, ?_⟩
    try rw [(f0_1).slen]
    obtain ⟨y421, hy421, hf⟩ := obind hf
    obtain ⟨my421, ey421⟩ := mkS_some hy421
    refine ⟨my421, ?_⟩
    intro h422
    have S : St h none' [own (oSl (oSl (fz (rI .i64)))) [(.slice h317.n 0 0 ((x0.Trans.length : Int) : Int).toNat 1)] y421, rowC h.n [a0_0, a0_1] 0, own (oSl (oSl (fz (rI .i64)))) [(.slice h101.n 0 0 ((x0.Places.length : Int) : Int).toNat 1)] y318] h422 := (S.make (r := (oSl (fz (rI .i64)))) (zero := [.nilSlice]) (x := []) (fun _ => ⟨_, rfl, .inl ⟨rfl, rfl, rfl⟩⟩) _).cast (by rw [ey421]; rfl)
    refine ifP_iff.2 ⟨rfl, ?_⟩
    refine ⟨a0_1, S.rd1 (.tail _ (.head _)) rfl, ?_⟩
    refine ifP_iff.2 ⟨(f0_1).is, ?_⟩
    try rw [(f0_1).slen]
    obtain ⟨res1281, hL, hf⟩ := obind hf
    obtain ⟨n1282, hL⟩ := loopC_iff.1 hL
    have S : St h none' [rowC h.n [a0_0, a0_1] 0, own (oSl (oSl (fz (rI .i64)))) [(.slice h101.n 0 0 ((x0.Places.length : Int) : Int).toNat 1)] y318, own (oSl (oSl (fz (rI .i64)))) [(.slice h317.n 0 0 ((x0.Trans.length : Int) : Int).toNat 1)] y421] h422 := S.sel [1, 2, 0] rfl
    refine loopm22_5 (X4 := fun (y1273 : AV) (y1274 : AV) (y1275 : AV) (y1276 : AV) (y1277 : Int) (y1278 : Int) (h1279 : Heap) => ∃ (y1280 : List (List Int)), (AV.slice h317.n 0 0 ((x0.Trans.length : Int) : Int).toNat 1) = y1275 ∧ St h none' [own (oSl (oSl (fz (rI .i64)))) [(.slice h317.n 0 0 ((x0.Trans.length : Int) : Int).toNat 1)] y1280] h1279 ∧ y1280 = res1281) ?_ (loop22_5 (I := fun (m1284 : Nat) (y424 : AV) (y425 : AV) (y426 : AV) (y427 : AV) (y428 : Int) (y429 : Int) (h849 : Heap) => ∃ (y850 : List (List Int)), ∃ (y851 : List (List Int)), AV.ptr h.n 0 0 = y424 ∧ (AV.slice h101.n 0 0 ((x0.Places.length : Int) : Int).toNat 1) = y425 ∧ (AV.slice h317.n 0 0 ((x0.Trans.length : Int) : Int).toNat 1) = y426 ∧ a0_1 = y427 ∧ (x0.Trans.length : Int) = y428 ∧ St h none' [rowC h.n [a0_0, a0_1] 0, own (oSl (oSl (fz (rI .i64)))) [(.slice h101.n 0 0 ((x0.Places.length : Int) : Int).toNat 1)] y850, own (oSl (oSl (fz (rI .i64)))) [(.slice h317.n 0 0 ((x0.Trans.length : Int) : Int).toNat 1)] y851] h849 ∧ iter (p22_l5 x0) m1284 (y429, y850, y851) = some res1281) ?_ (m := n1282) ?_)
    · rintro y1273 y1274 y1275 y1276 y1277 y1278 h1279 ⟨y1280, rfl, S, rfl⟩
      try dsimp only at hf
      obtain rfl := Option.some.inj hf
      exact S.sel [0] rfl
    · rintro m12840 y424 y425 y426 y427 y428 y429 h849 ⟨y850, y851, rfl, rfl, rfl, rfl, rfl, S, hit⟩
      obtain ⟨m1284, q1283, rfl, hf, hk⟩ := iter_some hit
      clear hit
      unfold B22_5
      unfold p22_l5 at hf
      try dsimp only at hf
      refine bP_intro (fun hc => ?_) (fun hc => ?_)
      · rw [if_pos (show y429 < (x0.Trans.length : Int) from of_decide_eq_true hc)] at hf
        obtain ⟨e1285, he1285, hf⟩ := obind hf
        obtain ⟨qe1285, q0e1285, q1e1285⟩ := SlR.ix f0_1 he1285
        have pe1285 := (SlR.idx f0_1 (snap_mono S.le) he1285).1
        refine ifP_iff.2 ⟨qe1285, q0e1285, (by first | exact q1e1285 | exact (idx_lt he1285).2), ?_⟩
        obtain ⟨_, cr1286, Rr1286, Nr1286, Or1286, Zr1286⟩ := SlR.idx f0_1 (snap_mono S.le) he1285
        obtain ⟨cr1286_3, cr1286_4, cr1286_5, rfl, Fr1286_3, Fr1286_4, Fr1286_5⟩ := rTrans_open Rr1286
        refine ⟨(.str e1285.Name), (.int .i64 e1285.Delay), (.int .i64 e1285.Prio), cr1286_3, cr1286_4, cr1286_5, Nr1286, ?_⟩
        intro h1287
        have S : St h none' [rowC h849.n [(.str ([] : List UInt8)), (.int .i64 (0 : Int)), (.int .i64 (0 : Int)), .nilSlice, .nilSlice, .nilSlice] 0, rowC h.n [a0_0, a0_1] 0, own (oSl (oSl (fz (rI .i64)))) [(.slice h101.n 0 0 ((x0.Places.length : Int) : Int).toNat 1)] y850, own (oSl (oSl (fz (rI .i64)))) [(.slice h317.n 0 0 ((x0.Trans.length : Int) : Int).toNat 1)] y851] h1287 := S.pushRow [(.str ([] : List UInt8)), (.int .i64 (0 : Int)), (.int .i64 (0 : Int)), .nilSlice, .nilSlice, .nilSlice]
        obtain ⟨h1289, e1290, S⟩ := S.store (off := 0) (n := 6) (x := (.agg [(.str e1285.Name), (.int .i64 e1285.Delay), (.int .i64 e1285.Prio), cr1286_3, cr1286_4, cr1286_5])) (cs' := [(.str e1285.Name), (.int .i64 e1285.Delay), (.int .i64 e1285.Prio), cr1286_3, cr1286_4, cr1286_5]) (Nat.le_of_ble_eq_true rfl) rfl rfl rfl
        have S : St h none' [rowC h849.n [(.str e1285.Name), (.int .i64 e1285.Delay), (.int .i64 e1285.Prio), cr1286_3, cr1286_4, cr1286_5] 0, rowC h.n [a0_0, a0_1] 0, own (oSl (oSl (fz (rI .i64)))) [(.slice h101.n 0 0 ((x0.Places.length : Int) : Int).toNat 1)] y850, own (oSl (oSl (fz (rI .i64)))) [(.slice h317.n 0 0 ((x0.Trans.length : Int) : Int).toNat 1)] y851] h1289 := S
        refine ⟨h1289, e1290, ?_⟩
        refine ⟨e1285.Delay, S.rd1 (.head _) rfl, ?_⟩
        refine bP_intro (fun hc => ?_) (fun hc => ?_)
        · rw [if_pos (show (0 : Int) < e1285.Delay from of_decide_eq_true hc)] at hf
          have S : St h none' [rowC h.n [a0_0, a0_1] 0, own (oSl (oSl (fz (rI .i64)))) [(.slice h101.n 0 0 ((x0.Places.length : Int) : Int).toNat 1)] y850, own (oSl (oSl (fz (rI .i64)))) [(.slice h317.n 0 0 ((x0.Trans.length : Int) : Int).toNat 1)] y851] h1289 := S.sel [1, 2, 3] rfl
          obtain rfl := Option.some.inj hf
          exact ⟨m1284, Nat.lt_succ_self _, y850, y851, rfl, rfl, rfl, rfl, rfl, S, hk⟩
        · rw [if_neg (show ¬ ((0 : Int) < e1285.Delay) from of_decide_eq_false hc)] at hf
          refine ifP_iff.2 ⟨rfl, ?_⟩
          refine ⟨a0_1, S.rd1 (.tail _ (.head _)) rfl, ?_⟩
          refine ifP_iff.2 ⟨(f0_1).is, ?_⟩
          try rw [(f0_1).slen]
          obtain ⟨y1291, hy1291, hf⟩ := obind hf
          obtain ⟨my1291, ey1291⟩ := mkS_some hy1291
          refine ⟨my1291, ?_⟩
          intro h1292
          have S : St h none' [own (oSl (fz rB)) [(.slice h1289.n 0 0 ((x0.Trans.length : Int) : Int).toNat 1)] y1291, rowC h849.n [(.str e1285.Name), (.int .i64 e1285.Delay), (.int .i64 e1285.Prio), cr1286_3, cr1286_4, cr1286_5] 0, rowC h.n [a0_0, a0_1] 0, own (oSl (oSl (fz (rI .i64)))) [(.slice h101.n 0 0 ((x0.Places.length : Int) : Int).toNat 1)] y850, own (oSl (oSl (fz (rI .i64)))) [(.slice h317.n 0 0 ((x0.Trans.length : Int) : Int).toNat 1)] y851] h1292 := (S.make (r := (fz rB)) (zero := [(.bool false)]) (x := false) (fun _ => ⟨rfl, rfl⟩) _).cast (by rw [ey1291]; rfl)
          refine ⟨cr1286_5, S.rd1 (.tail _ (.head _)) rfl, ?_⟩
          refine ifP_iff.2 ⟨(Fr1286_5).is, ?_⟩
          try rw [(Fr1286_5).slen]
          obtain ⟨res1464, hL, hf⟩ := obind hf
          obtain ⟨n1465, hL⟩ := loopC_iff.1 hL
          have S : St h none' [rowC h.n [a0_0, a0_1] 0, own (oSl (oSl (fz (rI .i64)))) [(.slice h101.n 0 0 ((x0.Places.length : Int) : Int).toNat 1)] y850, own (oSl (oSl (fz (rI .i64)))) [(.slice h317.n 0 0 ((x0.Trans.length : Int) : Int).toNat 1)] y851, own (oSl (fz rB)) [(.slice h1289.n 0 0 ((x0.Trans.length : Int) : Int).toNat 1)] y1291] h1292 := S.sel [2, 3, 4, 0] rfl
          refine loopm22_3 (X6 := fun (y1450 : AV) (y1451 : AV) (y1452 : AV) (y1453 : Int) (y1454 : AV) (y1455 : AV) (y1456 : Int) (y1457 : Int) (y1458 : AV) (y1459 : Int) (y1460 : Int) (h1461 : Heap) => ∃ (y1462 : List (List Int)), ∃ (y1463 : List Bool), AV.ptr h.n 0 0 = y1450 ∧ (AV.slice h101.n 0 0 ((x0.Places.length : Int) : Int).toNat 1) = y1451 ∧ (AV.slice h317.n 0 0 ((x0.Trans.length : Int) : Int).toNat 1) = y1452 ∧ y429 = y1453 ∧ (AV.slice h1289.n 0 0 ((x0.Trans.length : Int) : Int).toNat 1) = y1454 ∧ a0_1 = y1455 ∧ (x0.Trans.length : Int) = y1456 ∧ y429 = y1457 ∧ St h none' [rowC h.n [a0_0, a0_1] 0, own (oSl (oSl (fz (rI .i64)))) [(.slice h101.n 0 0 ((x0.Places.length : Int) : Int).toNat 1)] y1462, own (oSl (oSl (fz (rI .i64)))) [(.slice h317.n 0 0 ((x0.Trans.length : Int) : Int).toNat 1)] y851, own (oSl (fz rB)) [(.slice h1289.n 0 0 ((x0.Trans.length : Int) : Int).toNat 1)] y1463] h1461 ∧ (y1462, y1463) = res1464) ?_ (loop22_3 (I := fun (m1467 : Nat) (y1294 : AV) (y1295 : AV) (y1296 : AV) (y1297 : Int) (y1298 : AV) (y1299 : AV) (y1300 : Int) (y1301 : Int) (y1302 : AV) (y1303 : Int) (y1304 : Int) (h1375 : Heap) => ∃ (y1376 : List (List Int)), ∃ (y1377 : List Bool), AV.ptr h.n 0 0 = y1294 ∧ (AV.slice h101.n 0 0 ((x0.Places.length : Int) : Int).toNat 1) = y1295 ∧ (AV.slice h317.n 0 0 ((x0.Trans.length : Int) : Int).toNat 1) = y1296 ∧ y429 = y1297 ∧ (AV.slice h1289.n 0 0 ((x0.Trans.length : Int) : Int).toNat 1) = y1298 ∧ a0_1 = y1299 ∧ (x0.Trans.length : Int) = y1300 ∧ y429 = y1301 ∧ cr1286_5 = y1302 ∧ (e1285.Out.length : Int) = y1303 ∧ St h none' [rowC h.n [a0_0, a0_1] 0, own (oSl (oSl (fz (rI .i64)))) [(.slice h101.n 0 0 ((x0.Places.length : Int) : Int).toNat 1)] y1376, own (oSl (oSl (fz (rI .i64)))) [(.slice h317.n 0 0 ((x0.Trans.length : Int) : Int).toNat 1)] y851, own (oSl (fz rB)) [(.slice h1289.n 0 0 ((x0.Trans.length : Int) : Int).toNat 1)] y1377] h1375 ∧ iter (p22_l3 e1285) m1467 (y1304, y1376, y1377) = some res1464) ?_ (m := n1465) ?_)
          · rintro y1450 y1451 y1452 y1453 y1454 y1455 y1456 y1457 y1458 y1459 y1460 h1461 ⟨y1462, y1463, rfl, rfl, rfl, rfl, rfl, rfl, rfl, rfl, S, rfl⟩
            try dsimp only at hf
            refine ifP_iff.2 ⟨((S.sl (r := (fz rB)) (.tail _ (.tail _ (.tail _ (.head _)))))).is, ?_⟩
            try rw [((S.sl (r := (fz rB)) (.tail _ (.tail _ (.tail _ (.head _)))))).slen]
            obtain ⟨res1654, hL, hf⟩ := obind hf
            obtain ⟨n1655, hL⟩ := loopC_iff.1 hL
            refine loopm22_4 (X10 := fun (y1642 : AV) (y1643 : AV) (y1644 : AV) (y1645 : Int) (y1646 : AV) (y1647 : Int) (y1648 : Int) (y1649 : AV) (y1650 : Int) (y1651 : Int) (h1652 : Heap) => ∃ (y1653 : List (List Int)), AV.ptr h.n 0 0 = y1642 ∧ (AV.slice h101.n 0 0 ((x0.Places.length : Int) : Int).toNat 1) = y1643 ∧ (AV.slice h317.n 0 0 ((x0.Trans.length : Int) : Int).toNat 1) = y1644 ∧ a0_1 = y1646 ∧ (x0.Trans.length : Int) = y1647 ∧ y429 = y1648 ∧ St h none' [rowC h.n [a0_0, a0_1] 0, own (oSl (oSl (fz (rI .i64)))) [(.slice h101.n 0 0 ((x0.Places.length : Int) : Int).toNat 1)] y1462, own (oSl (oSl (fz (rI .i64)))) [(.slice h317.n 0 0 ((x0.Trans.length : Int) : Int).toNat 1)] y1653] h1652 ∧ y1653 = res1654) ?_ (loop22_4 (I := fun (m1657 : Nat) (y1537 : AV) (y1538 : AV) (y1539 : AV) (y1540 : Int) (y1541 : AV) (y1542 : Int) (y1543 : Int) (y1544 : AV) (y1545 : Int) (y1546 : Int) (h1593 : Heap) => ∃ (y1594 : List (List Int)), AV.ptr h.n 0 0 = y1537 ∧ (AV.slice h101.n 0 0 ((x0.Places.length : Int) : Int).toNat 1) = y1538 ∧ (AV.slice h317.n 0 0 ((x0.Trans.length : Int) : Int).toNat 1) = y1539 ∧ y429 = y1540 ∧ a0_1 = y1541 ∧ (x0.Trans.length : Int) = y1542 ∧ y429 = y1543 ∧ (AV.slice h1289.n 0 0 ((x0.Trans.length : Int) : Int).toNat 1) = y1544 ∧ (y1463.length : Int) = y1545 ∧ St h none' [rowC h.n [a0_0, a0_1] 0, own (oSl (oSl (fz (rI .i64)))) [(.slice h101.n 0 0 ((x0.Places.length : Int) : Int).toNat 1)] y1462, own (oSl (oSl (fz (rI .i64)))) [(.slice h317.n 0 0 ((x0.Trans.length : Int) : Int).toNat 1)] y1594, own (oSl (fz rB)) [(.slice h1289.n 0 0 ((x0.Trans.length : Int) : Int).toNat 1)] y1463] h1593 ∧ iter (p22_l4 y429 y1463) m1657 (y1546, y1594) = some res1654) ?_ (m := n1655) ?_)
            · rintro y1642 y1643 y1644 y1645 y1646 y1647 y1648 y1649 y1650 y1651 h1652 ⟨y1653, rfl, rfl, rfl, rfl, rfl, rfl, S, rfl⟩
              try dsimp only at hf
              obtain rfl := Option.some.inj hf
              exact ⟨m1284, Nat.lt_succ_self _, y1462, y1653, rfl, rfl, rfl, rfl, rfl, S, hk⟩
            · rintro m16570 y1537 y1538 y1539 y1540 y1541 y1542 y1543 y1544 y1545 y1546 h1593 ⟨y1594, rfl, rfl, rfl, rfl, rfl, rfl, rfl, rfl, rfl, S, hit⟩
              obtain ⟨m1657, q1656, rfl, hf, hk⟩ := iter_some hit
              clear hit
              unfold B22_4
              unfold p22_l4 at hf
              try dsimp only at hf
              refine bP_intro (fun hc => ?_) (fun hc => ?_)
              · rw [if_pos (show y1546 < (y1463.length : Int) from of_decide_eq_true hc)] at hf
                obtain ⟨e1658, he1658, hf⟩ := obind hf
                obtain ⟨qe1658, q0e1658, q1e1658⟩ := SlR.ix (S.sl (r := (fz rB)) (.tail _ (.tail _ (.tail _ (.head _))))) he1658
                have pe1658 := (SlR.idx (S.sl (r := (fz rB)) (.tail _ (.tail _ (.tail _ (.head _))))) (Hp.le_refl _) he1658).1
                refine ifP_iff.2 ⟨qe1658, q0e1658, (by first | exact q1e1658 | exact (idx_lt he1658).2), ?_⟩
                obtain ⟨_, cr1659, Rr1659, Nr1659, Or1659, Zr1659⟩ := St.idxO (r := rB) S (.tail _ (.tail _ (.tail _ (.head _)))) he1658
                obtain rfl : cr1659 = [(.bool e1658)] := Rr1659
                refine ⟨e1658, Zr1659 _ rfl, ?_⟩
                intro jjj0
                have hjj0 : ∀  (h1675 : Heap) (y1686 : List (List Int)), p22_j0 y1546 y1686 = some q1656 → St h none' [rowC h.n [a0_0, a0_1] 0, own (oSl (oSl (fz (rI .i64)))) [(.slice h101.n 0 0 ((x0.Places.length : Int) : Int).toNat 1)] y1462, own (oSl (oSl (fz (rI .i64)))) [(.slice h317.n 0 0 ((x0.Trans.length : Int) : Int).toNat 1)] y1686, own (oSl (fz rB)) [(.slice h1289.n 0 0 ((x0.Trans.length : Int) : Int).toNat 1)] y1463] h1675 → jjj0 h1675 := by
                  rintro h1675 y1686 hf S
                  unfold p22_j0 at hf
                  unfold jjj0
                  obtain rfl := Option.some.inj hf
                  exact ⟨m1657, Nat.lt_succ_self _, y1686, rfl, rfl, rfl, rfl, rfl, rfl, rfl, rfl, rfl, S, hk⟩
                refine bP_intro (fun hc => ?_) (fun hc => ?_)
                · rw [if_pos (show e1658 = true from hc)] at hf
                  obtain ⟨e1688, he1688, hf⟩ := obind hf
                  obtain ⟨qe1688, q0e1688, q1e1688⟩ := SlR.ix (S.sl (r := (oSl (fz (rI .i64)))) (.tail _ (.tail _ (.head _)))) he1688
                  have pe1688 := (SlR.idx (S.sl (r := (oSl (fz (rI .i64)))) (.tail _ (.tail _ (.head _)))) (Hp.le_refl _) he1688).1
                  refine ifP_iff.2 ⟨qe1688, q0e1688, (by first | exact q1e1688 | exact (idx_lt he1688).2), ?_⟩
                  have S : St h none' [own (oSl (oSl (fz (rI .i64)))) [(.slice h317.n 0 0 ((x0.Trans.length : Int) : Int).toNat 1)] y1594, rowC h.n [a0_0, a0_1] 0, own (oSl (oSl (fz (rI .i64)))) [(.slice h101.n 0 0 ((x0.Places.length : Int) : Int).toNat 1)] y1462, own (oSl (fz rB)) [(.slice h1289.n 0 0 ((x0.Trans.length : Int) : Int).toNat 1)] y1463] h1593 := S.sel [2, 0, 1, 3] rfl
                  obtain ⟨cc1690, lc1690, S⟩ := St.out S he1688
                  obtain ⟨c1690, rfl⟩ : ∃ a, cc1690 = [a] := len1' lc1690
                  have S : St h none' [own (oSl (fz (rI .i64))) [c1690] e1688, hole (oSl (fz (rI .i64))) (.slice h317.n 0 0 ((x0.Trans.length : Int) : Int).toNat 1) y1594 (y429 : Int).toNat [c1690], rowC h.n [a0_0, a0_1] 0, own (oSl (oSl (fz (rI .i64)))) [(.slice h101.n 0 0 ((x0.Places.length : Int) : Int).toNat 1)] y1462, own (oSl (fz rB)) [(.slice h1289.n 0 0 ((x0.Trans.length : Int) : Int).toNat 1)] y1463] h1593 := S
                  refine ⟨c1690, (S.hrd (.tail _ (.head _))).2.2.2.2.2 _ rfl, ?_⟩
                  intro h1693
                  have S : St h none' [rowC h1593.n [(.int .i64 y1546)] 0, own (oSl (fz (rI .i64))) [c1690] e1688, hole (oSl (fz (rI .i64))) (.slice h317.n 0 0 ((x0.Trans.length : Int) : Int).toNat 1) y1594 (y429 : Int).toNat [c1690], rowC h.n [a0_0, a0_1] 0, own (oSl (oSl (fz (rI .i64)))) [(.slice h101.n 0 0 ((x0.Places.length : Int) : Int).toNat 1)] y1462, own (oSl (fz rB)) [(.slice h1289.n 0 0 ((x0.Trans.length : Int) : Int).toNat 1)] y1463] h1693 := S.pushRow [(.int .i64 y1546)]
                  obtain ⟨e1697, he1697, hf⟩ := obind hf
                  have S : St h none' [own (fz (rI .i64)) [(.int .i64 y1546)] y1546, rowC h1593.n [(.int .i64 y1546)] 0, own (oSl (fz (rI .i64))) [c1690] e1688, hole (oSl (fz (rI .i64))) (.slice h317.n 0 0 ((x0.Trans.length : Int) : Int).toNat 1) y1594 (y429 : Int).toNat [c1690], rowC h.n [a0_0, a0_1] 0, own (oSl (oSl (fz (rI .i64)))) [(.slice h101.n 0 0 ((x0.Places.length : Int) : Int).toNat 1)] y1462, own (oSl (fz rB)) [(.slice h1289.n 0 0 ((x0.Trans.length : Int) : Int).toNat 1)] y1463] h1693 := S.add (r := (rI .i64)) (x := y1546) rfl
                  have S : St h none' [own (oSl (fz (rI .i64))) [c1690] e1688, own (fz (rI .i64)) [(.int .i64 y1546)] y1546, rowC h1593.n [(.int .i64 y1546)] 0, hole (oSl (fz (rI .i64))) (.slice h317.n 0 0 ((x0.Trans.length : Int) : Int).toNat 1) y1594 (y429 : Int).toNat [c1690], rowC h.n [a0_0, a0_1] 0, own (oSl (oSl (fz (rI .i64)))) [(.slice h101.n 0 0 ((x0.Places.length : Int) : Int).toNat 1)] y1462, own (oSl (fz rB)) [(.slice h1289.n 0 0 ((x0.Trans.length : Int) : Int).toNat 1)] y1463] h1693 := S.sel [2, 0, 1, 3, 4, 5, 6] rfl
                  have me1697 := app_some he1697
                  obtain ⟨v1696, h1695, e1698, S⟩ := St.app1R (r := (fz (rI .i64))) (b := 8) S me1697.1
                  have S : St h none' [own (oSl (fz (rI .i64))) [v1696] e1697, hole (oSl (fz (rI .i64))) (.slice h317.n 0 0 ((x0.Trans.length : Int) : Int).toNat 1) y1594 (y429 : Int).toNat [c1690], rowC h.n [a0_0, a0_1] 0, own (oSl (oSl (fz (rI .i64)))) [(.slice h101.n 0 0 ((x0.Places.length : Int) : Int).toNat 1)] y1462, own (oSl (fz rB)) [(.slice h1289.n 0 0 ((x0.Trans.length : Int) : Int).toNat 1)] y1463] h1695 := S.cast (by rw [← me1697.2] <;> rfl)
                  refine ⟨v1696, h1695, e1698, ?_⟩
                  have p1700 := (S.hrd (.tail _ (.head _))).2.2.1
                  refine ifP_iff.2 ⟨(S.hrd (.tail _ (.head _))).1, (idx_lt he1688).1, (by first | exact (idx_lt he1688).2 | (have hq := (S.hrd (.tail _ (.head _))).2.1; have hq0 := (idx_lt he1688).1; omega)), ?_⟩
                  have S : St h none' [hole (oSl (fz (rI .i64))) (.slice h317.n 0 0 ((x0.Trans.length : Int) : Int).toNat 1) y1594 (y429 : Int).toNat [c1690], own (oSl (fz (rI .i64))) [v1696] e1697, rowC h.n [a0_0, a0_1] 0, own (oSl (oSl (fz (rI .i64)))) [(.slice h101.n 0 0 ((x0.Places.length : Int) : Int).toNat 1)] y1462, own (oSl (fz rB)) [(.slice h1289.n 0 0 ((x0.Trans.length : Int) : Int).toNat 1)] y1463] h1695 := S.sel [1, 0, 2, 3, 4] rfl
                  obtain ⟨h1701, e1702, S⟩ := S.hset (k := 0) (n := 1) (y := v1696) (c' := [v1696]) (by rw [sl_cells ((S.sl (r := (fz (rI .i64))) (.tail _ (.head _)))).is]; rfl) (sl_tup ((S.sl (r := (fz (rI .i64))) (.tail _ (.head _)))).is) (Nat.le_of_ble_eq_true rfl) (by rw [sl_cells ((S.sl (r := (fz (rI .i64))) (.tail _ (.head _)))).is]; rfl)
                  rw [padd_zero] at e1702
                  have S : St h none' [hole (oSl (fz (rI .i64))) (.slice h317.n 0 0 ((x0.Trans.length : Int) : Int).toNat 1) y1594 (y429 : Int).toNat [v1696], own (oSl (fz (rI .i64))) [v1696] e1697, rowC h.n [a0_0, a0_1] 0, own (oSl (oSl (fz (rI .i64)))) [(.slice h101.n 0 0 ((x0.Places.length : Int) : Int).toNat 1)] y1462, own (oSl (fz rB)) [(.slice h1289.n 0 0 ((x0.Trans.length : Int) : Int).toNat 1)] y1463] h1701 := S
                  refine ⟨h1701, e1702, ?_⟩
                  have S : St h none' [own (oSl (fz (rI .i64))) [v1696] e1697, hole (oSl (fz (rI .i64))) (.slice h317.n 0 0 ((x0.Trans.length : Int) : Int).toNat 1) y1594 (y429 : Int).toNat [v1696], rowC h.n [a0_0, a0_1] 0, own (oSl (oSl (fz (rI .i64)))) [(.slice h101.n 0 0 ((x0.Places.length : Int) : Int).toNat 1)] y1462, own (oSl (fz rB)) [(.slice h1289.n 0 0 ((x0.Trans.length : Int) : Int).toNat 1)] y1463] h1701 := S.sel [1, 0, 2, 3, 4] rfl
                  have S : St h none' [own (oSl (oSl (fz (rI .i64)))) [(.slice h317.n 0 0 ((x0.Trans.length : Int) : Int).toNat 1)] (y1594.set (y429 : Int).toNat e1697), rowC h.n [a0_0, a0_1] 0, own (oSl (oSl (fz (rI .i64)))) [(.slice h101.n 0 0 ((x0.Places.length : Int) : Int).toNat 1)] y1462, own (oSl (fz rB)) [(.slice h1289.n 0 0 ((x0.Trans.length : Int) : Int).toNat 1)] y1463] h1701 := S.back
                  have S : St h none' [rowC h.n [a0_0, a0_1] 0, own (oSl (oSl (fz (rI .i64)))) [(.slice h101.n 0 0 ((x0.Places.length : Int) : Int).toNat 1)] y1462, own (oSl (oSl (fz (rI .i64)))) [(.slice h317.n 0 0 ((x0.Trans.length : Int) : Int).toNat 1)] (y1594.set (y429 : Int).toNat e1697), own (oSl (fz rB)) [(.slice h1289.n 0 0 ((x0.Trans.length : Int) : Int).toNat 1)] y1463] h1701 := S.sel [1, 2, 0, 3] rfl
                  exact hjj0  _ (y1594.set (y429 : Int).toNat e1697) hf  S
                · rw [if_neg (show ¬ (e1658 = true) from by rw [show e1658 = false from hc]; exact Bool.false_ne_true)] at hf
                  exact hjj0  _ y1594 hf  S
              · rw [if_neg (show ¬ (y1546 < (y1463.length : Int)) from of_decide_eq_false hc)] at hf
                have S : St h none' [rowC h.n [a0_0, a0_1] 0, own (oSl (oSl (fz (rI .i64)))) [(.slice h101.n 0 0 ((x0.Places.length : Int) : Int).toNat 1)] y1462, own (oSl (oSl (fz (rI .i64)))) [(.slice h317.n 0 0 ((x0.Trans.length : Int) : Int).toNat 1)] y1594] h1593 := S.sel [0, 1, 2] rfl
                obtain rfl := Option.some.inj hf
                obtain rfl := hk
                exact ⟨y1594, rfl, rfl, rfl, rfl, rfl, rfl, S, rfl⟩
            · exact ⟨y851, rfl, rfl, rfl, rfl, rfl, rfl, rfl, rfl, rfl, S, hL⟩
          · rintro m14670 y1294 y1295 y1296 y1297 y1298 y1299 y1300 y1301 y1302 y1303 y1304 h1375 ⟨y1376, y1377, rfl, rfl, rfl, rfl, rfl, rfl, rfl, rfl, rfl, rfl, S, hit⟩
            obtain ⟨m1467, q1466, rfl, hf, hk⟩ := iter_some hit
            clear hit
            unfold B22_3
            unfold p22_l3 at hf
            try dsimp only at hf
            refine bP_intro (fun hc => ?_) (fun hc => ?_)
            · rw [if_pos (show y1304 < (e1285.Out.length : Int) from of_decide_eq_true hc)] at hf
              obtain ⟨e1468, he1468, hf⟩ := obind hf
              obtain ⟨qe1468, q0e1468, q1e1468⟩ := SlR.ix Fr1286_5 he1468
              have pe1468 := (SlR.idx Fr1286_5 (snap_mono S.le) he1468).1
              refine ifP_iff.2 ⟨qe1468, q0e1468, (by first | exact q1e1468 | exact (idx_lt he1468).2), ?_⟩
              obtain ⟨_, cr1469, Rr1469, Nr1469, Or1469, Zr1469⟩ := SlR.idx Fr1286_5 (snap_mono S.le) he1468
              obtain rfl := rArc_open Rr1469
              refine ⟨(.int .i64 e1468.Place), (.int .i64 e1468.N), Nr1469, ?_⟩
              intro h1470
              have S : St h none' [rowC h1375.n [(.int .i64 (0 : Int)), (.int .i64 (0 : Int))] 0, rowC h.n [a0_0, a0_1] 0, own (oSl (oSl (fz (rI .i64)))) [(.slice h101.n 0 0 ((x0.Places.length : Int) : Int).toNat 1)] y1376, own (oSl (oSl (fz (rI .i64)))) [(.slice h317.n 0 0 ((x0.Trans.length : Int) : Int).toNat 1)] y851, own (oSl (fz rB)) [(.slice h1289.n 0 0 ((x0.Trans.length : Int) : Int).toNat 1)] y1377] h1470 := S.pushRow [(.int .i64 (0 : Int)), (.int .i64 (0 : Int))]
              obtain ⟨h1472, e1473, S⟩ := S.store (off := 0) (n := 2) (x := (.agg [(.int .i64 e1468.Place), (.int .i64 e1468.N)])) (cs' := [(.int .i64 e1468.Place), (.int .i64 e1468.N)]) (Nat.le_of_ble_eq_true rfl) rfl rfl rfl
              have S : St h none' [rowC h1375.n [(.int .i64 e1468.Place), (.int .i64 e1468.N)] 0, rowC h.n [a0_0, a0_1] 0, own (oSl (oSl (fz (rI .i64)))) [(.slice h101.n 0 0 ((x0.Places.length : Int) : Int).toNat 1)] y1376, own (oSl (oSl (fz (rI .i64)))) [(.slice h317.n 0 0 ((x0.Trans.length : Int) : Int).toNat 1)] y851, own (oSl (fz rB)) [(.slice h1289.n 0 0 ((x0.Trans.length : Int) : Int).toNat 1)] y1377] h1472 := S
              refine ⟨h1472, e1473, ?_⟩
              refine ⟨e1468.Place, S.rd1 (.head _) rfl, ?_⟩
              obtain ⟨e1474, he1474, hf⟩ := obind hf
              obtain ⟨qe1474, q0e1474, q1e1474⟩ := SlR.ix (S.sl (r := (oSl (fz (rI .i64)))) (.tail _ (.tail _ (.head _)))) he1474
              have pe1474 := (SlR.idx (S.sl (r := (oSl (fz (rI .i64)))) (.tail _ (.tail _ (.head _)))) (Hp.le_refl _) he1474).1
              refine ifP_iff.2 ⟨qe1474, q0e1474, (by first | exact q1e1474 | exact (idx_lt he1474).2), ?_⟩
              have S : St h none' [own (oSl (oSl (fz (rI .i64)))) [(.slice h101.n 0 0 ((x0.Places.length : Int) : Int).toNat 1)] y1376, rowC h1375.n [(.int .i64 e1468.Place), (.int .i64 e1468.N)] 0, rowC h.n [a0_0, a0_1] 0, own (oSl (oSl (fz (rI .i64)))) [(.slice h317.n 0 0 ((x0.Trans.length : Int) : Int).toNat 1)] y851, own (oSl (fz rB)) [(.slice h1289.n 0 0 ((x0.Trans.length : Int) : Int).toNat 1)] y1377] h1472 := S.sel [2, 0, 1, 3, 4] rfl
              obtain ⟨cc1476, lc1476, S⟩ := St.out S he1474
              obtain ⟨c1476, rfl⟩ : ∃ a, cc1476 = [a] := len1' lc1476
              have S : St h none' [own (oSl (fz (rI .i64))) [c1476] e1474, hole (oSl (fz (rI .i64))) (.slice h101.n 0 0 ((x0.Places.length : Int) : Int).toNat 1) y1376 (e1468.Place : Int).toNat [c1476], rowC h1375.n [(.int .i64 e1468.Place), (.int .i64 e1468.N)] 0, rowC h.n [a0_0, a0_1] 0, own (oSl (oSl (fz (rI .i64)))) [(.slice h317.n 0 0 ((x0.Trans.length : Int) : Int).toNat 1)] y851, own (oSl (fz rB)) [(.slice h1289.n 0 0 ((x0.Trans.length : Int) : Int).toNat 1)] y1377] h1472 := S
              refine ⟨c1476, (S.hrd (.tail _ (.head _))).2.2.2.2.2 _ rfl, ?_⟩
              refine ifP_iff.2 ⟨((S.sl (r := (fz (rI .i64))) (.head _))).is, ?_⟩
              try rw [((S.sl (r := (fz (rI .i64))) (.head _))).slen]
              obtain ⟨res1527, hL, hf⟩ := obind hf
              obtain ⟨n1528, hL⟩ := loopC_iff.1 hL
              have S : St h none' [rowC h.n [a0_0, a0_1] 0, hole (oSl (fz (rI .i64))) (.slice h101.n 0 0 ((x0.Places.length : Int) : Int).toNat 1) y1376 (e1468.Place : Int).toNat [c1476], own (oSl (oSl (fz (rI .i64)))) [(.slice h317.n 0 0 ((x0.Trans.length : Int) : Int).toNat 1)] y851, own (oSl (fz rB)) [(.slice h1289.n 0 0 ((x0.Trans.length : Int) : Int).toNat 1)] y1377, own (oSl (fz (rI .i64))) [c1476] e1474] h1472 := S.sel [3, 1, 4, 5, 0] rfl
              refine loopm22_2 (X8 := fun (y1510 : AV) (y1511 : AV) (y1512 : AV) (y1513 : Int) (y1514 : AV) (y1515 : AV) (y1516 : Int) (y1517 : Int) (y1518 : AV) (y1519 : Int) (y1520 : Int) (y1521 : AV) (y1522 : Int) (y1523 : Int) (h1524 : Heap) => ∃ (y1525 : List (List Int)), ∃ (y1526 : List Bool), AV.ptr h.n 0 0 = y1510 ∧ (AV.slice h101.n 0 0 ((x0.Places.length : Int) : Int).toNat 1) = y1511 ∧ (AV.slice h317.n 0 0 ((x0.Trans.length : Int) : Int).toNat 1) = y1512 ∧ y429 = y1513 ∧ (AV.slice h1289.n 0 0 ((x0.Trans.length : Int) : Int).toNat 1) = y1514 ∧ a0_1 = y1515 ∧ (x0.Trans.length : Int) = y1516 ∧ y429 = y1517 ∧ cr1286_5 = y1518 ∧ (e1285.Out.length : Int) = y1519 ∧ y1304 = y1520 ∧ St h none' [rowC h.n [a0_0, a0_1] 0, own (oSl (oSl (fz (rI .i64)))) [(.slice h101.n 0 0 ((x0.Places.length : Int) : Int).toNat 1)] y1525, own (oSl (oSl (fz (rI .i64)))) [(.slice h317.n 0 0 ((x0.Trans.length : Int) : Int).toNat 1)] y851, own (oSl (fz rB)) [(.slice h1289.n 0 0 ((x0.Trans.length : Int) : Int).toNat 1)] y1526] h1524 ∧ (y1525, y1526) = res1527) ?_ (loop22_2 (I := fun (m1530 : Nat) (y1479 : AV) (y1480 : AV) (y1481 : AV) (y1482 : Int) (y1483 : AV) (y1484 : AV) (y1485 : Int) (y1486 : Int) (y1487 : AV) (y1488 : Int) (y1489 : Int) (y1490 : AV) (y1491 : Int) (y1492 : Int) (h1500 : Heap) => ∃ (y1501 : List Bool), AV.ptr h.n 0 0 = y1479 ∧ (AV.slice h101.n 0 0 ((x0.Places.length : Int) : Int).toNat 1) = y1480 ∧ (AV.slice h317.n 0 0 ((x0.Trans.length : Int) : Int).toNat 1) = y1481 ∧ y429 = y1482 ∧ (AV.slice h1289.n 0 0 ((x0.Trans.length : Int) : Int).toNat 1) = y1483 ∧ a0_1 = y1484 ∧ (x0.Trans.length : Int) = y1485 ∧ y429 = y1486 ∧ cr1286_5 = y1487 ∧ (e1285.Out.length : Int) = y1488 ∧ y1304 = y1489 ∧ c1476 = y1490 ∧ (e1474.length : Int) = y1491 ∧ St h none' [rowC h.n [a0_0, a0_1] 0, hole (oSl (fz (rI .i64))) (.slice h101.n 0 0 ((x0.Places.length : Int) : Int).toNat 1) y1376 (e1468.Place : Int).toNat [c1476], own (oSl (oSl (fz (rI .i64)))) [(.slice h317.n 0 0 ((x0.Trans.length : Int) : Int).toNat 1)] y851, own (oSl (fz rB)) [(.slice h1289.n 0 0 ((x0.Trans.length : Int) : Int).toNat 1)] y1501, own (oSl (fz (rI .i64))) [c1476] e1474] h1500 ∧ iter (p22_l2 y1376 e1474) m1530 (y1492, y1501) = some res1527) ?_ (m := n1528) ?_)
              · rintro y1510 y1511 y1512 y1513 y1514 y1515 y1516 y1517 y1518 y1519 y1520 y1521 y1522 y1523 h1524 ⟨y1525, y1526, rfl, rfl, rfl, rfl, rfl, rfl, rfl, rfl, rfl, rfl, rfl, S, rfl⟩
                try dsimp only at hf
                obtain rfl := Option.some.inj hf
                exact ⟨m1467, Nat.lt_succ_self _, y1525, y1526, rfl, rfl, rfl, rfl, rfl, rfl, rfl, rfl, rfl, rfl, S, hk⟩
              · rintro m15300 y1479 y1480 y1481 y1482 y1483 y1484 y1485 y1486 y1487 y1488 y1489 y1490 y1491 y1492 h1500 ⟨y1501, rfl, rfl, rfl, rfl, rfl, rfl, rfl, rfl, rfl, rfl, rfl, rfl, rfl, S, hit⟩
                obtain ⟨m1530, q1529, rfl, hf, hk⟩ := iter_some hit
                clear hit
                unfold B22_2
                unfold p22_l2 at hf
                try dsimp only at hf
                refine bP_intro (fun hc => ?_) (fun hc => ?_)
                · rw [if_pos (show y1492 < (e1474.length : Int) from of_decide_eq_true hc)] at hf
                  obtain ⟨e1531, he1531, hf⟩ := obind hf
                  obtain ⟨qe1531, q0e1531, q1e1531⟩ := SlR.ix (S.sl (r := (fz (rI .i64))) (.tail _ (.tail _ (.tail _ (.tail _ (.head _)))))) he1531
                  have pe1531 := (SlR.idx (S.sl (r := (fz (rI .i64))) (.tail _ (.tail _ (.tail _ (.tail _ (.head _)))))) (Hp.le_refl _) he1531).1
                  refine ifP_iff.2 ⟨qe1531, q0e1531, (by first | exact q1e1531 | exact (idx_lt he1531).2), ?_⟩
                  obtain ⟨_, cr1532, Rr1532, Nr1532, Or1532, Zr1532⟩ := St.idxO (r := (rI .i64)) S (.tail _ (.tail _ (.tail _ (.tail _ (.head _))))) he1531
                  obtain rfl : cr1532 = [(.int .i64 e1531)] := Rr1532
                  refine ⟨e1531, Zr1532 _ rfl, ?_⟩
                  obtain ⟨e1533, he1533, hf⟩ := obind hf
                  obtain ⟨qe1533, q0e1533, q1e1533⟩ := SlR.ix (S.sl (r := (fz rB)) (.tail _ (.tail _ (.tail _ (.head _))))) he1533
                  have pe1533 := (SlR.idx (S.sl (r := (fz rB)) (.tail _ (.tail _ (.tail _ (.head _))))) (Hp.le_refl _) he1533).1
                  refine ifP_iff.2 ⟨qe1533, q0e1533, (by first | exact q1e1533 | exact (idx_lt he1533).2), ?_⟩
                  obtain ⟨y1536, hy1536, hf⟩ := obind hf
                  have S : St h none' [own (oSl (fz rB)) [(.slice h1289.n 0 0 ((x0.Trans.length : Int) : Int).toNat 1)] y1501, rowC h.n [a0_0, a0_1] 0, hole (oSl (fz (rI .i64))) (.slice h101.n 0 0 ((x0.Places.length : Int) : Int).toNat 1) y1376 (e1468.Place : Int).toNat [c1476], own (oSl (oSl (fz (rI .i64)))) [(.slice h317.n 0 0 ((x0.Trans.length : Int) : Int).toNat 1)] y851, own (oSl (fz (rI .i64))) [c1476] e1474] h1500 := S.sel [3, 0, 1, 2, 4] rfl
                  obtain ⟨h1534, e1535, S⟩ := St.setE (r := rB) (x' := true) (k := 0) (n := 1) (y := (.bool true)) S he1533 rfl rfl (Nat.le_of_ble_eq_true rfl) (by rintro _ h; obtain rfl := h; exact rfl)
                  rw [padd_zero] at e1535
                  have S : St h none' [own (oSl (fz rB)) [(.slice h1289.n 0 0 ((x0.Trans.length : Int) : Int).toNat 1)] y1536, rowC h.n [a0_0, a0_1] 0, hole (oSl (fz (rI .i64))) (.slice h101.n 0 0 ((x0.Places.length : Int) : Int).toNat 1) y1376 (e1468.Place : Int).toNat [c1476], own (oSl (oSl (fz (rI .i64)))) [(.slice h317.n 0 0 ((x0.Trans.length : Int) : Int).toNat 1)] y851, own (oSl (fz (rI .i64))) [c1476] e1474] h1534 := S.cast (by rw [← Option.some.inj hy1536] <;> rfl)
                  refine ⟨h1534, e1535, ?_⟩
                  have S : St h none' [rowC h.n [a0_0, a0_1] 0, hole (oSl (fz (rI .i64))) (.slice h101.n 0 0 ((x0.Places.length : Int) : Int).toNat 1) y1376 (e1468.Place : Int).toNat [c1476], own (oSl (oSl (fz (rI .i64)))) [(.slice h317.n 0 0 ((x0.Trans.length : Int) : Int).toNat 1)] y851, own (oSl (fz rB)) [(.slice h1289.n 0 0 ((x0.Trans.length : Int) : Int).toNat 1)] y1536, own (oSl (fz (rI .i64))) [c1476] e1474] h1534 := S.sel [1, 2, 3, 0, 4] rfl
                  obtain rfl := Option.some.inj hf
                  exact ⟨m1530, Nat.lt_succ_self _, y1536, rfl, rfl, rfl, rfl, rfl, rfl, rfl, rfl, rfl, rfl, rfl, rfl, rfl, S, hk⟩
                · rw [if_neg (show ¬ (y1492 < (e1474.length : Int)) from of_decide_eq_false hc)] at hf
                  have S : St h none' [own (oSl (fz (rI .i64))) [c1476] e1474, hole (oSl (fz (rI .i64))) (.slice h101.n 0 0 ((x0.Places.length : Int) : Int).toNat 1) y1376 (e1468.Place : Int).toNat [c1476], rowC h.n [a0_0, a0_1] 0, own (oSl (oSl (fz (rI .i64)))) [(.slice h317.n 0 0 ((x0.Trans.length : Int) : Int).toNat 1)] y851, own (oSl (fz rB)) [(.slice h1289.n 0 0 ((x0.Trans.length : Int) : Int).toNat 1)] y1501] h1500 := S.sel [4, 1, 0, 2, 3] rfl
                  have S : St h none' [own (oSl (oSl (fz (rI .i64)))) [(.slice h101.n 0 0 ((x0.Places.length : Int) : Int).toNat 1)] y1376, rowC h.n [a0_0, a0_1] 0, own (oSl (oSl (fz (rI .i64)))) [(.slice h317.n 0 0 ((x0.Trans.length : Int) : Int).toNat 1)] y851, own (oSl (fz rB)) [(.slice h1289.n 0 0 ((x0.Trans.length : Int) : Int).toNat 1)] y1501] h1500 := S.back.cast (by rw [set_same he1474])
                  have S : St h none' [rowC h.n [a0_0, a0_1] 0, own (oSl (oSl (fz (rI .i64)))) [(.slice h101.n 0 0 ((x0.Places.length : Int) : Int).toNat 1)] y1376, own (oSl (oSl (fz (rI .i64)))) [(.slice h317.n 0 0 ((x0.Trans.length : Int) : Int).toNat 1)] y851, own (oSl (fz rB)) [(.slice h1289.n 0 0 ((x0.Trans.length : Int) : Int).toNat 1)] y1501] h1500 := S.sel [1, 0, 2, 3] rfl
                  obtain rfl := Option.some.inj hf
                  obtain rfl := hk
                  exact ⟨y1376, y1501, rfl, rfl, rfl, rfl, rfl, rfl, rfl, rfl, rfl, rfl, rfl, S, rfl⟩
              · exact ⟨y1377, rfl, rfl, rfl, rfl, rfl, rfl, rfl, rfl, rfl, rfl, rfl, rfl, rfl, S, hL⟩
            · rw [if_neg (show ¬ (y1304 < (e1285.Out.length : Int)) from of_decide_eq_false hc)] at hf
              obtain rfl := Option.some.inj hf
              obtain rfl := hk
              exact ⟨y1376, y1377, rfl, rfl, rfl, rfl, rfl, rfl, rfl, rfl, S, rfl⟩
          · exact ⟨y850, y1291, rfl, rfl, rfl, rfl, rfl, rfl, rfl, rfl, rfl, rfl, S, hL⟩
      · rw [if_neg (show ¬ (y429 < (x0.Trans.length : Int)) from of_decide_eq_false hc)] at hf
        have S : St h none' [own (oSl (oSl (fz (rI .i64)))) [(.slice h317.n 0 0 ((x0.Trans.length : Int) : Int).toNat 1)] y851] h849 := S.sel [2] rfl
        obtain rfl := Option.some.inj hf
        obtain rfl := hk
        exact ⟨y851, rfl, S, rfl⟩
    · exact ⟨y318, y421, rfl, rfl, rfl, rfl, rfl, S, hL⟩
  · rintro m3220 y106 y107 y108 y109 y110 h210 ⟨y211, rfl, rfl, rfl, rfl, S, hit⟩
    obtain ⟨m322, q321, rfl, hf, hk⟩ := iter_some hit
    clear hit
    unfold B22_1
    unfold p22_l1 at hf
    try dsimp only at hf
    refine bP_intro (fun hc => ?_) (fun hc => ?_)
    · rw [if_pos (show y110 < (x0.Trans.length : Int) from of_decide_eq_true hc)] at hf
      obtain ⟨e323, he323, hf⟩ := obind hf
      obtain ⟨qe323, q0e323, q1e323⟩ := SlR.ix f0_1 he323
      have pe323 := (SlR.idx f0_1 (snap_mono S.le) he323).1
      refine ifP_iff.2 ⟨qe323, q0e323, (by first | exact q1e323 | exact (idx_lt he323).2), ?_⟩
      obtain ⟨_, cr324, Rr324, Nr324, Or324, Zr324⟩ := SlR.idx f0_1 (snap_mono S.le) he323
      obtain ⟨cr324_3, cr324_4, cr324_5, rfl, Fr324_3, Fr324_4, Fr324_5⟩ := rTrans_open Rr324
      refine ⟨(.str e323.Name), (.int .i64 e323.Delay), (.int .i64 e323.Prio), cr324_3, cr324_4, cr324_5, Nr324, ?_⟩
      intro h325
      have S : St h none' [rowC h210.n [(.str ([] : List UInt8)), (.int .i64 (0 : Int)), (.int .i64 (0 : Int)), .nilSlice, .nilSlice, .nilSlice] 0, rowC h.n [a0_0, a0_1] 0, own (oSl (oSl (fz (rI .i64)))) [(.slice h101.n 0 0 ((x0.Places.length : Int) : Int).toNat 1)] y211] h325 := S.pushRow [(.str ([] : List UInt8)), (.int .i64 (0 : Int)), (.int .i64 (0 : Int)), .nilSlice, .nilSlice, .nilSlice]
      obtain ⟨h327, e328, S⟩ := S.store (off := 0) (n := 6) (x := (.agg [(.str e323.Name), (.int .i64 e323.Delay), (.int .i64 e323.Prio), cr324_3, cr324_4, cr324_5])) (cs' := [(.str e323.Name), (.int .i64 e323.Delay), (.int .i64 e323.Prio), cr324_3, cr324_4, cr324_5]) (Nat.le_of_ble_eq_true rfl) rfl rfl rfl
      have S : St h none' [rowC h210.n [(.str e323.Name), (.int .i64 e323.Delay), (.int .i64 e323.Prio), cr324_3, cr324_4, cr324_5] 0, rowC h.n [a0_0, a0_1] 0, own (oSl (oSl (fz (rI .i64)))) [(.slice h101.n 0 0 ((x0.Places.length : Int) : Int).toNat 1)] y211] h327 := S
      refine ⟨h327, e328, ?_⟩
      refine ⟨cr324_3, S.rd1 (.head _) rfl, ?_⟩
      refine ifP_iff.2 ⟨(Fr324_3).is, ?_⟩
      try rw [(Fr324_3).slen]
      obtain ⟨res396, hL, hf⟩ := obind hf
      obtain ⟨n397, hL⟩ := loopC_iff.1 hL
      have S : St h none' [rowC h.n [a0_0, a0_1] 0, own (oSl (oSl (fz (rI .i64)))) [(.slice h101.n 0 0 ((x0.Places.length : Int) : Int).toNat 1)] y211] h327 := S.sel [1, 2] rfl
      refine loopm22_0 (X2 := fun (y385 : AV) (y386 : AV) (y387 : Int) (y388 : AV) (y389 : Int) (y390 : Int) (y391 : AV) (y392 : Int) (y393 : Int) (h394 : Heap) => ∃ (y395 : List (List Int)), AV.ptr h.n 0 0 = y385 ∧ (AV.slice h101.n 0 0 ((x0.Places.length : Int) : Int).toNat 1) = y386 ∧ a0_1 = y388 ∧ (x0.Trans.length : Int) = y389 ∧ y110 = y390 ∧ St h none' [rowC h.n [a0_0, a0_1] 0, own (oSl (oSl (fz (rI .i64)))) [(.slice h101.n 0 0 ((x0.Places.length : Int) : Int).toNat 1)] y395] h394 ∧ y395 = res396) ?_ (loop22_0 (I := fun (m399 : Nat) (y329 : AV) (y330 : AV) (y331 : Int) (y332 : AV) (y333 : Int) (y334 : Int) (y335 : AV) (y336 : Int) (y337 : Int) (h360 : Heap) => ∃ (y361 : List (List Int)), AV.ptr h.n 0 0 = y329 ∧ (AV.slice h101.n 0 0 ((x0.Places.length : Int) : Int).toNat 1) = y330 ∧ y110 = y331 ∧ a0_1 = y332 ∧ (x0.Trans.length : Int) = y333 ∧ y110 = y334 ∧ cr324_3 = y335 ∧ (e323.In.length : Int) = y336 ∧ St h none' [rowC h.n [a0_0, a0_1] 0, own (oSl (oSl (fz (rI .i64)))) [(.slice h101.n 0 0 ((x0.Places.length : Int) : Int).toNat 1)] y361] h360 ∧ iter (p22_l0 y110 e323) m399 (y337, y361) = some res396) ?_ (m := n397) ?_)
      · rintro y385 y386 y387 y388 y389 y390 y391 y392 y393 h394 ⟨y395, rfl, rfl, rfl, rfl, rfl, S, rfl⟩
        try dsimp only at hf
        obtain rfl := Option.some.inj hf
        exact ⟨m322, Nat.lt_succ_self _, y395, rfl, rfl, rfl, rfl, S, hk⟩
      · rintro m3990 y329 y330 y331 y332 y333 y334 y335 y336 y337 h360 ⟨y361, rfl, rfl, rfl, rfl, rfl, rfl, rfl, rfl, S, hit⟩
        obtain ⟨m399, q398, rfl, hf, hk⟩ := iter_some hit
        clear hit
        unfold B22_0
        unfold p22_l0 at hf
        try dsimp only at hf
        refine bP_intro (fun hc => ?_) (fun hc => ?_)
        · rw [if_pos (show y337 < (e323.In.length : Int) from of_decide_eq_true hc)] at hf
          obtain ⟨e400, he400, hf⟩ := obind hf
          obtain ⟨qe400, q0e400, q1e400⟩ := SlR.ix Fr324_3 he400
          have pe400 := (SlR.idx Fr324_3 (snap_mono S.le) he400).1
          refine ifP_iff.2 ⟨qe400, q0e400, (by first | exact q1e400 | exact (idx_lt he400).2), ?_⟩
          obtain ⟨_, cr401, Rr401, Nr401, Or401, Zr401⟩ := SlR.idx Fr324_3 (snap_mono S.le) he400
          obtain rfl := rArc_open Rr401
          refine ⟨(.int .i64 e400.Place), (.int .i64 e400.N), Nr401, ?_⟩
          intro h402
          have S : St h none' [rowC h360.n [(.int .i64 (0 : Int)), (.int .i64 (0 : Int))] 0, rowC h.n [a0_0, a0_1] 0, own (oSl (oSl (fz (rI .i64)))) [(.slice h101.n 0 0 ((x0.Places.length : Int) : Int).toNat 1)] y361] h402 := S.pushRow [(.int .i64 (0 : Int)), (.int .i64 (0 : Int))]
          obtain ⟨h404, e405, S⟩ := S.store (off := 0) (n := 2) (x := (.agg [(.int .i64 e400.Place), (.int .i64 e400.N)])) (cs' := [(.int .i64 e400.Place), (.int .i64 e400.N)]) (Nat.le_of_ble_eq_true rfl) rfl rfl rfl
          have S : St h none' [rowC h360.n [(.int .i64 e400.Place), (.int .i64 e400.N)] 0, rowC h.n [a0_0, a0_1] 0, own (oSl (oSl (fz (rI .i64)))) [(.slice h101.n 0 0 ((x0.Places.length : Int) : Int).toNat 1)] y361] h404 := S
          refine ⟨h404, e405, ?_⟩
          have S_2 := S
          refine ⟨e400.Place, S.rd1 (.head _) rfl, ?_⟩
          refine ⟨e400.Place, S.rd1 (.head _) rfl, ?_⟩
          obtain ⟨e406, he406, hf⟩ := obind hf
          obtain ⟨qe406, q0e406, q1e406⟩ := SlR.ix (S.sl (r := (oSl (fz (rI .i64)))) (.tail _ (.tail _ (.head _)))) he406
          have pe406 := (SlR.idx (S.sl (r := (oSl (fz (rI .i64)))) (.tail _ (.tail _ (.head _)))) (Hp.le_refl _) he406).1
          refine ifP_iff.2 ⟨qe406, q0e406, (by first | exact q1e406 | exact (idx_lt he406).2), ?_⟩
          have S : St h none' [own (oSl (oSl (fz (rI .i64)))) [(.slice h101.n 0 0 ((x0.Places.length : Int) : Int).toNat 1)] y361, rowC h360.n [(.int .i64 e400.Place), (.int .i64 e400.N)] 0, rowC h.n [a0_0, a0_1] 0] h404 := S.sel [2, 0, 1] rfl
          obtain ⟨cc408, lc408, S⟩ := St.out S he406
          obtain ⟨c408, rfl⟩ : ∃ a, cc408 = [a] := len1' lc408
          have S : St h none' [own (oSl (fz (rI .i64))) [c408] e406, hole (oSl (fz (rI .i64))) (.slice h101.n 0 0 ((x0.Places.length : Int) : Int).toNat 1) y361 (e400.Place : Int).toNat [c408], rowC h360.n [(.int .i64 e400.Place), (.int .i64 e400.N)] 0, rowC h.n [a0_0, a0_1] 0] h404 := S
          refine ⟨c408, (S.hrd (.tail _ (.head _))).2.2.2.2.2 _ rfl, ?_⟩
          intro h411
          have S : St h none' [rowC h404.n [(.int .i64 y110)] 0, own (oSl (fz (rI .i64))) [c408] e406, hole (oSl (fz (rI .i64))) (.slice h101.n 0 0 ((x0.Places.length : Int) : Int).toNat 1) y361 (e400.Place : Int).toNat [c408], rowC h360.n [(.int .i64 e400.Place), (.int .i64 e400.N)] 0, rowC h.n [a0_0, a0_1] 0] h411 := S.pushRow [(.int .i64 y110)]
          have S_10 := S
          obtain ⟨e415, he415, hf⟩ := obind hf
          have S : St h none' [own (fz (rI .i64)) [(.int .i64 y110)] y110, rowC h404.n [(.int .i64 y110)] 0, own (oSl (fz (rI .i64))) [c408] e406, hole (oSl (fz (rI .i64))) (.slice h101.n 0 0 ((x0.Places.length : Int) : Int).toNat 1) y361 (e400.Place : Int).toNat [c408], rowC h360.n [(.int .i64 e400.Place), (.int .i64 e400.N)] 0, rowC h.n [a0_0, a0_1] 0] h411 := S.add (r := (rI .i64)) (x := y110) rfl
          have S : St h none' [own (oSl (fz (rI .i64))) [c408] e406, own (fz (rI .i64)) [(.int .i64 y110)] y110, rowC h404.n [(.int .i64 y110)] 0, hole (oSl (fz (rI .i64))) (.slice h101.n 0 0 ((x0.Places.length : Int) : Int).toNat 1) y361 (e400.Place : Int).toNat [c408], rowC h360.n [(.int .i64 e400.Place), (.int .i64 e400.N)] 0, rowC h.n [a0_0, a0_1] 0] h411 := S.sel [2, 0, 1, 3, 4, 5] rfl
          have me415 := app_some he415
          obtain ⟨v414, h413, e416, S⟩ := St.app1R (r := (fz (rI .i64))) (b := 8) S me415.1
          have S : St h none' [own (oSl (fz (rI .i64))) [v414] e415, hole (oSl (fz (rI .i64))) (.slice h101.n 0 0 ((x0.Places.length : Int) : Int).toNat 1) y361 (e400.Place : Int).toNat [c408], rowC h360.n [(.int .i64 e400.Place), (.int .i64 e400.N)] 0, rowC h.n [a0_0, a0_1] 0] h413 := S.cast (by rw [← me415.2] <;> rfl)
          refine ⟨v414, h413, e416, ?_⟩
          have S_11 := S
          have p418 := (S.hrd (.tail _ (.head _))).2.2.1
          refine ifP_iff.2 ⟨(S.hrd (.tail _ (.head _))).1, (idx_lt he406).1, (by first | exact (idx_lt he406).2 | (have hq := (S.hrd (.tail _ (.head _))).2.1; have hq0 := (idx_lt he406).1; omega)), ?_⟩
          have S : St h none' [hole (oSl (fz (rI .i64))) (.slice h101.n 0 0 ((x0.Places.length : Int) : Int).toNat 1) y361 (e400.Place : Int).toNat [c408], own (oSl (fz (rI .i64))) [v414] e415, rowC h360.n [(.int .i64 e400.Place), (.int .i64 e400.N)] 0, rowC h.n [a0_0, a0_1] 0] h413 := S.sel [1, 0, 2, 3] rfl
          obtain ⟨h419, e420, S⟩ := S.hset (k := 0) (n := 1) (y := v414) (c' := [v414]) (by rw [sl_cells ((S.sl (r := (fz (rI .i64))) (.tail _ (.head _)))).is]; rfl) (sl_tup ((S.sl (r := (fz (rI .i64))) (.tail _ (.head _)))).is) (Nat.le_of_ble_eq_true rfl) (by rw [sl_cells ((S.sl (r := (fz (rI .i64))) (.tail _ (.head _)))).is]; rfl)
          rw [padd_zero] at e420
          have S : St h none' [hole (oSl (fz (rI .i64))) (.slice h101.n 0 0 ((x0.Places.length : Int) : Int).toNat 1) y361 (e400.Place : Int).toNat [v414], own (oSl (fz (rI .i64))) [v414] e415, rowC h360.n [(.int .i64 e400.Place), (.int .i64 e400.N)] 0, rowC h.n [a0_0, a0_1] 0] h419 := S
          refine ⟨h419, e420, ?_⟩
          refine ⟨⟨(.int .i64 e400.Place), S_2.rd1 (.head _) rfl, S_10.rd1 (.tail _ (.tail _ (.tail _ (.head _)))) rfl, S_11.rd1 (.tail _ (.tail _ (.head _))) rfl⟩, ?_⟩
          have S : St h none' [own (oSl (fz (rI .i64))) [v414] e415, hole (oSl (fz (rI .i64))) (.slice h101.n 0 0 ((x0.Places.length : Int) : Int).toNat 1) y361 (e400.Place : Int).toNat [v414], rowC h360.n [(.int .i64 e400.Place), (.int .i64 e400.N)] 0, rowC h.n [a0_0, a0_1] 0] h419 := S.sel [1, 0, 2, 3] rfl
          have S : St h none' [own (oSl (oSl (fz (rI .i64)))) [(.slice h101.n 0 0 ((x0.Places.length : Int) : Int).toNat 1)] (y361.set (e400.Place : Int).toNat e415), rowC h360.n [(.int .i64 e400.Place), (.int .i64 e400.N)] 0, rowC h.n [a0_0, a0_1] 0] h419 := S.back
          have S : St h none' [rowC h.n [a0_0, a0_1] 0, own (oSl (oSl (fz (rI .i64)))) [(.slice h101.n 0 0 ((x0.Places.length : Int) : Int).toNat 1)] (y361.set (e400.Place : Int).toNat e415)] h419 := S.sel [2, 0] rfl
          obtain rfl := Option.some.inj hf
          exact ⟨m399, Nat.lt_succ_self _, (y361.set (e400.Place : Int).toNat e415), rfl, rfl, rfl, rfl, rfl, rfl, rfl, rfl, S, hk⟩
        · rw [if_neg (show ¬ (y337 < (e323.In.length : Int)) from of_decide_eq_false hc)] at hf
          obtain rfl := Option.some.inj hf
          obtain rfl := hk
          exact ⟨y361, rfl, rfl, rfl, rfl, rfl, S, rfl⟩
      · exact ⟨y211, rfl, rfl, rfl, rfl, rfl, rfl, rfl, rfl, S, hL⟩
    · rw [if_neg (show ¬ (y110 < (x0.Trans.length : Int)) from of_decide_eq_false hc)] at hf
      obtain rfl := Option.some.inj hf
      obtain rfl := hk
      exact ⟨y211, rfl, rfl, S, rfl⟩
  · exact ⟨y103, rfl, rfl, rfl, rfl, S, hL⟩
/-! 20: marblerun/loops.Find -/
noncomputable def p20_j0 (y115 : Int) (on145 : List Bool) (b196 : Bool) : Option ((Int × (List Bool)) ⊕ (List Bool)) := (idx on145 y115).bind fun e206 => (some (on145.set (y115 : Int).toNat b196)).bind fun on209 => some (.inl ((IntKind.wrap .i64 (y115 + (1 : Int))), on209))
noncomputable def p20_l0 (n0 : TNet) (y105 : List (List Int)) (st : Int × (List Bool)) : Option ((Int × (List Bool)) ⊕ (List Bool)) := match st with | (y115, on145) => if y115 < (n0.Trans.length : Int) then ((idx n0.Trans y115).bind fun e187 => if e187.Delay = (0 : Int) then ((p40 y105 n0 y115).bind fun y213 => p20_j0 y115 on145 y213) else (p20_j0 y115 on145 false)) else (some (.inr on145))
noncomputable def p20 (n0 : TNet) : Option (List Bool) := (p22 n0).bind fun y105 => (mkS 1 (n0.Trans.length : Int) (n0.Trans.length : Int) false).bind fun y107 => (loopC (p20_l0 n0 y105) ((0 : Int), y107)).bind fun res183 => ((fun (on182 : List Bool) => some on182) res183)
theorem r20 {h : Heap} {a0_0 : AV} {a0_1 : AV} {n0 : TNet} (f0_0 : SlR rPlace (Snap h) a0_0 n0.Places) (f0_1 : SlR rTrans (Snap h) a0_1 n0.Trans) {r : List Bool} (hf : p20 n0 = some r) : ZCalls F 20 [(.agg [a0_0, a0_1])] h fun v h' => St h none' [own (oSl (fz rB)) [v] r] h' := by
  refine w20 ?_
  unfold W20
  unfold p20 at hf
  have S : St h none' [] h := St.refl _ _
  intro h101
  have S : St h none' [rowC h.n [a0_0, a0_1] 0] h101 := S.pushRow [a0_0, a0_1]
  refine ⟨a0_0, a0_1, S.rdN (.head _) (Nat.le_of_ble_eq_true rfl) rfl, ?_⟩
  obtain ⟨y105, hy105, hf⟩ := obind hf
  refine ⟨_, Fz.refl _, ?_⟩
  refine (r22 (x0 := n0) (f0_0 := (SlR.mono (snap_mono S.le) f0_0)) (f0_1 := (SlR.mono (snap_mono S.le) f0_1)) hy105).mono fun v103 h104 T => ?_
  have S : St h none' [own (oSl (oSl (fz (rI .i64)))) [v103] y105, rowC h.n [a0_0, a0_1] 0] h104 := S.comp T
  refine ⟨a0_1, S.rd1 (.tail _ (.head _)) rfl, ?_⟩
  refine ifP_iff.2 ⟨(f0_1).is, ?_⟩
  try rw [(f0_1).slen]
  obtain ⟨y107, hy107, hf⟩ := obind hf
  obtain ⟨my107, ey107⟩ := mkS_some hy107
  refine ⟨my107, ?_⟩
  intro h108
  have S : St h none' [own (oSl (fz rB)) [(.slice h104.n 0 0 ((n0.Trans.length : Int) : Int).toNat 1)] y107, own (oSl (oSl (fz (rI .i64)))) [v103] y105, rowC h.n [a0_0, a0_1] 0] h108 := (S.make (r := (fz rB)) (zero := [(.bool false)]) (x := false) (fun _ => ⟨rfl, rfl⟩) _).cast (by rw [ey107]; rfl)
  refine ⟨a0_1, S.rd1 (.tail _ (.tail _ (.head _))) rfl, ?_⟩
  refine ifP_iff.2 ⟨(f0_1).is, ?_⟩
  try rw [(f0_1).slen]
  obtain ⟨res183, hL, hf⟩ := obind hf
  obtain ⟨n184, hL⟩ := loopC_iff.1 hL
  have S : St h none' [rowC h.n [a0_0, a0_1] 0, own (oSl (oSl (fz (rI .i64)))) [v103] y105, own (oSl (fz rB)) [(.slice h104.n 0 0 ((n0.Trans.length : Int) : Int).toNat 1)] y107] h108 := S.sel [2, 1, 0] rfl
  refine loopm20_0 (X0 := fun (n175 : AV) (next176 : AV) (on177 : AV) (y178 : AV) (y179 : Int) (y180 : Int) (h181 : Heap) => ∃ (on182 : List Bool), (AV.slice h104.n 0 0 ((n0.Trans.length : Int) : Int).toNat 1) = on177 ∧ St h none' [own (oSl (fz rB)) [(.slice h104.n 0 0 ((n0.Trans.length : Int) : Int).toNat 1)] on182] h181 ∧ on182 = res183) ?_ (loop20_0 (I := fun (m186 : Nat) (n110 : AV) (next111 : AV) (on112 : AV) (y113 : AV) (y114 : Int) (y115 : Int) (h144 : Heap) => ∃ (on145 : List Bool), AV.ptr h.n 0 0 = n110 ∧ v103 = next111 ∧ (AV.slice h104.n 0 0 ((n0.Trans.length : Int) : Int).toNat 1) = on112 ∧ a0_1 = y113 ∧ (n0.Trans.length : Int) = y114 ∧ St h none' [rowC h.n [a0_0, a0_1] 0, own (oSl (oSl (fz (rI .i64)))) [v103] y105, own (oSl (fz rB)) [(.slice h104.n 0 0 ((n0.Trans.length : Int) : Int).toNat 1)] on145] h144 ∧ iter (p20_l0 n0 y105) m186 (y115, on145) = some res183) ?_ (m := n184) ?_)
  · rintro n175 next176 on177 y178 y179 y180 h181 ⟨on182, rfl, S, rfl⟩
    try dsimp only at hf
    obtain rfl := Option.some.inj hf
    exact S.sel [0] rfl
  · rintro m1860 n110 next111 on112 y113 y114 y115 h144 ⟨on145, rfl, rfl, rfl, rfl, rfl, S, hit⟩
    obtain ⟨m186, q185, rfl, hf, hk⟩ := iter_some hit
    clear hit
    unfold B20_0
    unfold p20_l0 at hf
    try dsimp only at hf
    refine bP_intro (fun hc => ?_) (fun hc => ?_)
    · rw [if_pos (show y115 < (n0.Trans.length : Int) from of_decide_eq_true hc)] at hf
      obtain ⟨e187, he187, hf⟩ := obind hf
      obtain ⟨qe187, q0e187, q1e187⟩ := SlR.ix f0_1 he187
      have pe187 := (SlR.idx f0_1 (snap_mono S.le) he187).1
      refine ifP_iff.2 ⟨qe187, q0e187, (by first | exact q1e187 | exact (idx_lt he187).2), ?_⟩
      obtain ⟨_, cr188, Rr188, Nr188, Or188, Zr188⟩ := SlR.idx f0_1 (snap_mono S.le) he187
      obtain ⟨cr188_3, cr188_4, cr188_5, rfl, Fr188_3, Fr188_4, Fr188_5⟩ := rTrans_open Rr188
      refine ⟨(.str e187.Name), (.int .i64 e187.Delay), (.int .i64 e187.Prio), cr188_3, cr188_4, cr188_5, Nr188, ?_⟩
      intro h189
      have S : St h none' [rowC h144.n [(.str ([] : List UInt8)), (.int .i64 (0 : Int)), (.int .i64 (0 : Int)), .nilSlice, .nilSlice, .nilSlice] 0, rowC h.n [a0_0, a0_1] 0, own (oSl (oSl (fz (rI .i64)))) [v103] y105, own (oSl (fz rB)) [(.slice h104.n 0 0 ((n0.Trans.length : Int) : Int).toNat 1)] on145] h189 := S.pushRow [(.str ([] : List UInt8)), (.int .i64 (0 : Int)), (.int .i64 (0 : Int)), .nilSlice, .nilSlice, .nilSlice]
      obtain ⟨h191, e192, S⟩ := S.store (off := 0) (n := 6) (x := (.agg [(.str e187.Name), (.int .i64 e187.Delay), (.int .i64 e187.Prio), cr188_3, cr188_4, cr188_5])) (cs' := [(.str e187.Name), (.int .i64 e187.Delay), (.int .i64 e187.Prio), cr188_3, cr188_4, cr188_5]) (Nat.le_of_ble_eq_true rfl) rfl rfl rfl
      have S : St h none' [rowC h144.n [(.str e187.Name), (.int .i64 e187.Delay), (.int .i64 e187.Prio), cr188_3, cr188_4, cr188_5] 0, rowC h.n [a0_0, a0_1] 0, own (oSl (oSl (fz (rI .i64)))) [v103] y105, own (oSl (fz rB)) [(.slice h104.n 0 0 ((n0.Trans.length : Int) : Int).toNat 1)] on145] h191 := S
      refine ⟨h191, e192, ?_⟩
      refine ⟨e187.Delay, S.rd1 (.head _) rfl, ?_⟩
      intro jjj0
      have hjj0 : ∀ (b196 : Bool) (h197 : Heap), p20_j0 y115 on145 b196 = some q185 → St h none' [rowC h.n [a0_0, a0_1] 0, own (oSl (oSl (fz (rI .i64)))) [v103] y105, own (oSl (fz rB)) [(.slice h104.n 0 0 ((n0.Trans.length : Int) : Int).toNat 1)] on145] h197 → jjj0 b196 h197 := by
        rintro b196 h197 hf S
        unfold p20_j0 at hf
        unfold jjj0
        obtain ⟨e206, he206, hf⟩ := obind hf
        obtain ⟨qe206, q0e206, q1e206⟩ := SlR.ix (S.sl (r := (fz rB)) (.tail _ (.tail _ (.head _)))) he206
        have pe206 := (SlR.idx (S.sl (r := (fz rB)) (.tail _ (.tail _ (.head _)))) (Hp.le_refl _) he206).1
        refine ifP_iff.2 ⟨qe206, q0e206, (by first | exact q1e206 | exact (idx_lt he206).2), ?_⟩
        obtain ⟨on209, hon209, hf⟩ := obind hf
        have S : St h none' [own (oSl (fz rB)) [(.slice h104.n 0 0 ((n0.Trans.length : Int) : Int).toNat 1)] on145, rowC h.n [a0_0, a0_1] 0, own (oSl (oSl (fz (rI .i64)))) [v103] y105] h197 := S.sel [2, 0, 1] rfl
        obtain ⟨h207, e208, S⟩ := St.setE (r := rB) (x' := b196) (k := 0) (n := 1) (y := (.bool b196)) S he206 rfl rfl (Nat.le_of_ble_eq_true rfl) (by rintro _ h; obtain rfl := h; exact rfl)
        rw [padd_zero] at e208
        have S : St h none' [own (oSl (fz rB)) [(.slice h104.n 0 0 ((n0.Trans.length : Int) : Int).toNat 1)] on209, rowC h.n [a0_0, a0_1] 0, own (oSl (oSl (fz (rI .i64)))) [v103] y105] h207 := S.cast (by rw [← Option.some.inj hon209] <;> rfl)
        refine ⟨h207, e208, ?_⟩
        have S : St h none' [rowC h.n [a0_0, a0_1] 0, own (oSl (oSl (fz (rI .i64)))) [v103] y105, own (oSl (fz rB)) [(.slice h104.n 0 0 ((n0.Trans.length : Int) : Int).toNat 1)] on209] h207 := S.sel [1, 2, 0] rfl
        obtain rfl := Option.some.inj hf
        exact ⟨m186, Nat.lt_succ_self _, on209, rfl, rfl, rfl, rfl, rfl, S, hk⟩
      refine bP_intro (fun hc => ?_) (fun hc => ?_)
      · rw [if_pos (show e187.Delay = (0 : Int) from of_decide_eq_true hc)] at hf
        refine ⟨a0_0, a0_1, S.rdN (.tail _ (.head _)) (Nat.le_of_ble_eq_true rfl) rfl, ?_⟩
        obtain ⟨y213, hy213, hf⟩ := obind hf
        refine ⟨_, Fz.refl _, ?_⟩
        refine (r40 (next0 := y105) (n1 := n0) (from2 := y115) (f0_0 := (S.sl (r := (oSl (fz (rI .i64)))) (.tail _ (.tail _ (.head _))))) (f1_0 := (SlR.mono (snap_mono S.le) f0_0)) (f1_1 := (SlR.mono (snap_mono S.le) f0_1)) hy213).mono fun v211 h212 T => ?_
        obtain ⟨rfl, T⟩ := T
        have S : St h none' [rowC h144.n [(.str e187.Name), (.int .i64 e187.Delay), (.int .i64 e187.Prio), cr188_3, cr188_4, cr188_5] 0, rowC h.n [a0_0, a0_1] 0, own (oSl (oSl (fz (rI .i64)))) [v103] y105, own (oSl (fz rB)) [(.slice h104.n 0 0 ((n0.Trans.length : Int) : Int).toNat 1)] on145] h212 := S.comp T
        refine ⟨y213, rfl, ?_⟩
        have S : St h none' [rowC h.n [a0_0, a0_1] 0, own (oSl (oSl (fz (rI .i64)))) [v103] y105, own (oSl (fz rB)) [(.slice h104.n 0 0 ((n0.Trans.length : Int) : Int).toNat 1)] on145] h212 := S.sel [1, 2, 3] rfl
        exact hjj0 _ _  hf  S
      · rw [if_neg (show ¬ (e187.Delay = (0 : Int)) from of_decide_eq_false hc)] at hf
        have S : St h none' [rowC h.n [a0_0, a0_1] 0, own (oSl (oSl (fz (rI .i64)))) [v103] y105, own (oSl (fz rB)) [(.slice h104.n 0 0 ((n0.Trans.length : Int) : Int).toNat 1)] on145] h191 := S.sel [1, 2, 3] rfl
        exact hjj0 _ _  hf  S
    · rw [if_neg (show ¬ (y115 < (n0.Trans.length : Int)) from of_decide_eq_false hc)] at hf
      have S : St h none' [own (oSl (fz rB)) [(.slice h104.n 0 0 ((n0.Trans.length : Int) : Int).toNat 1)] on145] h144 := S.sel [2] rfl
      obtain rfl := Option.some.inj hf
      obtain rfl := hk
      exact ⟨on145, rfl, S, rfl⟩
  · exact ⟨y107, rfl, rfl, rfl, rfl, rfl, S, hL⟩
/-! 17: marblerun/marblerunref05.Make -/
noncomputable def p17_j0 (y110 : Int) (c138 : List TPlace) (y183 : Int) : Option ((Int × (List TPlace)) ⊕ (List TPlace)) := (catS ([112] : List UInt8) ([(IntKind.wrap .u8 (IntKind.wrap .i64 ((97 : Int) + y110)))].map u8)).bind fun s186 => (app 24 c138 [(TPlace.mk s186 y183)]).bind fun c191 => some (.inl ((IntKind.wrap .i64 (y110 + (1 : Int))), c191))
noncomputable def p17_l0 (x0 : TDraft) (st : Int × (List TPlace)) : Option ((Int × (List TPlace)) ⊕ (List TPlace)) := match st with | (y110, c138) => if y110 < (IntKind.wrap .i64 ((1 : Int) + (Int.tmod (x0.Tokens.length : Int) (7 : Int)))) then (if y110 < (x0.Tokens.length : Int) then ((idx x0.Tokens y110).bind fun e197 => p17_j0 y110 c138 (IntKind.wrap .i64 (Int.tmod e197 (5 : Int)))) else (p17_j0 y110 c138 (0 : Int))) else (some (.inr c138))
noncomputable def p17_j1 (y204 : Int) (c376 : List TTrans) (e566 : TAct) (s575 : List UInt8) (c604 : List TArc) (c622 : List TArc) (c657 : List TArc) (c675 : Int) : Option ((Int × (List TTrans)) ⊕ (List TTrans)) := (app 104 c376 [(TTrans.mk s575 c675 (IntKind.wrap .i64 (Int.tmod e566.P (3 : Int))) c604 c622 c657)]).bind fun c680 => some (.inl ((IntKind.wrap .i64 (y204 + (1 : Int))), c680))
noncomputable def p17_j2 (y204 : Int) (c376 : List TTrans) (e566 : TAct) (s575 : List UInt8) (c604 : List TArc) (c622 : List TArc) (c657 : List TArc) (b658 : Bool) : Option ((Int × (List TTrans)) ⊕ (List TTrans)) := if b658 = true then (p17_j1 y204 c376 e566 s575 c604 c622 c657 (1 : Int)) else (p17_j1 y204 c376 e566 s575 c604 c622 c657 (IntKind.wrap .i64 (Int.tmod e566.D (5 : Int))))
noncomputable def p17_j3 (y204 : Int) (c376 : List TTrans) (e566 : TAct) (s575 : List UInt8) (c604 : List TArc) (c622 : List TArc) (c657 : List TArc) : Option ((Int × (List TTrans)) ⊕ (List TTrans)) := if (IntKind.wrap .i64 (Int.tmod e566.D (5 : Int))) = (0 : Int) then (p17_j2 y204 c376 e566 s575 c604 c622 c657 (decide (e566.D < (128 : Int)))) else (p17_j2 y204 c376 e566 s575 c604 c622 c657 false)
noncomputable def p17_j4 (c171 : List TPlace) (y204 : Int) (c376 : List TTrans) (e566 : TAct) (s575 : List UInt8) (c604 : List TArc) (c622 : List TArc) (c640 : List TArc) : Option ((Int × (List TTrans)) ⊕ (List TTrans)) := if (0 : Int) < (Int.tmod e566.Q (3 : Int)) then ((remI .i64 (IntKind.wrap .i64 (IntKind.wrap .u8 (Int.tdiv e566.Q (3 : Int)))) (c171.length : Int)).bind fun d690 => (p39 c640 d690 (1 : Int)).bind fun y693 => p17_j3 y204 c376 e566 s575 c604 c622 y693) else (p17_j3 y204 c376 e566 s575 c604 c622 c640)
noncomputable def p17_j5 (c171 : List TPlace) (y204 : Int) (c376 : List TTrans) (e566 : TAct) (s575 : List UInt8) (c604 : List TArc) (c622 : List TArc) : Option ((Int × (List TTrans)) ⊕ (List TTrans)) := if (0 : Int) < (Int.tmod e566.O (5 : Int)) then ((remI .i64 (IntKind.wrap .i64 (IntKind.wrap .u8 (Int.tdiv e566.O (5 : Int)))) (c171.length : Int)).bind fun d698 => (p39 [] d698 (IntKind.wrap .i64 ((1 : Int) + (IntKind.wrap .i64 (IntKind.wrap .u8 (Int.tdiv e566.O (128 : Int))))))).bind fun y702 => p17_j4 c171 y204 c376 e566 s575 c604 c622 y702) else (p17_j4 c171 y204 c376 e566 s575 c604 c622 [])
noncomputable def p17_j6 (c171 : List TPlace) (y204 : Int) (c376 : List TTrans) (e566 : TAct) (s575 : List UInt8) (c604 : List TArc) : Option ((Int × (List TTrans)) ⊕ (List TTrans)) := if (Int.tmod e566.N (4 : Int)) = (0 : Int) then ((remI .i64 (IntKind.wrap .i64 (IntKind.wrap .u8 (Int.tdiv e566.N (4 : Int)))) (c171.length : Int)).bind fun d708 => (p39 [] d708 (IntKind.wrap .i64 ((1 : Int) + (IntKind.wrap .i64 (IntKind.wrap .u8 (Int.tdiv e566.N (64 : Int))))))).bind fun y712 => p17_j5 c171 y204 c376 e566 s575 c604 y712) else (p17_j5 c171 y204 c376 e566 s575 c604 [])
noncomputable def p17_j7 (x0 : TDraft) (c171 : List TPlace) (y204 : Int) (c376 : List TTrans) (b559 : Bool) : Option ((Int × (List TTrans)) ⊕ (List TTrans)) := if b559 = true then ((idx x0.Acts y204).bind fun e566 => (catS ([116] : List UInt8) ([(IntKind.wrap .u8 (IntKind.wrap .i64 ((48 : Int) + y204)))].map u8)).bind fun s574 => (catS s574 ([46, 120] : List UInt8)).bind fun s575 => (remI .i64 (IntKind.wrap .i64 e566.I) (c171.length : Int)).bind fun d580 => (p39 [] d580 (IntKind.wrap .i64 ((1 : Int) + (Int.tmod (IntKind.wrap .i64 (IntKind.wrap .u8 (Int.tdiv e566.I (64 : Int)))) (2 : Int))))).bind fun y584 => if (Int.tmod e566.J (3 : Int)) = (0 : Int) then ((remI .i64 (IntKind.wrap .i64 (IntKind.wrap .u8 (Int.tdiv e566.J (3 : Int)))) (c171.length : Int)).bind fun d718 => (p39 y584 d718 (1 : Int)).bind fun y721 => p17_j6 c171 y204 c376 e566 s575 y721) else (p17_j6 c171 y204 c376 e566 s575 y584)) else (some (.inr c376))
noncomputable def p17_l1 (x0 : TDraft) (c171 : List TPlace) (st : Int × (List TTrans)) : Option ((Int × (List TTrans)) ⊕ (List TTrans)) := match st with | (y204, c376) => if y204 < (x0.Acts.length : Int) then (p17_j7 x0 c171 y204 c376 (decide (y204 < (9 : Int)))) else (p17_j7 x0 c171 y204 c376 false)
noncomputable def p17 (x0 : TDraft) : Option TNet := (loopC (p17_l0 x0) ((0 : Int), [])).bind fun res172 => ((fun (c171 : List TPlace) => (loopC (p17_l1 x0 c171) ((0 : Int), [])).bind fun res555 => ((fun (c554 : List TTrans) => some (TNet.mk c171 c554)) res555)) res172)
theorem r17 {h : Heap} {a0_0 : AV} {a0_1 : AV} {x0 : TDraft} (f0_0 : SlR (rI .u8) (Snap h) a0_0 x0.Tokens) (f0_1 : SlR rAct (Snap h) a0_1 x0.Acts) {r : TNet} (hf : p17 x0 = some r) : ZCalls F 17 [(.agg [a0_0, a0_1])] h fun v h' => ∃ cs, v = .agg cs ∧ St h none' [own oNet cs r] h' := by
  refine w17 ?_
  unfold W17
  unfold p17 at hf
  have S : St h none' [] h := St.refl _ _
  intro h101
  have S : St h none' [rowC h.n [a0_0, a0_1] 0] h101 := S.pushRow [a0_0, a0_1]
  intro h103
  have S : St h none' [rowC h101.n [.nilSlice, .nilSlice] 0, rowC h.n [a0_0, a0_1] 0] h103 := S.pushRow [.nilSlice, .nilSlice]
  intro h105
  have S : St h none' [rowC h103.n [.nilSlice, .nilSlice] 0, rowC h101.n [.nilSlice, .nilSlice] 0, rowC h.n [a0_0, a0_1] 0] h105 := S.pushRow [.nilSlice, .nilSlice]
  obtain ⟨res172, hL, hf⟩ := obind hf
  obtain ⟨n173, hL⟩ := loopC_iff.1 hL
  have S : St h none' [own (oSl (fz rPlace)) [.nilSlice] [], rowC h103.n [.nilSlice, .nilSlice] 0, rowC h101.n [.nilSlice, .nilSlice] 0, rowC h.n [a0_0, a0_1] 0] h105 := S.addE (oSl_nil _ _)
  have S : St h none' [rowC h.n [a0_0, a0_1] 0, rowC h101.n [.nilSlice, .nilSlice] 0, rowC h103.n [.nilSlice, .nilSlice] 0, own (oSl (fz rPlace)) [.nilSlice] []] h105 := S.sel [3, 2, 1, 0] rfl
  refine loopm17_0 (X0 := fun (y165 : AV) (y166 : AV) (y167 : AV) (y168 : Int) (h169 : Heap) => ∃ (c170 : AV), ∃ (c171 : List TPlace), AV.ptr h.n 0 0 = y165 ∧ AV.ptr h101.n 0 0 = y166 ∧ AV.ptr h103.n 0 0 = y167 ∧ St h none' [rowC h.n [a0_0, a0_1] 0, rowC h101.n [.nilSlice, .nilSlice] 0, rowC h103.n [c170, .nilSlice] 0, own (oSl (fz rPlace)) [c170] c171] h169 ∧ c171 = res172) ?_ (loop17_0 (I := fun (m175 : Nat) (y107 : AV) (y108 : AV) (y109 : AV) (y110 : Int) (h136 : Heap) => ∃ (c137 : AV), ∃ (c138 : List TPlace), AV.ptr h.n 0 0 = y107 ∧ AV.ptr h101.n 0 0 = y108 ∧ AV.ptr h103.n 0 0 = y109 ∧ St h none' [rowC h.n [a0_0, a0_1] 0, rowC h101.n [.nilSlice, .nilSlice] 0, rowC h103.n [c137, .nilSlice] 0, own (oSl (fz rPlace)) [c137] c138] h136 ∧ iter (p17_l0 x0) m175 (y110, c138) = some res172) ?_ (m := n173) ?_)
  · rintro y165 y166 y167 y168 h169 ⟨c170, c171, rfl, rfl, rfl, S, rfl⟩
    try dsimp only at hf
    refine ifP_iff.2 ⟨rfl, ?_⟩
    refine ⟨c170, S.rd1 (.tail _ (.tail _ (.head _))) rfl, ?_⟩
    refine ifP_iff.2 ⟨((S.sl (r := (fz rPlace)) (.tail _ (.tail _ (.tail _ (.head _)))))).is, ?_⟩
    try rw [((S.sl (r := (fz rPlace)) (.tail _ (.tail _ (.tail _ (.head _)))))).slen]
    obtain ⟨res555, hL, hf⟩ := obind hf
    obtain ⟨n556, hL⟩ := loopC_iff.1 hL
    have S : St h none' [own (oSl oTrans) [.nilSlice] [], rowC h.n [a0_0, a0_1] 0, rowC h101.n [.nilSlice, .nilSlice] 0, rowC h103.n [c170, .nilSlice] 0, own (oSl (fz rPlace)) [c170] c171] h169 := S.addE (oSl_nil _ _)
    have S : St h none' [rowC h.n [a0_0, a0_1] 0, rowC h101.n [.nilSlice, .nilSlice] 0, rowC h103.n [c170, .nilSlice] 0, own (oSl (fz rPlace)) [c170] c171, own (oSl oTrans) [.nilSlice] []] h169 := S.sel [1, 2, 3, 4, 0] rfl
    refine loopm17_1 (X2 := fun (y547 : AV) (y548 : AV) (y549 : AV) (y550 : Int) (y551 : Int) (h552 : Heap) => ∃ (c553 : AV), ∃ (c554 : List TTrans), AV.ptr h101.n 0 0 = y548 ∧ AV.ptr h103.n 0 0 = y549 ∧ St h none' [rowC h101.n [.nilSlice, .nilSlice] 0, rowC h103.n [c170, c553] 0, own (oSl (fz rPlace)) [c170] c171, own (oSl oTrans) [c553] c554] h552 ∧ c554 = res555) ?_ (loop17_1 (I := fun (m558 : Nat) (y200 : AV) (y201 : AV) (y202 : AV) (y203 : Int) (y204 : Int) (h374 : Heap) => ∃ (c375 : AV), ∃ (c376 : List TTrans), AV.ptr h.n 0 0 = y200 ∧ AV.ptr h101.n 0 0 = y201 ∧ AV.ptr h103.n 0 0 = y202 ∧ (c171.length : Int) = y203 ∧ St h none' [rowC h.n [a0_0, a0_1] 0, rowC h101.n [.nilSlice, .nilSlice] 0, rowC h103.n [c170, c375] 0, own (oSl (fz rPlace)) [c170] c171, own (oSl oTrans) [c375] c376] h374 ∧ iter (p17_l1 x0 c171) m558 (y204, c376) = some res555) ?_ (m := n556) ?_)
    · rintro y547 y548 y549 y550 y551 h552 ⟨c553, c554, rfl, rfl, S, rfl⟩
      try dsimp only at hf
      refine ⟨c170, c553, S.rdN (.tail _ (.head _)) (Nat.le_of_ble_eq_true rfl) rfl, ?_⟩
      obtain ⟨h727, e728, S⟩ := S.store (off := 0) (n := 2) (x := (.agg [c170, c553])) (cs' := [c170, c553]) (Nat.le_of_ble_eq_true rfl) rfl rfl rfl
      have S : St h none' [rowC h101.n [c170, c553] 0, rowC h103.n [c170, c553] 0, own (oSl (fz rPlace)) [c170] c171, own (oSl oTrans) [c553] c554] h727 := S
      refine ⟨h727, e728, ?_⟩
      refine ⟨c170, c553, S.rdN (.head _) (Nat.le_of_ble_eq_true rfl) rfl, ?_⟩
      have S : St h none' [own (oSl (fz rPlace)) [c170] c171, own (oSl oTrans) [c553] c554, rowC h101.n [c170, c553] 0, rowC h103.n [c170, c553] 0] h727 := S.sel [2, 3, 0, 1] rfl
      have S : St h none' [own oNet [c170, c553] (TNet.mk c171 c554), rowC h101.n [c170, c553] 0, rowC h103.n [c170, c553] 0] h727 := oNet_close (x := (TNet.mk c171 c554)) S
      obtain rfl := Option.some.inj hf
      exact ⟨_, rfl, S.sel [0] rfl⟩
    · rintro m5580 y200 y201 y202 y203 y204 h374 ⟨c375, c376, rfl, rfl, rfl, rfl, S, hit⟩
      obtain ⟨m558, q557, rfl, hf, hk⟩ := iter_some hit
      clear hit
      unfold B17_1
      unfold p17_l1 at hf
      try dsimp only at hf
      refine ifP_iff.2 ⟨rfl, ?_⟩
      refine ⟨a0_1, S.rd1 (.head _) rfl, ?_⟩
      refine ifP_iff.2 ⟨(f0_1).is, ?_⟩
      try rw [(f0_1).slen]
      intro jjj7
      have hjj7 : ∀ (b559 : Bool) (h560 : Heap), p17_j7 x0 c171 y204 c376 b559 = some q557 → h374 = h560 → St h none' [rowC h.n [a0_0, a0_1] 0, rowC h101.n [.nilSlice, .nilSlice] 0, rowC h103.n [c170, c375] 0, own (oSl (fz rPlace)) [c170] c171, own (oSl oTrans) [c375] c376] h374 → jjj7 b559 h560 := by
        rintro b559 h560 hf rfl S
        unfold p17_j7 at hf
        unfold jjj7
        refine bP_intro (fun hc => ?_) (fun hc => ?_)
        · rw [if_pos (show b559 = true from hc)] at hf
          refine ifP_iff.2 ⟨rfl, ?_⟩
          refine ⟨a0_1, S.rd1 (.head _) rfl, ?_⟩
          obtain ⟨e566, he566, hf⟩ := obind hf
          obtain ⟨qe566, q0e566, q1e566⟩ := SlR.ix f0_1 he566
          have pe566 := (SlR.idx f0_1 (snap_mono S.le) he566).1
          refine ifP_iff.2 ⟨qe566, q0e566, (by first | exact q1e566 | exact (idx_lt he566).2), ?_⟩
          obtain ⟨_, cr567, Rr567, Nr567, Or567, Zr567⟩ := SlR.idx f0_1 (snap_mono S.le) he566
          obtain rfl := rAct_open Rr567
          refine ⟨(.int .u8 e566.D), (.int .u8 e566.P), (.int .u8 e566.I), (.int .u8 e566.J), (.int .u8 e566.N), (.int .u8 e566.O), (.int .u8 e566.Q), Nr567, ?_⟩
          intro h568
          have S : St h none' [rowC h374.n [(.int .u8 (0 : Int)), (.int .u8 (0 : Int)), (.int .u8 (0 : Int)), (.int .u8 (0 : Int)), (.int .u8 (0 : Int)), (.int .u8 (0 : Int)), (.int .u8 (0 : Int))] 0, rowC h.n [a0_0, a0_1] 0, rowC h101.n [.nilSlice, .nilSlice] 0, rowC h103.n [c170, c375] 0, own (oSl (fz rPlace)) [c170] c171, own (oSl oTrans) [c375] c376] h568 := S.pushRow [(.int .u8 (0 : Int)), (.int .u8 (0 : Int)), (.int .u8 (0 : Int)), (.int .u8 (0 : Int)), (.int .u8 (0 : Int)), (.int .u8 (0 : Int)), (.int .u8 (0 : Int))]
          obtain ⟨h570, e571, S⟩ := S.store (off := 0) (n := 7) (x := (.agg [(.int .u8 e566.D), (.int .u8 e566.P), (.int .u8 e566.I), (.int .u8 e566.J), (.int .u8 e566.N), (.int .u8 e566.O), (.int .u8 e566.Q)])) (cs' := [(.int .u8 e566.D), (.int .u8 e566.P), (.int .u8 e566.I), (.int .u8 e566.J), (.int .u8 e566.N), (.int .u8 e566.O), (.int .u8 e566.Q)]) (Nat.le_of_ble_eq_true rfl) rfl rfl rfl
          have S : St h none' [rowC h374.n [(.int .u8 e566.D), (.int .u8 e566.P), (.int .u8 e566.I), (.int .u8 e566.J), (.int .u8 e566.N), (.int .u8 e566.O), (.int .u8 e566.Q)] 0, rowC h.n [a0_0, a0_1] 0, rowC h101.n [.nilSlice, .nilSlice] 0, rowC h103.n [c170, c375] 0, own (oSl (fz rPlace)) [c170] c171, own (oSl oTrans) [c375] c376] h570 := S
          refine ⟨h570, e571, ?_⟩
          intro h572
          have S : St h none' [rowC h570.n [(.int .u8 (IntKind.wrap .u8 (IntKind.wrap .i64 ((48 : Int) + y204))))] 0, rowC h374.n [(.int .u8 e566.D), (.int .u8 e566.P), (.int .u8 e566.I), (.int .u8 e566.J), (.int .u8 e566.N), (.int .u8 e566.O), (.int .u8 e566.Q)] 0, rowC h.n [a0_0, a0_1] 0, rowC h101.n [.nilSlice, .nilSlice] 0, rowC h103.n [c170, c375] 0, own (oSl (fz rPlace)) [c170] c171, own (oSl oTrans) [c375] c376] h572 := S.pushRow [(.int .u8 (IntKind.wrap .u8 (IntKind.wrap .i64 ((48 : Int) + y204))))]
          have S : St h none' [own (oSl (fz (rI .u8))) [(.slice h570.n 0 0 1 1)] [(IntKind.wrap .u8 (IntKind.wrap .i64 ((48 : Int) + y204)))], rowC h374.n [(.int .u8 e566.D), (.int .u8 e566.P), (.int .u8 e566.I), (.int .u8 e566.J), (.int .u8 e566.N), (.int .u8 e566.O), (.int .u8 e566.Q)] 0, rowC h.n [a0_0, a0_1] 0, rowC h101.n [.nilSlice, .nilSlice] 0, rowC h103.n [c170, c375] 0, own (oSl (fz rPlace)) [c170] c171, own (oSl oTrans) [c375] c376] h572 := St.lit (r := (rI .u8)) (els := [[(.int .u8 (IntKind.wrap .u8 (IntKind.wrap .i64 ((48 : Int) + y204))))]]) (l := [(IntKind.wrap .u8 (IntKind.wrap .i64 ((48 : Int) + y204)))]) (n := 1) S rfl (.cons rfl (.nil)) rfl
          refine ⟨_, bytes_ev (S.sl (r := (fz (rI .u8))) (.head _)), ([(IntKind.wrap .u8 (IntKind.wrap .i64 ((48 : Int) + y204)))].map u8), rfl, ?_⟩
          obtain ⟨s574, hs574, hf⟩ := obind hf
          refine oP_intro (.str s574) (catS_ev hs574) ⟨s574, rfl, ?_⟩
          obtain ⟨s575, hs575, hf⟩ := obind hf
          refine oP_intro (.str s575) (catS_ev hs575) ⟨s575, rfl, ?_⟩
          refine ⟨e566.D, S.rd1 (.tail _ (.head _)) rfl, ?_⟩
          refine ⟨e566.P, S.rd1 (.tail _ (.head _)) rfl, ?_⟩
          intro h576
          have S : St h none' [rowC h572.n [(.str ([] : List UInt8)), (.int .i64 (0 : Int)), (.int .i64 (0 : Int)), .nilSlice, .nilSlice, .nilSlice] 0, own (oSl (fz (rI .u8))) [(.slice h570.n 0 0 1 1)] [(IntKind.wrap .u8 (IntKind.wrap .i64 ((48 : Int) + y204)))], rowC h374.n [(.int .u8 e566.D), (.int .u8 e566.P), (.int .u8 e566.I), (.int .u8 e566.J), (.int .u8 e566.N), (.int .u8 e566.O), (.int .u8 e566.Q)] 0, rowC h.n [a0_0, a0_1] 0, rowC h101.n [.nilSlice, .nilSlice] 0, rowC h103.n [c170, c375] 0, own (oSl (fz rPlace)) [c170] c171, own (oSl oTrans) [c375] c376] h576 := S.pushRow [(.str ([] : List UInt8)), (.int .i64 (0 : Int)), (.int .i64 (0 : Int)), .nilSlice, .nilSlice, .nilSlice]
          obtain ⟨h578, e579, S⟩ := S.store (off := 0) (n := 6) (x := (.agg [(.str s575), (.int .i64 (IntKind.wrap .i64 (Int.tmod e566.D (5 : Int)))), (.int .i64 (IntKind.wrap .i64 (Int.tmod e566.P (3 : Int)))), .nilSlice, .nilSlice, .nilSlice])) (cs' := [(.str s575), (.int .i64 (IntKind.wrap .i64 (Int.tmod e566.D (5 : Int)))), (.int .i64 (IntKind.wrap .i64 (Int.tmod e566.P (3 : Int)))), .nilSlice, .nilSlice, .nilSlice]) (Nat.le_of_ble_eq_true rfl) rfl rfl rfl
          have S : St h none' [rowC h572.n [(.str s575), (.int .i64 (IntKind.wrap .i64 (Int.tmod e566.D (5 : Int)))), (.int .i64 (IntKind.wrap .i64 (Int.tmod e566.P (3 : Int)))), .nilSlice, .nilSlice, .nilSlice] 0, own (oSl (fz (rI .u8))) [(.slice h570.n 0 0 1 1)] [(IntKind.wrap .u8 (IntKind.wrap .i64 ((48 : Int) + y204)))], rowC h374.n [(.int .u8 e566.D), (.int .u8 e566.P), (.int .u8 e566.I), (.int .u8 e566.J), (.int .u8 e566.N), (.int .u8 e566.O), (.int .u8 e566.Q)] 0, rowC h.n [a0_0, a0_1] 0, rowC h101.n [.nilSlice, .nilSlice] 0, rowC h103.n [c170, c375] 0, own (oSl (fz rPlace)) [c170] c171, own (oSl oTrans) [c375] c376] h578 := S
          refine ⟨h578, e579, ?_⟩
          refine ⟨.nilSlice, S.rd1 (.head _) rfl, ?_⟩
          refine ⟨e566.I, S.rd1 (.tail _ (.tail _ (.head _))) rfl, ?_⟩
          obtain ⟨d580, hd580, hf⟩ := obind hf
          refine oP_intro (.int .i64 d580) (remI_ev hd580) ⟨d580, rfl, ?_⟩
          refine ⟨e566.I, S.rd1 (.tail _ (.tail _ (.head _))) rfl, ?_⟩
          obtain ⟨y584, hy584, hf⟩ := obind hf
          have S : St h none' [own (oSl (fz rArc)) [.nilSlice] [], rowC h572.n [(.str s575), (.int .i64 (IntKind.wrap .i64 (Int.tmod e566.D (5 : Int)))), (.int .i64 (IntKind.wrap .i64 (Int.tmod e566.P (3 : Int)))), .nilSlice, .nilSlice, .nilSlice] 0, own (oSl (fz (rI .u8))) [(.slice h570.n 0 0 1 1)] [(IntKind.wrap .u8 (IntKind.wrap .i64 ((48 : Int) + y204)))], rowC h374.n [(.int .u8 e566.D), (.int .u8 e566.P), (.int .u8 e566.I), (.int .u8 e566.J), (.int .u8 e566.N), (.int .u8 e566.O), (.int .u8 e566.Q)] 0, rowC h.n [a0_0, a0_1] 0, rowC h101.n [.nilSlice, .nilSlice] 0, rowC h103.n [c170, c375] 0, own (oSl (fz rPlace)) [c170] c171, own (oSl oTrans) [c375] c376] h578 := S.addE (oSl_nil _ _)
          refine ⟨_, Fz.refl _, ?_⟩
          obtain ⟨fpy584, S1y584, backy584⟩ := St.lend [_] S
          refine (r39 (l0 := []) (place1 := d580) (n2 := (IntKind.wrap .i64 ((1 : Int) + (Int.tmod (IntKind.wrap .i64 (IntKind.wrap .u8 (Int.tdiv e566.I (64 : Int)))) (2 : Int))))) (S := S1y584) hy584).mono fun v582 h583 T => ?_
          have S : St h none' [own (oSl (fz rArc)) [v582] y584, rowC h572.n [(.str s575), (.int .i64 (IntKind.wrap .i64 (Int.tmod e566.D (5 : Int)))), (.int .i64 (IntKind.wrap .i64 (Int.tmod e566.P (3 : Int)))), .nilSlice, .nilSlice, .nilSlice] 0, own (oSl (fz (rI .u8))) [(.slice h570.n 0 0 1 1)] [(IntKind.wrap .u8 (IntKind.wrap .i64 ((48 : Int) + y204)))], rowC h374.n [(.int .u8 e566.D), (.int .u8 e566.P), (.int .u8 e566.I), (.int .u8 e566.J), (.int .u8 e566.N), (.int .u8 e566.O), (.int .u8 e566.Q)] 0, rowC h.n [a0_0, a0_1] 0, rowC h101.n [.nilSlice, .nilSlice] 0, rowC h103.n [c170, c375] 0, own (oSl (fz rPlace)) [c170] c171, own (oSl oTrans) [c375] c376] h583 := backy584 _ _ T
          have S : St h none' [rowC h572.n [(.str s575), (.int .i64 (IntKind.wrap .i64 (Int.tmod e566.D (5 : Int)))), (.int .i64 (IntKind.wrap .i64 (Int.tmod e566.P (3 : Int)))), .nilSlice, .nilSlice, .nilSlice] 0, own (oSl (fz rArc)) [v582] y584, own (oSl (fz (rI .u8))) [(.slice h570.n 0 0 1 1)] [(IntKind.wrap .u8 (IntKind.wrap .i64 ((48 : Int) + y204)))], rowC h374.n [(.int .u8 e566.D), (.int .u8 e566.P), (.int .u8 e566.I), (.int .u8 e566.J), (.int .u8 e566.N), (.int .u8 e566.O), (.int .u8 e566.Q)] 0, rowC h.n [a0_0, a0_1] 0, rowC h101.n [.nilSlice, .nilSlice] 0, rowC h103.n [c170, c375] 0, own (oSl (fz rPlace)) [c170] c171, own (oSl oTrans) [c375] c376] h583 := S.sel [1, 0, 2, 3, 4, 5, 6, 7, 8] rfl
          obtain ⟨h586, e587, S⟩ := S.storeS (off := 3) (x := v582) (cs' := [(.str s575), (.int .i64 (IntKind.wrap .i64 (Int.tmod e566.D (5 : Int)))), (.int .i64 (IntKind.wrap .i64 (Int.tmod e566.P (3 : Int)))), v582, .nilSlice, .nilSlice]) (Nat.le_of_ble_eq_true rfl) ((S.sl (r := (fz rArc)) (.tail _ (.head _)))).is rfl
          have S : St h none' [rowC h572.n [(.str s575), (.int .i64 (IntKind.wrap .i64 (Int.tmod e566.D (5 : Int)))), (.int .i64 (IntKind.wrap .i64 (Int.tmod e566.P (3 : Int)))), v582, .nilSlice, .nilSlice] 0, own (oSl (fz rArc)) [v582] y584, own (oSl (fz (rI .u8))) [(.slice h570.n 0 0 1 1)] [(IntKind.wrap .u8 (IntKind.wrap .i64 ((48 : Int) + y204)))], rowC h374.n [(.int .u8 e566.D), (.int .u8 e566.P), (.int .u8 e566.I), (.int .u8 e566.J), (.int .u8 e566.N), (.int .u8 e566.O), (.int .u8 e566.Q)] 0, rowC h.n [a0_0, a0_1] 0, rowC h101.n [.nilSlice, .nilSlice] 0, rowC h103.n [c170, c375] 0, own (oSl (fz rPlace)) [c170] c171, own (oSl oTrans) [c375] c376] h586 := S
          refine ⟨h586, e587, ?_⟩
          refine ⟨e566.J, S.rd1 (.tail _ (.tail _ (.tail _ (.head _)))) rfl, ?_⟩
          intro jjj6
          have hjj6 : ∀  (h595 : Heap) (c603 : AV) (c604 : List TArc), p17_j6 c171 y204 c376 e566 s575 c604 = some q557 → St h none' [rowC h.n [a0_0, a0_1] 0, rowC h101.n [.nilSlice, .nilSlice] 0, rowC h103.n [c170, c375] 0, rowC h374.n [(.int .u8 e566.D), (.int .u8 e566.P), (.int .u8 e566.I), (.int .u8 e566.J), (.int .u8 e566.N), (.int .u8 e566.O), (.int .u8 e566.Q)] 0, rowC h572.n [(.str s575), (.int .i64 (IntKind.wrap .i64 (Int.tmod e566.D (5 : Int)))), (.int .i64 (IntKind.wrap .i64 (Int.tmod e566.P (3 : Int)))), c603, .nilSlice, .nilSlice] 0, own (oSl (fz rPlace)) [c170] c171, own (oSl oTrans) [c375] c376, own (oSl (fz rArc)) [c603] c604] h595 → jjj6 h595 := by
            rintro h595 c603 c604 hf S
            unfold p17_j6 at hf
            unfold jjj6
            refine ifP_iff.2 ⟨rfl, ?_⟩
            refine ⟨e566.N, S.rd1 (.tail _ (.tail _ (.tail _ (.head _)))) rfl, ?_⟩
            intro jjj5
            have hjj5 : ∀  (h613 : Heap) (c621 : AV) (c622 : List TArc), p17_j5 c171 y204 c376 e566 s575 c604 c622 = some q557 → St h none' [rowC h.n [a0_0, a0_1] 0, rowC h101.n [.nilSlice, .nilSlice] 0, rowC h103.n [c170, c375] 0, rowC h374.n [(.int .u8 e566.D), (.int .u8 e566.P), (.int .u8 e566.I), (.int .u8 e566.J), (.int .u8 e566.N), (.int .u8 e566.O), (.int .u8 e566.Q)] 0, rowC h572.n [(.str s575), (.int .i64 (IntKind.wrap .i64 (Int.tmod e566.D (5 : Int)))), (.int .i64 (IntKind.wrap .i64 (Int.tmod e566.P (3 : Int)))), c603, c621, .nilSlice] 0, own (oSl (fz rPlace)) [c170] c171, own (oSl oTrans) [c375] c376, own (oSl (fz rArc)) [c603] c604, own (oSl (fz rArc)) [c621] c622] h613 → jjj5 h613 := by
              rintro h613 c621 c622 hf S
              unfold p17_j5 at hf
              unfold jjj5
              refine ifP_iff.2 ⟨rfl, ?_⟩
              refine ⟨e566.O, S.rd1 (.tail _ (.tail _ (.tail _ (.head _)))) rfl, ?_⟩
              intro jjj4
              have hjj4 : ∀  (h631 : Heap) (c639 : AV) (c640 : List TArc), p17_j4 c171 y204 c376 e566 s575 c604 c622 c640 = some q557 → St h none' [rowC h.n [a0_0, a0_1] 0, rowC h101.n [.nilSlice, .nilSlice] 0, rowC h103.n [c170, c375] 0, rowC h374.n [(.int .u8 e566.D), (.int .u8 e566.P), (.int .u8 e566.I), (.int .u8 e566.J), (.int .u8 e566.N), (.int .u8 e566.O), (.int .u8 e566.Q)] 0, rowC h572.n [(.str s575), (.int .i64 (IntKind.wrap .i64 (Int.tmod e566.D (5 : Int)))), (.int .i64 (IntKind.wrap .i64 (Int.tmod e566.P (3 : Int)))), c603, c621, c639] 0, own (oSl (fz rPlace)) [c170] c171, own (oSl oTrans) [c375] c376, own (oSl (fz rArc)) [c603] c604, own (oSl (fz rArc)) [c621] c622, own (oSl (fz rArc)) [c639] c640] h631 → jjj4 h631 := by
                rintro h631 c639 c640 hf S
                unfold p17_j4 at hf
                unfold jjj4
                refine ifP_iff.2 ⟨rfl, ?_⟩
                refine ⟨e566.Q, S.rd1 (.tail _ (.tail _ (.tail _ (.head _)))) rfl, ?_⟩
                intro jjj3
                have hjj3 : ∀  (h648 : Heap) (c656 : AV) (c657 : List TArc), p17_j3 y204 c376 e566 s575 c604 c622 c657 = some q557 → St h none' [rowC h.n [a0_0, a0_1] 0, rowC h101.n [.nilSlice, .nilSlice] 0, rowC h103.n [c170, c375] 0, rowC h374.n [(.int .u8 e566.D), (.int .u8 e566.P), (.int .u8 e566.I), (.int .u8 e566.J), (.int .u8 e566.N), (.int .u8 e566.O), (.int .u8 e566.Q)] 0, rowC h572.n [(.str s575), (.int .i64 (IntKind.wrap .i64 (Int.tmod e566.D (5 : Int)))), (.int .i64 (IntKind.wrap .i64 (Int.tmod e566.P (3 : Int)))), c603, c621, c656] 0, own (oSl (fz rPlace)) [c170] c171, own (oSl oTrans) [c375] c376, own (oSl (fz rArc)) [c603] c604, own (oSl (fz rArc)) [c621] c622, own (oSl (fz rArc)) [c656] c657] h648 → jjj3 h648 := by
                  rintro h648 c656 c657 hf S
                  unfold p17_j3 at hf
                  unfold jjj3
                  refine ifP_iff.2 ⟨rfl, ?_⟩
                  refine ⟨(IntKind.wrap .i64 (Int.tmod e566.D (5 : Int))), S.rd1 (.tail _ (.tail _ (.tail _ (.tail _ (.head _))))) rfl, ?_⟩
                  intro jjj2
                  have hjj2 : ∀ (b658 : Bool) (h659 : Heap), p17_j2 y204 c376 e566 s575 c604 c622 c657 b658 = some q557 → h648 = h659 → St h none' [rowC h.n [a0_0, a0_1] 0, rowC h101.n [.nilSlice, .nilSlice] 0, rowC h103.n [c170, c375] 0, rowC h572.n [(.str s575), (.int .i64 (IntKind.wrap .i64 (Int.tmod e566.D (5 : Int)))), (.int .i64 (IntKind.wrap .i64 (Int.tmod e566.P (3 : Int)))), c603, c621, c656] 0, own (oSl (fz rPlace)) [c170] c171, own (oSl oTrans) [c375] c376, own (oSl (fz rArc)) [c603] c604, own (oSl (fz rArc)) [c621] c622, own (oSl (fz rArc)) [c656] c657] h648 → jjj2 b658 h659 := by
                    rintro b658 h659 hf rfl S
                    unfold p17_j2 at hf
                    unfold jjj2
                    intro jjj1
                    have hjj1 : ∀  (h668 : Heap) (c675 : Int), p17_j1 y204 c376 e566 s575 c604 c622 c657 c675 = some q557 → St h none' [rowC h.n [a0_0, a0_1] 0, rowC h101.n [.nilSlice, .nilSlice] 0, rowC h103.n [c170, c375] 0, rowC h572.n [(.str s575), (.int .i64 c675), (.int .i64 (IntKind.wrap .i64 (Int.tmod e566.P (3 : Int)))), c603, c621, c656] 0, own (oSl (fz rPlace)) [c170] c171, own (oSl oTrans) [c375] c376, own (oSl (fz rArc)) [c603] c604, own (oSl (fz rArc)) [c621] c622, own (oSl (fz rArc)) [c656] c657] h668 → jjj1 h668 := by
                      rintro h668 c675 hf S
                      unfold p17_j1 at hf
                      unfold jjj1
                      refine ifP_iff.2 ⟨rfl, ?_⟩
                      refine ⟨c375, S.rd1 (.tail _ (.tail _ (.head _))) rfl, ?_⟩
                      refine ⟨(.str s575), (.int .i64 c675), (.int .i64 (IntKind.wrap .i64 (Int.tmod e566.P (3 : Int)))), c603, c621, c656, S.rdN (.tail _ (.tail _ (.tail _ (.head _)))) (Nat.le_of_ble_eq_true rfl) rfl, ?_⟩
                      intro h676
                      have S : St h none' [rowC h668.n [(.str s575), (.int .i64 c675), (.int .i64 (IntKind.wrap .i64 (Int.tmod e566.P (3 : Int)))), c603, c621, c656] 0, rowC h.n [a0_0, a0_1] 0, rowC h101.n [.nilSlice, .nilSlice] 0, rowC h103.n [c170, c375] 0, rowC h572.n [(.str s575), (.int .i64 c675), (.int .i64 (IntKind.wrap .i64 (Int.tmod e566.P (3 : Int)))), c603, c621, c656] 0, own (oSl (fz rPlace)) [c170] c171, own (oSl oTrans) [c375] c376, own (oSl (fz rArc)) [c603] c604, own (oSl (fz rArc)) [c621] c622, own (oSl (fz rArc)) [c656] c657] h676 := S.pushRow [(.str s575), (.int .i64 c675), (.int .i64 (IntKind.wrap .i64 (Int.tmod e566.P (3 : Int)))), c603, c621, c656]
                      obtain ⟨c680, hc680, hf⟩ := obind hf
                      have S : St h none' [own (oSl (fz rArc)) [c603] c604, own (oSl (fz rArc)) [c621] c622, own (oSl (fz rArc)) [c656] c657, rowC h668.n [(.str s575), (.int .i64 c675), (.int .i64 (IntKind.wrap .i64 (Int.tmod e566.P (3 : Int)))), c603, c621, c656] 0, rowC h.n [a0_0, a0_1] 0, rowC h101.n [.nilSlice, .nilSlice] 0, rowC h103.n [c170, c375] 0, rowC h572.n [(.str s575), (.int .i64 c675), (.int .i64 (IntKind.wrap .i64 (Int.tmod e566.P (3 : Int)))), c603, c621, c656] 0, own (oSl (fz rPlace)) [c170] c171, own (oSl oTrans) [c375] c376] h676 := S.sel [7, 8, 9, 0, 1, 2, 3, 4, 5, 6] rfl
                      have S : St h none' [own oTrans [(.str s575), (.int .i64 c675), (.int .i64 (IntKind.wrap .i64 (Int.tmod e566.P (3 : Int)))), c603, c621, c656] (TTrans.mk s575 c675 (IntKind.wrap .i64 (Int.tmod e566.P (3 : Int))) c604 c622 c657), rowC h668.n [(.str s575), (.int .i64 c675), (.int .i64 (IntKind.wrap .i64 (Int.tmod e566.P (3 : Int)))), c603, c621, c656] 0, rowC h.n [a0_0, a0_1] 0, rowC h101.n [.nilSlice, .nilSlice] 0, rowC h103.n [c170, c375] 0, rowC h572.n [(.str s575), (.int .i64 c675), (.int .i64 (IntKind.wrap .i64 (Int.tmod e566.P (3 : Int)))), c603, c621, c656] 0, own (oSl (fz rPlace)) [c170] c171, own (oSl oTrans) [c375] c376] h676 := oTrans_close (x := (TTrans.mk s575 c675 (IntKind.wrap .i64 (Int.tmod e566.P (3 : Int))) c604 c622 c657)) S
                      have S : St h none' [own (oSl oTrans) [c375] c376, own oTrans [(.str s575), (.int .i64 c675), (.int .i64 (IntKind.wrap .i64 (Int.tmod e566.P (3 : Int)))), c603, c621, c656] (TTrans.mk s575 c675 (IntKind.wrap .i64 (Int.tmod e566.P (3 : Int))) c604 c622 c657), rowC h668.n [(.str s575), (.int .i64 c675), (.int .i64 (IntKind.wrap .i64 (Int.tmod e566.P (3 : Int)))), c603, c621, c656] 0, rowC h.n [a0_0, a0_1] 0, rowC h101.n [.nilSlice, .nilSlice] 0, rowC h103.n [c170, c375] 0, rowC h572.n [(.str s575), (.int .i64 c675), (.int .i64 (IntKind.wrap .i64 (Int.tmod e566.P (3 : Int)))), c603, c621, c656] 0, own (oSl (fz rPlace)) [c170] c171] h676 := S.sel [7, 0, 1, 2, 3, 4, 5, 6] rfl
                      have mc680 := app_some hc680
                      obtain ⟨v679, h678, e681, S⟩ := St.app1R (r := oTrans) (b := 104) S mc680.1
                      have S : St h none' [own (oSl oTrans) [v679] c680, rowC h.n [a0_0, a0_1] 0, rowC h101.n [.nilSlice, .nilSlice] 0, rowC h103.n [c170, c375] 0, rowC h572.n [(.str s575), (.int .i64 c675), (.int .i64 (IntKind.wrap .i64 (Int.tmod e566.P (3 : Int)))), c603, c621, c656] 0, own (oSl (fz rPlace)) [c170] c171] h678 := S.cast (by rw [← mc680.2] <;> rfl)
                      refine ⟨v679, h678, e681, ?_⟩
                      refine ifP_iff.2 ⟨rfl, ?_⟩
                      have S : St h none' [rowC h103.n [c170, c375] 0, own (oSl oTrans) [v679] c680, rowC h.n [a0_0, a0_1] 0, rowC h101.n [.nilSlice, .nilSlice] 0, rowC h572.n [(.str s575), (.int .i64 c675), (.int .i64 (IntKind.wrap .i64 (Int.tmod e566.P (3 : Int)))), c603, c621, c656] 0, own (oSl (fz rPlace)) [c170] c171] h678 := S.sel [3, 0, 1, 2, 4, 5] rfl
                      obtain ⟨h683, e684, S⟩ := S.storeS (off := 1) (x := v679) (cs' := [c170, v679]) (Nat.le_of_ble_eq_true rfl) ((S.sl (r := oTrans) (.tail _ (.head _)))).is rfl
                      have S : St h none' [rowC h103.n [c170, v679] 0, own (oSl oTrans) [v679] c680, rowC h.n [a0_0, a0_1] 0, rowC h101.n [.nilSlice, .nilSlice] 0, rowC h572.n [(.str s575), (.int .i64 c675), (.int .i64 (IntKind.wrap .i64 (Int.tmod e566.P (3 : Int)))), c603, c621, c656] 0, own (oSl (fz rPlace)) [c170] c171] h683 := S
                      refine ⟨h683, e684, ?_⟩
                      have S : St h none' [rowC h.n [a0_0, a0_1] 0, rowC h101.n [.nilSlice, .nilSlice] 0, rowC h103.n [c170, v679] 0, own (oSl (fz rPlace)) [c170] c171, own (oSl oTrans) [v679] c680] h683 := S.sel [2, 3, 0, 5, 1] rfl
                      obtain rfl := Option.some.inj hf
                      exact ⟨m558, Nat.lt_succ_self _, v679, c680, rfl, rfl, rfl, rfl, S, hk⟩
                    refine bP_intro (fun hc => ?_) (fun hc => ?_)
                    · rw [if_pos (show b658 = true from hc)] at hf
                      refine ifP_iff.2 ⟨rfl, ?_⟩
                      have S : St h none' [rowC h572.n [(.str s575), (.int .i64 (IntKind.wrap .i64 (Int.tmod e566.D (5 : Int)))), (.int .i64 (IntKind.wrap .i64 (Int.tmod e566.P (3 : Int)))), c603, c621, c656] 0, rowC h.n [a0_0, a0_1] 0, rowC h101.n [.nilSlice, .nilSlice] 0, rowC h103.n [c170, c375] 0, own (oSl (fz rPlace)) [c170] c171, own (oSl oTrans) [c375] c376, own (oSl (fz rArc)) [c603] c604, own (oSl (fz rArc)) [c621] c622, own (oSl (fz rArc)) [c656] c657] h648 := S.sel [3, 0, 1, 2, 4, 5, 6, 7, 8] rfl
                      obtain ⟨h686, e687, S⟩ := S.store (off := 1) (n := 1) (x := (.int .i64 (1 : Int))) (cs' := [(.str s575), (.int .i64 (1 : Int)), (.int .i64 (IntKind.wrap .i64 (Int.tmod e566.P (3 : Int)))), c603, c621, c656]) (Nat.le_of_ble_eq_true rfl) rfl rfl rfl
                      have S : St h none' [rowC h572.n [(.str s575), (.int .i64 (1 : Int)), (.int .i64 (IntKind.wrap .i64 (Int.tmod e566.P (3 : Int)))), c603, c621, c656] 0, rowC h.n [a0_0, a0_1] 0, rowC h101.n [.nilSlice, .nilSlice] 0, rowC h103.n [c170, c375] 0, own (oSl (fz rPlace)) [c170] c171, own (oSl oTrans) [c375] c376, own (oSl (fz rArc)) [c603] c604, own (oSl (fz rArc)) [c621] c622, own (oSl (fz rArc)) [c656] c657] h686 := S
                      refine ⟨h686, e687, ?_⟩
                      have S : St h none' [rowC h.n [a0_0, a0_1] 0, rowC h101.n [.nilSlice, .nilSlice] 0, rowC h103.n [c170, c375] 0, rowC h572.n [(.str s575), (.int .i64 (1 : Int)), (.int .i64 (IntKind.wrap .i64 (Int.tmod e566.P (3 : Int)))), c603, c621, c656] 0, own (oSl (fz rPlace)) [c170] c171, own (oSl oTrans) [c375] c376, own (oSl (fz rArc)) [c603] c604, own (oSl (fz rArc)) [c621] c622, own (oSl (fz rArc)) [c656] c657] h686 := S.sel [1, 2, 3, 0, 4, 5, 6, 7, 8] rfl
                      exact hjj1  _ (1 : Int) hf  S
                    · rw [if_neg (show ¬ (b658 = true) from by rw [show b658 = false from hc]; exact Bool.false_ne_true)] at hf
                      exact hjj1  _ (IntKind.wrap .i64 (Int.tmod e566.D (5 : Int))) hf  S
                  refine bP_intro (fun hc => ?_) (fun hc => ?_)
                  · rw [if_pos (show (IntKind.wrap .i64 (Int.tmod e566.D (5 : Int))) = (0 : Int) from of_decide_eq_true hc)] at hf
                    refine ifP_iff.2 ⟨rfl, ?_⟩
                    refine ⟨e566.D, S.rd1 (.tail _ (.tail _ (.tail _ (.head _)))) rfl, ?_⟩
                    have S : St h none' [rowC h.n [a0_0, a0_1] 0, rowC h101.n [.nilSlice, .nilSlice] 0, rowC h103.n [c170, c375] 0, rowC h572.n [(.str s575), (.int .i64 (IntKind.wrap .i64 (Int.tmod e566.D (5 : Int)))), (.int .i64 (IntKind.wrap .i64 (Int.tmod e566.P (3 : Int)))), c603, c621, c656] 0, own (oSl (fz rPlace)) [c170] c171, own (oSl oTrans) [c375] c376, own (oSl (fz rArc)) [c603] c604, own (oSl (fz rArc)) [c621] c622, own (oSl (fz rArc)) [c656] c657] h648 := S.sel [0, 1, 2, 4, 5, 6, 7, 8, 9] rfl
                    exact hjj2 _ _  hf rfl S
                  · rw [if_neg (show ¬ ((IntKind.wrap .i64 (Int.tmod e566.D (5 : Int))) = (0 : Int)) from of_decide_eq_false hc)] at hf
                    have S : St h none' [rowC h.n [a0_0, a0_1] 0, rowC h101.n [.nilSlice, .nilSlice] 0, rowC h103.n [c170, c375] 0, rowC h572.n [(.str s575), (.int .i64 (IntKind.wrap .i64 (Int.tmod e566.D (5 : Int)))), (.int .i64 (IntKind.wrap .i64 (Int.tmod e566.P (3 : Int)))), c603, c621, c656] 0, own (oSl (fz rPlace)) [c170] c171, own (oSl oTrans) [c375] c376, own (oSl (fz rArc)) [c603] c604, own (oSl (fz rArc)) [c621] c622, own (oSl (fz rArc)) [c656] c657] h648 := S.sel [0, 1, 2, 4, 5, 6, 7, 8, 9] rfl
                    exact hjj2 _ _  hf rfl S
                refine bP_intro (fun hc => ?_) (fun hc => ?_)
                · rw [if_pos (show (0 : Int) < (Int.tmod e566.Q (3 : Int)) from of_decide_eq_true hc)] at hf
                  refine ifP_iff.2 ⟨rfl, ?_⟩
                  refine ⟨c639, S.rd1 (.tail _ (.tail _ (.tail _ (.tail _ (.head _))))) rfl, ?_⟩
                  refine ifP_iff.2 ⟨rfl, ?_⟩
                  refine ⟨e566.Q, S.rd1 (.tail _ (.tail _ (.tail _ (.head _)))) rfl, ?_⟩
                  obtain ⟨d690, hd690, hf⟩ := obind hf
                  refine oP_intro (.int .i64 d690) (remI_ev hd690) ⟨d690, rfl, ?_⟩
                  obtain ⟨y693, hy693, hf⟩ := obind hf
                  refine ⟨_, Fz.refl _, ?_⟩
                  have S : St h none' [own (oSl (fz rArc)) [c639] c640, rowC h.n [a0_0, a0_1] 0, rowC h101.n [.nilSlice, .nilSlice] 0, rowC h103.n [c170, c375] 0, rowC h374.n [(.int .u8 e566.D), (.int .u8 e566.P), (.int .u8 e566.I), (.int .u8 e566.J), (.int .u8 e566.N), (.int .u8 e566.O), (.int .u8 e566.Q)] 0, rowC h572.n [(.str s575), (.int .i64 (IntKind.wrap .i64 (Int.tmod e566.D (5 : Int)))), (.int .i64 (IntKind.wrap .i64 (Int.tmod e566.P (3 : Int)))), c603, c621, c639] 0, own (oSl (fz rPlace)) [c170] c171, own (oSl oTrans) [c375] c376, own (oSl (fz rArc)) [c603] c604, own (oSl (fz rArc)) [c621] c622] h631 := S.sel [9, 0, 1, 2, 3, 4, 5, 6, 7, 8] rfl
                  obtain ⟨fpy693, S1y693, backy693⟩ := St.lend [_] S
                  refine (r39 (l0 := c640) (place1 := d690) (n2 := (1 : Int)) (S := S1y693) hy693).mono fun v691 h692 T => ?_
                  have S : St h none' [own (oSl (fz rArc)) [v691] y693, rowC h.n [a0_0, a0_1] 0, rowC h101.n [.nilSlice, .nilSlice] 0, rowC h103.n [c170, c375] 0, rowC h374.n [(.int .u8 e566.D), (.int .u8 e566.P), (.int .u8 e566.I), (.int .u8 e566.J), (.int .u8 e566.N), (.int .u8 e566.O), (.int .u8 e566.Q)] 0, rowC h572.n [(.str s575), (.int .i64 (IntKind.wrap .i64 (Int.tmod e566.D (5 : Int)))), (.int .i64 (IntKind.wrap .i64 (Int.tmod e566.P (3 : Int)))), c603, c621, c639] 0, own (oSl (fz rPlace)) [c170] c171, own (oSl oTrans) [c375] c376, own (oSl (fz rArc)) [c603] c604, own (oSl (fz rArc)) [c621] c622] h692 := backy693 _ _ T
                  refine ifP_iff.2 ⟨rfl, ?_⟩
                  have S : St h none' [rowC h572.n [(.str s575), (.int .i64 (IntKind.wrap .i64 (Int.tmod e566.D (5 : Int)))), (.int .i64 (IntKind.wrap .i64 (Int.tmod e566.P (3 : Int)))), c603, c621, c639] 0, own (oSl (fz rArc)) [v691] y693, rowC h.n [a0_0, a0_1] 0, rowC h101.n [.nilSlice, .nilSlice] 0, rowC h103.n [c170, c375] 0, rowC h374.n [(.int .u8 e566.D), (.int .u8 e566.P), (.int .u8 e566.I), (.int .u8 e566.J), (.int .u8 e566.N), (.int .u8 e566.O), (.int .u8 e566.Q)] 0, own (oSl (fz rPlace)) [c170] c171, own (oSl oTrans) [c375] c376, own (oSl (fz rArc)) [c603] c604, own (oSl (fz rArc)) [c621] c622] h692 := S.sel [5, 0, 1, 2, 3, 4, 6, 7, 8, 9] rfl
                  obtain ⟨h695, e696, S⟩ := S.storeS (off := 5) (x := v691) (cs' := [(.str s575), (.int .i64 (IntKind.wrap .i64 (Int.tmod e566.D (5 : Int)))), (.int .i64 (IntKind.wrap .i64 (Int.tmod e566.P (3 : Int)))), c603, c621, v691]) (Nat.le_of_ble_eq_true rfl) ((S.sl (r := (fz rArc)) (.tail _ (.head _)))).is rfl
                  have S : St h none' [rowC h572.n [(.str s575), (.int .i64 (IntKind.wrap .i64 (Int.tmod e566.D (5 : Int)))), (.int .i64 (IntKind.wrap .i64 (Int.tmod e566.P (3 : Int)))), c603, c621, v691] 0, own (oSl (fz rArc)) [v691] y693, rowC h.n [a0_0, a0_1] 0, rowC h101.n [.nilSlice, .nilSlice] 0, rowC h103.n [c170, c375] 0, rowC h374.n [(.int .u8 e566.D), (.int .u8 e566.P), (.int .u8 e566.I), (.int .u8 e566.J), (.int .u8 e566.N), (.int .u8 e566.O), (.int .u8 e566.Q)] 0, own (oSl (fz rPlace)) [c170] c171, own (oSl oTrans) [c375] c376, own (oSl (fz rArc)) [c603] c604, own (oSl (fz rArc)) [c621] c622] h695 := S
                  refine ⟨h695, e696, ?_⟩
                  have S : St h none' [rowC h.n [a0_0, a0_1] 0, rowC h101.n [.nilSlice, .nilSlice] 0, rowC h103.n [c170, c375] 0, rowC h374.n [(.int .u8 e566.D), (.int .u8 e566.P), (.int .u8 e566.I), (.int .u8 e566.J), (.int .u8 e566.N), (.int .u8 e566.O), (.int .u8 e566.Q)] 0, rowC h572.n [(.str s575), (.int .i64 (IntKind.wrap .i64 (Int.tmod e566.D (5 : Int)))), (.int .i64 (IntKind.wrap .i64 (Int.tmod e566.P (3 : Int)))), c603, c621, v691] 0, own (oSl (fz rPlace)) [c170] c171, own (oSl oTrans) [c375] c376, own (oSl (fz rArc)) [c603] c604, own (oSl (fz rArc)) [c621] c622, own (oSl (fz rArc)) [v691] y693] h695 := S.sel [2, 3, 4, 5, 0, 6, 7, 8, 9, 1] rfl
                  exact hjj3  _ v691 y693 hf  S
                · rw [if_neg (show ¬ ((0 : Int) < (Int.tmod e566.Q (3 : Int))) from of_decide_eq_false hc)] at hf
                  exact hjj3  _ c639 c640 hf  S
              refine bP_intro (fun hc => ?_) (fun hc => ?_)
              · rw [if_pos (show (0 : Int) < (Int.tmod e566.O (5 : Int)) from of_decide_eq_true hc)] at hf
                refine ifP_iff.2 ⟨rfl, ?_⟩
                refine ⟨.nilSlice, S.rd1 (.tail _ (.tail _ (.tail _ (.tail _ (.head _))))) rfl, ?_⟩
                refine ifP_iff.2 ⟨rfl, ?_⟩
                refine ⟨e566.O, S.rd1 (.tail _ (.tail _ (.tail _ (.head _)))) rfl, ?_⟩
                obtain ⟨d698, hd698, hf⟩ := obind hf
                refine oP_intro (.int .i64 d698) (remI_ev hd698) ⟨d698, rfl, ?_⟩
                refine ifP_iff.2 ⟨rfl, ?_⟩
                refine ⟨e566.O, S.rd1 (.tail _ (.tail _ (.tail _ (.head _)))) rfl, ?_⟩
                obtain ⟨y702, hy702, hf⟩ := obind hf
                have S : St h none' [own (oSl (fz rArc)) [.nilSlice] [], rowC h.n [a0_0, a0_1] 0, rowC h101.n [.nilSlice, .nilSlice] 0, rowC h103.n [c170, c375] 0, rowC h374.n [(.int .u8 e566.D), (.int .u8 e566.P), (.int .u8 e566.I), (.int .u8 e566.J), (.int .u8 e566.N), (.int .u8 e566.O), (.int .u8 e566.Q)] 0, rowC h572.n [(.str s575), (.int .i64 (IntKind.wrap .i64 (Int.tmod e566.D (5 : Int)))), (.int .i64 (IntKind.wrap .i64 (Int.tmod e566.P (3 : Int)))), c603, c621, .nilSlice] 0, own (oSl (fz rPlace)) [c170] c171, own (oSl oTrans) [c375] c376, own (oSl (fz rArc)) [c603] c604, own (oSl (fz rArc)) [c621] c622] h613 := S.addE (oSl_nil _ _)
                refine ⟨_, Fz.refl _, ?_⟩
                obtain ⟨fpy702, S1y702, backy702⟩ := St.lend [_] S
                refine (r39 (l0 := []) (place1 := d698) (n2 := (IntKind.wrap .i64 ((1 : Int) + (IntKind.wrap .i64 (IntKind.wrap .u8 (Int.tdiv e566.O (128 : Int))))))) (S := S1y702) hy702).mono fun v700 h701 T => ?_
                have S : St h none' [own (oSl (fz rArc)) [v700] y702, rowC h.n [a0_0, a0_1] 0, rowC h101.n [.nilSlice, .nilSlice] 0, rowC h103.n [c170, c375] 0, rowC h374.n [(.int .u8 e566.D), (.int .u8 e566.P), (.int .u8 e566.I), (.int .u8 e566.J), (.int .u8 e566.N), (.int .u8 e566.O), (.int .u8 e566.Q)] 0, rowC h572.n [(.str s575), (.int .i64 (IntKind.wrap .i64 (Int.tmod e566.D (5 : Int)))), (.int .i64 (IntKind.wrap .i64 (Int.tmod e566.P (3 : Int)))), c603, c621, .nilSlice] 0, own (oSl (fz rPlace)) [c170] c171, own (oSl oTrans) [c375] c376, own (oSl (fz rArc)) [c603] c604, own (oSl (fz rArc)) [c621] c622] h701 := backy702 _ _ T
                refine ifP_iff.2 ⟨rfl, ?_⟩
                have S : St h none' [rowC h572.n [(.str s575), (.int .i64 (IntKind.wrap .i64 (Int.tmod e566.D (5 : Int)))), (.int .i64 (IntKind.wrap .i64 (Int.tmod e566.P (3 : Int)))), c603, c621, .nilSlice] 0, own (oSl (fz rArc)) [v700] y702, rowC h.n [a0_0, a0_1] 0, rowC h101.n [.nilSlice, .nilSlice] 0, rowC h103.n [c170, c375] 0, rowC h374.n [(.int .u8 e566.D), (.int .u8 e566.P), (.int .u8 e566.I), (.int .u8 e566.J), (.int .u8 e566.N), (.int .u8 e566.O), (.int .u8 e566.Q)] 0, own (oSl (fz rPlace)) [c170] c171, own (oSl oTrans) [c375] c376, own (oSl (fz rArc)) [c603] c604, own (oSl (fz rArc)) [c621] c622] h701 := S.sel [5, 0, 1, 2, 3, 4, 6, 7, 8, 9] rfl
                obtain ⟨h704, e705, S⟩ := S.storeS (off := 5) (x := v700) (cs' := [(.str s575), (.int .i64 (IntKind.wrap .i64 (Int.tmod e566.D (5 : Int)))), (.int .i64 (IntKind.wrap .i64 (Int.tmod e566.P (3 : Int)))), c603, c621, v700]) (Nat.le_of_ble_eq_true rfl) ((S.sl (r := (fz rArc)) (.tail _ (.head _)))).is rfl
                have S : St h none' [rowC h572.n [(.str s575), (.int .i64 (IntKind.wrap .i64 (Int.tmod e566.D (5 : Int)))), (.int .i64 (IntKind.wrap .i64 (Int.tmod e566.P (3 : Int)))), c603, c621, v700] 0, own (oSl (fz rArc)) [v700] y702, rowC h.n [a0_0, a0_1] 0, rowC h101.n [.nilSlice, .nilSlice] 0, rowC h103.n [c170, c375] 0, rowC h374.n [(.int .u8 e566.D), (.int .u8 e566.P), (.int .u8 e566.I), (.int .u8 e566.J), (.int .u8 e566.N), (.int .u8 e566.O), (.int .u8 e566.Q)] 0, own (oSl (fz rPlace)) [c170] c171, own (oSl oTrans) [c375] c376, own (oSl (fz rArc)) [c603] c604, own (oSl (fz rArc)) [c621] c622] h704 := S
                refine ⟨h704, e705, ?_⟩
                have S : St h none' [rowC h.n [a0_0, a0_1] 0, rowC h101.n [.nilSlice, .nilSlice] 0, rowC h103.n [c170, c375] 0, rowC h374.n [(.int .u8 e566.D), (.int .u8 e566.P), (.int .u8 e566.I), (.int .u8 e566.J), (.int .u8 e566.N), (.int .u8 e566.O), (.int .u8 e566.Q)] 0, rowC h572.n [(.str s575), (.int .i64 (IntKind.wrap .i64 (Int.tmod e566.D (5 : Int)))), (.int .i64 (IntKind.wrap .i64 (Int.tmod e566.P (3 : Int)))), c603, c621, v700] 0, own (oSl (fz rPlace)) [c170] c171, own (oSl oTrans) [c375] c376, own (oSl (fz rArc)) [c603] c604, own (oSl (fz rArc)) [c621] c622, own (oSl (fz rArc)) [v700] y702] h704 := S.sel [2, 3, 4, 5, 0, 6, 7, 8, 9, 1] rfl
                exact hjj4  _ v700 y702 hf  S
              · rw [if_neg (show ¬ ((0 : Int) < (Int.tmod e566.O (5 : Int))) from of_decide_eq_false hc)] at hf
                have S : St h none' [own (oSl (fz rArc)) [.nilSlice] [], rowC h.n [a0_0, a0_1] 0, rowC h101.n [.nilSlice, .nilSlice] 0, rowC h103.n [c170, c375] 0, rowC h374.n [(.int .u8 e566.D), (.int .u8 e566.P), (.int .u8 e566.I), (.int .u8 e566.J), (.int .u8 e566.N), (.int .u8 e566.O), (.int .u8 e566.Q)] 0, rowC h572.n [(.str s575), (.int .i64 (IntKind.wrap .i64 (Int.tmod e566.D (5 : Int)))), (.int .i64 (IntKind.wrap .i64 (Int.tmod e566.P (3 : Int)))), c603, c621, .nilSlice] 0, own (oSl (fz rPlace)) [c170] c171, own (oSl oTrans) [c375] c376, own (oSl (fz rArc)) [c603] c604, own (oSl (fz rArc)) [c621] c622] h613 := S.addE (oSl_nil _ _)
                have S : St h none' [rowC h.n [a0_0, a0_1] 0, rowC h101.n [.nilSlice, .nilSlice] 0, rowC h103.n [c170, c375] 0, rowC h374.n [(.int .u8 e566.D), (.int .u8 e566.P), (.int .u8 e566.I), (.int .u8 e566.J), (.int .u8 e566.N), (.int .u8 e566.O), (.int .u8 e566.Q)] 0, rowC h572.n [(.str s575), (.int .i64 (IntKind.wrap .i64 (Int.tmod e566.D (5 : Int)))), (.int .i64 (IntKind.wrap .i64 (Int.tmod e566.P (3 : Int)))), c603, c621, .nilSlice] 0, own (oSl (fz rPlace)) [c170] c171, own (oSl oTrans) [c375] c376, own (oSl (fz rArc)) [c603] c604, own (oSl (fz rArc)) [c621] c622, own (oSl (fz rArc)) [.nilSlice] []] h613 := S.sel [1, 2, 3, 4, 5, 6, 7, 8, 9, 0] rfl
                exact hjj4  _ .nilSlice [] hf  S
            refine bP_intro (fun hc => ?_) (fun hc => ?_)
            · rw [if_pos (show (Int.tmod e566.N (4 : Int)) = (0 : Int) from of_decide_eq_true hc)] at hf
              refine ifP_iff.2 ⟨rfl, ?_⟩
              refine ⟨.nilSlice, S.rd1 (.tail _ (.tail _ (.tail _ (.tail _ (.head _))))) rfl, ?_⟩
              refine ifP_iff.2 ⟨rfl, ?_⟩
              refine ⟨e566.N, S.rd1 (.tail _ (.tail _ (.tail _ (.head _)))) rfl, ?_⟩
              obtain ⟨d708, hd708, hf⟩ := obind hf
              refine oP_intro (.int .i64 d708) (remI_ev hd708) ⟨d708, rfl, ?_⟩
              refine ifP_iff.2 ⟨rfl, ?_⟩
              refine ⟨e566.N, S.rd1 (.tail _ (.tail _ (.tail _ (.head _)))) rfl, ?_⟩
              obtain ⟨y712, hy712, hf⟩ := obind hf
              have S : St h none' [own (oSl (fz rArc)) [.nilSlice] [], rowC h.n [a0_0, a0_1] 0, rowC h101.n [.nilSlice, .nilSlice] 0, rowC h103.n [c170, c375] 0, rowC h374.n [(.int .u8 e566.D), (.int .u8 e566.P), (.int .u8 e566.I), (.int .u8 e566.J), (.int .u8 e566.N), (.int .u8 e566.O), (.int .u8 e566.Q)] 0, rowC h572.n [(.str s575), (.int .i64 (IntKind.wrap .i64 (Int.tmod e566.D (5 : Int)))), (.int .i64 (IntKind.wrap .i64 (Int.tmod e566.P (3 : Int)))), c603, .nilSlice, .nilSlice] 0, own (oSl (fz rPlace)) [c170] c171, own (oSl oTrans) [c375] c376, own (oSl (fz rArc)) [c603] c604] h595 := S.addE (oSl_nil _ _)
              refine ⟨_, Fz.refl _, ?_⟩
              obtain ⟨fpy712, S1y712, backy712⟩ := St.lend [_] S
              refine (r39 (l0 := []) (place1 := d708) (n2 := (IntKind.wrap .i64 ((1 : Int) + (IntKind.wrap .i64 (IntKind.wrap .u8 (Int.tdiv e566.N (64 : Int))))))) (S := S1y712) hy712).mono fun v710 h711 T => ?_
              have S : St h none' [own (oSl (fz rArc)) [v710] y712, rowC h.n [a0_0, a0_1] 0, rowC h101.n [.nilSlice, .nilSlice] 0, rowC h103.n [c170, c375] 0, rowC h374.n [(.int .u8 e566.D), (.int .u8 e566.P), (.int .u8 e566.I), (.int .u8 e566.J), (.int .u8 e566.N), (.int .u8 e566.O), (.int .u8 e566.Q)] 0, rowC h572.n [(.str s575), (.int .i64 (IntKind.wrap .i64 (Int.tmod e566.D (5 : Int)))), (.int .i64 (IntKind.wrap .i64 (Int.tmod e566.P (3 : Int)))), c603, .nilSlice, .nilSlice] 0, own (oSl (fz rPlace)) [c170] c171, own (oSl oTrans) [c375] c376, own (oSl (fz rArc)) [c603] c604] h711 := backy712 _ _ T
              refine ifP_iff.2 ⟨rfl, ?_⟩
              have S : St h none' [rowC h572.n [(.str s575), (.int .i64 (IntKind.wrap .i64 (Int.tmod e566.D (5 : Int)))), (.int .i64 (IntKind.wrap .i64 (Int.tmod e566.P (3 : Int)))), c603, .nilSlice, .nilSlice] 0, own (oSl (fz rArc)) [v710] y712, rowC h.n [a0_0, a0_1] 0, rowC h101.n [.nilSlice, .nilSlice] 0, rowC h103.n [c170, c375] 0, rowC h374.n [(.int .u8 e566.D), (.int .u8 e566.P), (.int .u8 e566.I), (.int .u8 e566.J), (.int .u8 e566.N), (.int .u8 e566.O), (.int .u8 e566.Q)] 0, own (oSl (fz rPlace)) [c170] c171, own (oSl oTrans) [c375] c376, own (oSl (fz rArc)) [c603] c604] h711 := S.sel [5, 0, 1, 2, 3, 4, 6, 7, 8] rfl
              obtain ⟨h714, e715, S⟩ := S.storeS (off := 4) (x := v710) (cs' := [(.str s575), (.int .i64 (IntKind.wrap .i64 (Int.tmod e566.D (5 : Int)))), (.int .i64 (IntKind.wrap .i64 (Int.tmod e566.P (3 : Int)))), c603, v710, .nilSlice]) (Nat.le_of_ble_eq_true rfl) ((S.sl (r := (fz rArc)) (.tail _ (.head _)))).is rfl
              have S : St h none' [rowC h572.n [(.str s575), (.int .i64 (IntKind.wrap .i64 (Int.tmod e566.D (5 : Int)))), (.int .i64 (IntKind.wrap .i64 (Int.tmod e566.P (3 : Int)))), c603, v710, .nilSlice] 0, own (oSl (fz rArc)) [v710] y712, rowC h.n [a0_0, a0_1] 0, rowC h101.n [.nilSlice, .nilSlice] 0, rowC h103.n [c170, c375] 0, rowC h374.n [(.int .u8 e566.D), (.int .u8 e566.P), (.int .u8 e566.I), (.int .u8 e566.J), (.int .u8 e566.N), (.int .u8 e566.O), (.int .u8 e566.Q)] 0, own (oSl (fz rPlace)) [c170] c171, own (oSl oTrans) [c375] c376, own (oSl (fz rArc)) [c603] c604] h714 := S
              refine ⟨h714, e715, ?_⟩
              have S : St h none' [rowC h.n [a0_0, a0_1] 0, rowC h101.n [.nilSlice, .nilSlice] 0, rowC h103.n [c170, c375] 0, rowC h374.n [(.int .u8 e566.D), (.int .u8 e566.P), (.int .u8 e566.I), (.int .u8 e566.J), (.int .u8 e566.N), (.int .u8 e566.O), (.int .u8 e566.Q)] 0, rowC h572.n [(.str s575), (.int .i64 (IntKind.wrap .i64 (Int.tmod e566.D (5 : Int)))), (.int .i64 (IntKind.wrap .i64 (Int.tmod e566.P (3 : Int)))), c603, v710, .nilSlice] 0, own (oSl (fz rPlace)) [c170] c171, own (oSl oTrans) [c375] c376, own (oSl (fz rArc)) [c603] c604, own (oSl (fz rArc)) [v710] y712] h714 := S.sel [2, 3, 4, 5, 0, 6, 7, 8, 1] rfl
              exact hjj5  _ v710 y712 hf  S
            · rw [if_neg (show ¬ ((Int.tmod e566.N (4 : Int)) = (0 : Int)) from of_decide_eq_false hc)] at hf
              have S : St h none' [own (oSl (fz rArc)) [.nilSlice] [], rowC h.n [a0_0, a0_1] 0, rowC h101.n [.nilSlice, .nilSlice] 0, rowC h103.n [c170, c375] 0, rowC h374.n [(.int .u8 e566.D), (.int .u8 e566.P), (.int .u8 e566.I), (.int .u8 e566.J), (.int .u8 e566.N), (.int .u8 e566.O), (.int .u8 e566.Q)] 0, rowC h572.n [(.str s575), (.int .i64 (IntKind.wrap .i64 (Int.tmod e566.D (5 : Int)))), (.int .i64 (IntKind.wrap .i64 (Int.tmod e566.P (3 : Int)))), c603, .nilSlice, .nilSlice] 0, own (oSl (fz rPlace)) [c170] c171, own (oSl oTrans) [c375] c376, own (oSl (fz rArc)) [c603] c604] h595 := S.addE (oSl_nil _ _)
              have S : St h none' [rowC h.n [a0_0, a0_1] 0, rowC h101.n [.nilSlice, .nilSlice] 0, rowC h103.n [c170, c375] 0, rowC h374.n [(.int .u8 e566.D), (.int .u8 e566.P), (.int .u8 e566.I), (.int .u8 e566.J), (.int .u8 e566.N), (.int .u8 e566.O), (.int .u8 e566.Q)] 0, rowC h572.n [(.str s575), (.int .i64 (IntKind.wrap .i64 (Int.tmod e566.D (5 : Int)))), (.int .i64 (IntKind.wrap .i64 (Int.tmod e566.P (3 : Int)))), c603, .nilSlice, .nilSlice] 0, own (oSl (fz rPlace)) [c170] c171, own (oSl oTrans) [c375] c376, own (oSl (fz rArc)) [c603] c604, own (oSl (fz rArc)) [.nilSlice] []] h595 := S.sel [1, 2, 3, 4, 5, 6, 7, 8, 0] rfl
              exact hjj5  _ .nilSlice [] hf  S
          refine bP_intro (fun hc => ?_) (fun hc => ?_)
          · rw [if_pos (show (Int.tmod e566.J (3 : Int)) = (0 : Int) from of_decide_eq_true hc)] at hf
            refine ⟨v582, S.rd1 (.head _) rfl, ?_⟩
            refine ⟨e566.J, S.rd1 (.tail _ (.tail _ (.tail _ (.head _)))) rfl, ?_⟩
            obtain ⟨d718, hd718, hf⟩ := obind hf
            refine oP_intro (.int .i64 d718) (remI_ev hd718) ⟨d718, rfl, ?_⟩
            obtain ⟨y721, hy721, hf⟩ := obind hf
            refine ⟨_, Fz.refl _, ?_⟩
            have S : St h none' [own (oSl (fz rArc)) [v582] y584, rowC h572.n [(.str s575), (.int .i64 (IntKind.wrap .i64 (Int.tmod e566.D (5 : Int)))), (.int .i64 (IntKind.wrap .i64 (Int.tmod e566.P (3 : Int)))), v582, .nilSlice, .nilSlice] 0, own (oSl (fz (rI .u8))) [(.slice h570.n 0 0 1 1)] [(IntKind.wrap .u8 (IntKind.wrap .i64 ((48 : Int) + y204)))], rowC h374.n [(.int .u8 e566.D), (.int .u8 e566.P), (.int .u8 e566.I), (.int .u8 e566.J), (.int .u8 e566.N), (.int .u8 e566.O), (.int .u8 e566.Q)] 0, rowC h.n [a0_0, a0_1] 0, rowC h101.n [.nilSlice, .nilSlice] 0, rowC h103.n [c170, c375] 0, own (oSl (fz rPlace)) [c170] c171, own (oSl oTrans) [c375] c376] h586 := S.sel [1, 0, 2, 3, 4, 5, 6, 7, 8] rfl
            obtain ⟨fpy721, S1y721, backy721⟩ := St.lend [_] S
            refine (r39 (l0 := y584) (place1 := d718) (n2 := (1 : Int)) (S := S1y721) hy721).mono fun v719 h720 T => ?_
            have S : St h none' [own (oSl (fz rArc)) [v719] y721, rowC h572.n [(.str s575), (.int .i64 (IntKind.wrap .i64 (Int.tmod e566.D (5 : Int)))), (.int .i64 (IntKind.wrap .i64 (Int.tmod e566.P (3 : Int)))), v582, .nilSlice, .nilSlice] 0, own (oSl (fz (rI .u8))) [(.slice h570.n 0 0 1 1)] [(IntKind.wrap .u8 (IntKind.wrap .i64 ((48 : Int) + y204)))], rowC h374.n [(.int .u8 e566.D), (.int .u8 e566.P), (.int .u8 e566.I), (.int .u8 e566.J), (.int .u8 e566.N), (.int .u8 e566.O), (.int .u8 e566.Q)] 0, rowC h.n [a0_0, a0_1] 0, rowC h101.n [.nilSlice, .nilSlice] 0, rowC h103.n [c170, c375] 0, own (oSl (fz rPlace)) [c170] c171, own (oSl oTrans) [c375] c376] h720 := backy721 _ _ T
            have S : St h none' [rowC h572.n [(.str s575), (.int .i64 (IntKind.wrap .i64 (Int.tmod e566.D (5 : Int)))), (.int .i64 (IntKind.wrap .i64 (Int.tmod e566.P (3 : Int)))), v582, .nilSlice, .nilSlice] 0, own (oSl (fz rArc)) [v719] y721, own (oSl (fz (rI .u8))) [(.slice h570.n 0 0 1 1)] [(IntKind.wrap .u8 (IntKind.wrap .i64 ((48 : Int) + y204)))], rowC h374.n [(.int .u8 e566.D), (.int .u8 e566.P), (.int .u8 e566.I), (.int .u8 e566.J), (.int .u8 e566.N), (.int .u8 e566.O), (.int .u8 e566.Q)] 0, rowC h.n [a0_0, a0_1] 0, rowC h101.n [.nilSlice, .nilSlice] 0, rowC h103.n [c170, c375] 0, own (oSl (fz rPlace)) [c170] c171, own (oSl oTrans) [c375] c376] h720 := S.sel [1, 0, 2, 3, 4, 5, 6, 7, 8] rfl
            obtain ⟨h723, e724, S⟩ := S.storeS (off := 3) (x := v719) (cs' := [(.str s575), (.int .i64 (IntKind.wrap .i64 (Int.tmod e566.D (5 : Int)))), (.int .i64 (IntKind.wrap .i64 (Int.tmod e566.P (3 : Int)))), v719, .nilSlice, .nilSlice]) (Nat.le_of_ble_eq_true rfl) ((S.sl (r := (fz rArc)) (.tail _ (.head _)))).is rfl
            have S : St h none' [rowC h572.n [(.str s575), (.int .i64 (IntKind.wrap .i64 (Int.tmod e566.D (5 : Int)))), (.int .i64 (IntKind.wrap .i64 (Int.tmod e566.P (3 : Int)))), v719, .nilSlice, .nilSlice] 0, own (oSl (fz rArc)) [v719] y721, own (oSl (fz (rI .u8))) [(.slice h570.n 0 0 1 1)] [(IntKind.wrap .u8 (IntKind.wrap .i64 ((48 : Int) + y204)))], rowC h374.n [(.int .u8 e566.D), (.int .u8 e566.P), (.int .u8 e566.I), (.int .u8 e566.J), (.int .u8 e566.N), (.int .u8 e566.O), (.int .u8 e566.Q)] 0, rowC h.n [a0_0, a0_1] 0, rowC h101.n [.nilSlice, .nilSlice] 0, rowC h103.n [c170, c375] 0, own (oSl (fz rPlace)) [c170] c171, own (oSl oTrans) [c375] c376] h723 := S
            refine ⟨h723, e724, ?_⟩
            have S : St h none' [rowC h.n [a0_0, a0_1] 0, rowC h101.n [.nilSlice, .nilSlice] 0, rowC h103.n [c170, c375] 0, rowC h374.n [(.int .u8 e566.D), (.int .u8 e566.P), (.int .u8 e566.I), (.int .u8 e566.J), (.int .u8 e566.N), (.int .u8 e566.O), (.int .u8 e566.Q)] 0, rowC h572.n [(.str s575), (.int .i64 (IntKind.wrap .i64 (Int.tmod e566.D (5 : Int)))), (.int .i64 (IntKind.wrap .i64 (Int.tmod e566.P (3 : Int)))), v719, .nilSlice, .nilSlice] 0, own (oSl (fz rPlace)) [c170] c171, own (oSl oTrans) [c375] c376, own (oSl (fz rArc)) [v719] y721] h723 := S.sel [4, 5, 6, 3, 0, 7, 8, 1] rfl
            exact hjj6  _ v719 y721 hf  S
          · rw [if_neg (show ¬ ((Int.tmod e566.J (3 : Int)) = (0 : Int)) from of_decide_eq_false hc)] at hf
            have S : St h none' [rowC h.n [a0_0, a0_1] 0, rowC h101.n [.nilSlice, .nilSlice] 0, rowC h103.n [c170, c375] 0, rowC h374.n [(.int .u8 e566.D), (.int .u8 e566.P), (.int .u8 e566.I), (.int .u8 e566.J), (.int .u8 e566.N), (.int .u8 e566.O), (.int .u8 e566.Q)] 0, rowC h572.n [(.str s575), (.int .i64 (IntKind.wrap .i64 (Int.tmod e566.D (5 : Int)))), (.int .i64 (IntKind.wrap .i64 (Int.tmod e566.P (3 : Int)))), v582, .nilSlice, .nilSlice] 0, own (oSl (fz rPlace)) [c170] c171, own (oSl oTrans) [c375] c376, own (oSl (fz rArc)) [v582] y584] h586 := S.sel [4, 5, 6, 3, 0, 7, 8, 1] rfl
            exact hjj6  _ v582 y584 hf  S
        · rw [if_neg (show ¬ (b559 = true) from by rw [show b559 = false from hc]; exact Bool.false_ne_true)] at hf
          have S : St h none' [rowC h101.n [.nilSlice, .nilSlice] 0, rowC h103.n [c170, c375] 0, own (oSl (fz rPlace)) [c170] c171, own (oSl oTrans) [c375] c376] h374 := S.sel [1, 2, 3, 4] rfl
          obtain rfl := Option.some.inj hf
          obtain rfl := hk
          exact ⟨c375, c376, rfl, rfl, S, rfl⟩
      refine bP_intro (fun hc => ?_) (fun hc => ?_)
      · rw [if_pos (show y204 < (x0.Acts.length : Int) from of_decide_eq_true hc)] at hf
        exact hjj7 _ _  hf rfl S
      · rw [if_neg (show ¬ (y204 < (x0.Acts.length : Int)) from of_decide_eq_false hc)] at hf
        exact hjj7 _ _  hf rfl S
    · exact ⟨.nilSlice, [], rfl, rfl, rfl, rfl, S, hL⟩
  · rintro m1750 y107 y108 y109 y110 h136 ⟨c137, c138, rfl, rfl, rfl, S, hit⟩
    obtain ⟨m175, q174, rfl, hf, hk⟩ := iter_some hit
    clear hit
    unfold B17_0
    unfold p17_l0 at hf
    try dsimp only at hf
    refine ifP_iff.2 ⟨rfl, ?_⟩
    refine ⟨a0_0, S.rd1 (.head _) rfl, ?_⟩
    refine ifP_iff.2 ⟨(f0_0).is, ?_⟩
    try rw [(f0_0).slen]
    refine bP_intro (fun hc => ?_) (fun hc => ?_)
    · rw [if_pos (show y110 < (IntKind.wrap .i64 ((1 : Int) + (Int.tmod (x0.Tokens.length : Int) (7 : Int)))) from of_decide_eq_true hc)] at hf
      refine ifP_iff.2 ⟨rfl, ?_⟩
      refine ⟨a0_0, S.rd1 (.head _) rfl, ?_⟩
      refine ifP_iff.2 ⟨(f0_0).is, ?_⟩
      try rw [(f0_0).slen]
      intro jjj0
      have hjj0 : ∀ (y183 : Int) (h178 : Heap) , p17_j0 y110 c138 y183 = some q174 → St h none' [rowC h.n [a0_0, a0_1] 0, rowC h101.n [.nilSlice, .nilSlice] 0, rowC h103.n [c137, .nilSlice] 0, own (oSl (fz rPlace)) [c137] c138] h178 → jjj0 y183 h178 := by
        rintro y183 h178 hf S
        unfold p17_j0 at hf
        unfold jjj0
        refine ifP_iff.2 ⟨rfl, ?_⟩
        refine ⟨c137, S.rd1 (.tail _ (.tail _ (.head _))) rfl, ?_⟩
        intro h184
        have S : St h none' [rowC h178.n [(.int .u8 (IntKind.wrap .u8 (IntKind.wrap .i64 ((97 : Int) + y110))))] 0, rowC h.n [a0_0, a0_1] 0, rowC h101.n [.nilSlice, .nilSlice] 0, rowC h103.n [c137, .nilSlice] 0, own (oSl (fz rPlace)) [c137] c138] h184 := S.pushRow [(.int .u8 (IntKind.wrap .u8 (IntKind.wrap .i64 ((97 : Int) + y110))))]
        have S : St h none' [own (oSl (fz (rI .u8))) [(.slice h178.n 0 0 1 1)] [(IntKind.wrap .u8 (IntKind.wrap .i64 ((97 : Int) + y110)))], rowC h.n [a0_0, a0_1] 0, rowC h101.n [.nilSlice, .nilSlice] 0, rowC h103.n [c137, .nilSlice] 0, own (oSl (fz rPlace)) [c137] c138] h184 := St.lit (r := (rI .u8)) (els := [[(.int .u8 (IntKind.wrap .u8 (IntKind.wrap .i64 ((97 : Int) + y110))))]]) (l := [(IntKind.wrap .u8 (IntKind.wrap .i64 ((97 : Int) + y110)))]) (n := 1) S rfl (.cons rfl (.nil)) rfl
        refine ⟨_, bytes_ev (S.sl (r := (fz (rI .u8))) (.head _)), ([(IntKind.wrap .u8 (IntKind.wrap .i64 ((97 : Int) + y110)))].map u8), rfl, ?_⟩
        obtain ⟨s186, hs186, hf⟩ := obind hf
        refine oP_intro (.str s186) (catS_ev hs186) ⟨s186, rfl, ?_⟩
        intro h187
        have S : St h none' [rowC h184.n [(.str s186), (.int .i64 y183)] 0, own (oSl (fz (rI .u8))) [(.slice h178.n 0 0 1 1)] [(IntKind.wrap .u8 (IntKind.wrap .i64 ((97 : Int) + y110)))], rowC h.n [a0_0, a0_1] 0, rowC h101.n [.nilSlice, .nilSlice] 0, rowC h103.n [c137, .nilSlice] 0, own (oSl (fz rPlace)) [c137] c138] h187 := S.pushRow [(.str s186), (.int .i64 y183)]
        obtain ⟨c191, hc191, hf⟩ := obind hf
        have S : St h none' [own (fz rPlace) [(.str s186), (.int .i64 y183)] (TPlace.mk s186 y183), rowC h184.n [(.str s186), (.int .i64 y183)] 0, own (oSl (fz (rI .u8))) [(.slice h178.n 0 0 1 1)] [(IntKind.wrap .u8 (IntKind.wrap .i64 ((97 : Int) + y110)))], rowC h.n [a0_0, a0_1] 0, rowC h101.n [.nilSlice, .nilSlice] 0, rowC h103.n [c137, .nilSlice] 0, own (oSl (fz rPlace)) [c137] c138] h187 := S.add (r := rPlace) (x := (TPlace.mk s186 y183)) (rPlace_mk (x := (TPlace.mk s186 y183)))
        have S : St h none' [own (oSl (fz rPlace)) [c137] c138, own (fz rPlace) [(.str s186), (.int .i64 y183)] (TPlace.mk s186 y183), rowC h184.n [(.str s186), (.int .i64 y183)] 0, own (oSl (fz (rI .u8))) [(.slice h178.n 0 0 1 1)] [(IntKind.wrap .u8 (IntKind.wrap .i64 ((97 : Int) + y110)))], rowC h.n [a0_0, a0_1] 0, rowC h101.n [.nilSlice, .nilSlice] 0, rowC h103.n [c137, .nilSlice] 0] h187 := S.sel [6, 0, 1, 2, 3, 4, 5] rfl
        have mc191 := app_some hc191
        obtain ⟨v190, h189, e192, S⟩ := St.app1R (r := (fz rPlace)) (b := 24) S mc191.1
        have S : St h none' [own (oSl (fz rPlace)) [v190] c191, own (oSl (fz (rI .u8))) [(.slice h178.n 0 0 1 1)] [(IntKind.wrap .u8 (IntKind.wrap .i64 ((97 : Int) + y110)))], rowC h.n [a0_0, a0_1] 0, rowC h101.n [.nilSlice, .nilSlice] 0, rowC h103.n [c137, .nilSlice] 0] h189 := S.cast (by rw [← mc191.2] <;> rfl)
        refine ⟨v190, h189, e192, ?_⟩
        refine ifP_iff.2 ⟨rfl, ?_⟩
        have S : St h none' [rowC h103.n [c137, .nilSlice] 0, own (oSl (fz rPlace)) [v190] c191, own (oSl (fz (rI .u8))) [(.slice h178.n 0 0 1 1)] [(IntKind.wrap .u8 (IntKind.wrap .i64 ((97 : Int) + y110)))], rowC h.n [a0_0, a0_1] 0, rowC h101.n [.nilSlice, .nilSlice] 0] h189 := S.sel [4, 0, 1, 2, 3] rfl
        obtain ⟨h194, e195, S⟩ := S.storeS (off := 0) (x := v190) (cs' := [v190, .nilSlice]) (Nat.le_of_ble_eq_true rfl) ((S.sl (r := (fz rPlace)) (.tail _ (.head _)))).is rfl
        have S : St h none' [rowC h103.n [v190, .nilSlice] 0, own (oSl (fz rPlace)) [v190] c191, own (oSl (fz (rI .u8))) [(.slice h178.n 0 0 1 1)] [(IntKind.wrap .u8 (IntKind.wrap .i64 ((97 : Int) + y110)))], rowC h.n [a0_0, a0_1] 0, rowC h101.n [.nilSlice, .nilSlice] 0] h194 := S
        refine ⟨h194, e195, ?_⟩
        have S : St h none' [rowC h.n [a0_0, a0_1] 0, rowC h101.n [.nilSlice, .nilSlice] 0, rowC h103.n [v190, .nilSlice] 0, own (oSl (fz rPlace)) [v190] c191] h194 := S.sel [3, 4, 0, 1] rfl
        obtain rfl := Option.some.inj hf
        exact ⟨m175, Nat.lt_succ_self _, v190, c191, rfl, rfl, rfl, S, hk⟩
      refine bP_intro (fun hc => ?_) (fun hc => ?_)
      · rw [if_pos (show y110 < (x0.Tokens.length : Int) from of_decide_eq_true hc)] at hf
        refine ifP_iff.2 ⟨rfl, ?_⟩
        refine ⟨a0_0, S.rd1 (.head _) rfl, ?_⟩
        obtain ⟨e197, he197, hf⟩ := obind hf
        obtain ⟨qe197, q0e197, q1e197⟩ := SlR.ix f0_0 he197
        have pe197 := (SlR.idx f0_0 (snap_mono S.le) he197).1
        refine ifP_iff.2 ⟨qe197, q0e197, (by first | exact q1e197 | exact (idx_lt he197).2), ?_⟩
        obtain ⟨_, cr198, Rr198, Nr198, Or198, Zr198⟩ := SlR.idx f0_0 (snap_mono S.le) he197
        obtain rfl : cr198 = [(.int .u8 e197)] := Rr198
        refine ⟨e197, Zr198 _ rfl, ?_⟩
        exact hjj0 _ _  hf  S
      · rw [if_neg (show ¬ (y110 < (x0.Tokens.length : Int)) from of_decide_eq_false hc)] at hf
        exact hjj0 _ _  hf  S
    · rw [if_neg (show ¬ (y110 < (IntKind.wrap .i64 ((1 : Int) + (Int.tmod (x0.Tokens.length : Int) (7 : Int))))) from of_decide_eq_false hc)] at hf
      obtain rfl := Option.some.inj hf
      obtain rfl := hk
      exact ⟨c137, c138, rfl, rfl, rfl, S, rfl⟩
  · exact ⟨.nilSlice, [], rfl, rfl, rfl, S, hL⟩
/-! 23: marblerun/marblerunref05.Named -/
noncomputable def p23_l0 (x0 : TNet) (st : Int × (List TPlace)) : Option ((Int × (List TPlace)) ⊕ (List TPlace)) := match st with | (y113, c138) => if y113 < (x0.Places.length : Int) then ((idx x0.Places y113).bind fun e173 => (catS ([112] : List UInt8) ([(IntKind.wrap .u8 (IntKind.wrap .i64 ((97 : Int) + (Int.tmod y113 (26 : Int))))), (IntKind.wrap .u8 (IntKind.wrap .i64 ((97 : Int) + (IntKind.wrap .i64 (Int.tdiv y113 (26 : Int))))))].map u8)).bind fun s181 => (app 24 c138 [(TPlace.mk s181 e173.Tokens)]).bind fun c188 => some (.inl ((IntKind.wrap .i64 (y113 + (1 : Int))), c188))) else (some (.inr c138))
noncomputable def p23_l1 (x0 : TNet) (st : Int × (List TTrans)) : Option ((Int × (List TTrans)) ⊕ (List TTrans)) := match st with | (y197, c229) => if y197 < (x0.Trans.length : Int) then ((idx x0.Trans y197).bind fun e271 => (catS ([116] : List UInt8) ([(IntKind.wrap .u8 (IntKind.wrap .i64 ((97 : Int) + (Int.tmod y197 (26 : Int))))), (IntKind.wrap .u8 (IntKind.wrap .i64 ((97 : Int) + (IntKind.wrap .i64 (Int.tdiv y197 (26 : Int))))))].map u8)).bind fun s282 => (app 104 c229 [(TTrans.mk s282 e271.Delay e271.Prio e271.In e271.Not e271.Out)]).bind fun c293 => some (.inl ((IntKind.wrap .i64 (y197 + (1 : Int))), c293))) else (some (.inr c229))
noncomputable def p23 (x0 : TNet) : Option TNet := (loopC (p23_l0 x0) ((0 : Int), [])).bind fun res169 => ((fun (c168 : List TPlace) => (loopC (p23_l1 x0) ((0 : Int), [])).bind fun res267 => ((fun (c266 : List TTrans) => some (TNet.mk c168 c266)) res267)) res169)
theorem r23 {h : Heap} {a0_0 : AV} {a0_1 : AV} {x0 : TNet} (f0_0 : SlR rPlace (Snap h) a0_0 x0.Places) (f0_1 : SlR rTrans (Frz h) a0_1 x0.Trans) {r : TNet} (hf : p23 x0 = some r) : ZCalls F 23 [(.agg [a0_0, a0_1])] h fun v h' => ∃ cs, v = .agg cs ∧ St h none' [own (fz rNet) cs r] h' := by
  refine ZCalls.frz (K := fun v h' => ∃ c0 c1, v = .agg [c0, c1] ∧ St h none' [own (oSl (fz rPlace)) [c0] r.Places, own (oSl (fz rTrans)) [c1] r.Trans] h') ?_ (fun v h' hq => ?_)
  · refine w23 ?_
    unfold W23
    unfold p23 at hf
    have S : St h none' [] h := St.refl _ _
    have S := S.add (rSl_mk f0_1)
    intro h102
    have S : St h none' [rowC h.n [a0_0, a0_1] 0, own (fz (rSl rTrans)) [a0_1] x0.Trans] h102 := S.pushRow [a0_0, a0_1]
    intro h104
    have S : St h none' [rowC h102.n [.nilSlice, .nilSlice] 0, rowC h.n [a0_0, a0_1] 0, own (fz (rSl rTrans)) [a0_1] x0.Trans] h104 := S.pushRow [.nilSlice, .nilSlice]
    intro h106
    have S : St h none' [rowC h104.n [.nilSlice, .nilSlice] 0, rowC h102.n [.nilSlice, .nilSlice] 0, rowC h.n [a0_0, a0_1] 0, own (fz (rSl rTrans)) [a0_1] x0.Trans] h106 := S.pushRow [.nilSlice, .nilSlice]
    obtain ⟨h108, e109, S⟩ := S.store (off := 0) (n := 2) (x := (.agg [.nilSlice, .nilSlice])) (cs' := [.nilSlice, .nilSlice]) (Nat.le_of_ble_eq_true rfl) rfl rfl rfl
    have S : St h none' [rowC h104.n [.nilSlice, .nilSlice] 0, rowC h102.n [.nilSlice, .nilSlice] 0, rowC h.n [a0_0, a0_1] 0, own (fz (rSl rTrans)) [a0_1] x0.Trans] h108 := S
    refine ⟨h108, e109, ?_⟩
    obtain ⟨res169, hL, hf⟩ := obind hf
    obtain ⟨n170, hL⟩ := loopC_iff.1 hL
    have S : St h none' [own (oSl (fz rPlace)) [.nilSlice] [], rowC h104.n [.nilSlice, .nilSlice] 0, rowC h102.n [.nilSlice, .nilSlice] 0, rowC h.n [a0_0, a0_1] 0, own (fz (rSl rTrans)) [a0_1] x0.Trans] h108 := S.addE (oSl_nil _ _)
    have S : St h none' [rowC h.n [a0_0, a0_1] 0, rowC h102.n [.nilSlice, .nilSlice] 0, rowC h104.n [.nilSlice, .nilSlice] 0, own (fz (rSl rTrans)) [a0_1] x0.Trans, own (oSl (fz rPlace)) [.nilSlice] []] h108 := S.sel [3, 2, 1, 4, 0] rfl
    refine loopm23_0 (X0 := fun (y162 : AV) (y163 : AV) (y164 : AV) (y165 : Int) (h166 : Heap) => ∃ (c167 : AV), ∃ (c168 : List TPlace), AV.ptr h.n 0 0 = y162 ∧ AV.ptr h102.n 0 0 = y163 ∧ AV.ptr h104.n 0 0 = y164 ∧ St h none' [rowC h.n [a0_0, a0_1] 0, rowC h102.n [.nilSlice, .nilSlice] 0, rowC h104.n [c167, .nilSlice] 0, own (fz (rSl rTrans)) [a0_1] x0.Trans, own (oSl (fz rPlace)) [c167] c168] h166 ∧ c168 = res169) ?_ (loop23_0 (I := fun (m172 : Nat) (y110 : AV) (y111 : AV) (y112 : AV) (y113 : Int) (h136 : Heap) => ∃ (c137 : AV), ∃ (c138 : List TPlace), AV.ptr h.n 0 0 = y110 ∧ AV.ptr h102.n 0 0 = y111 ∧ AV.ptr h104.n 0 0 = y112 ∧ St h none' [rowC h.n [a0_0, a0_1] 0, rowC h102.n [.nilSlice, .nilSlice] 0, rowC h104.n [c137, .nilSlice] 0, own (fz (rSl rTrans)) [a0_1] x0.Trans, own (oSl (fz rPlace)) [c137] c138] h136 ∧ iter (p23_l0 x0) m172 (y113, c138) = some res169) ?_ (m := n170) ?_)
    · rintro y162 y163 y164 y165 h166 ⟨c167, c168, rfl, rfl, rfl, S, rfl⟩
      try dsimp only at hf
      obtain ⟨res267, hL, hf⟩ := obind hf
      obtain ⟨n268, hL⟩ := loopC_iff.1 hL
      have S : St h none' [own (oSl (fz rTrans)) [.nilSlice] [], rowC h.n [a0_0, a0_1] 0, rowC h102.n [.nilSlice, .nilSlice] 0, rowC h104.n [c167, .nilSlice] 0, own (fz (rSl rTrans)) [a0_1] x0.Trans, own (oSl (fz rPlace)) [c167] c168] h166 := S.addE (oSl_nil _ _)
      have S : St h none' [rowC h.n [a0_0, a0_1] 0, rowC h102.n [.nilSlice, .nilSlice] 0, rowC h104.n [c167, .nilSlice] 0, own (fz (rSl rTrans)) [a0_1] x0.Trans, own (oSl (fz rPlace)) [c167] c168, own (oSl (fz rTrans)) [.nilSlice] []] h166 := S.sel [1, 2, 3, 4, 5, 0] rfl
      refine loopm23_1 (X2 := fun (y260 : AV) (y261 : AV) (y262 : AV) (y263 : Int) (h264 : Heap) => ∃ (c265 : AV), ∃ (c266 : List TTrans), AV.ptr h102.n 0 0 = y261 ∧ AV.ptr h104.n 0 0 = y262 ∧ St h none' [rowC h102.n [.nilSlice, .nilSlice] 0, rowC h104.n [c167, c265] 0, own (oSl (fz rPlace)) [c167] c168, own (oSl (fz rTrans)) [c265] c266] h264 ∧ c266 = res267) ?_ (loop23_1 (I := fun (m270 : Nat) (y194 : AV) (y195 : AV) (y196 : AV) (y197 : Int) (h227 : Heap) => ∃ (c228 : AV), ∃ (c229 : List TTrans), AV.ptr h.n 0 0 = y194 ∧ AV.ptr h102.n 0 0 = y195 ∧ AV.ptr h104.n 0 0 = y196 ∧ St h none' [rowC h.n [a0_0, a0_1] 0, rowC h102.n [.nilSlice, .nilSlice] 0, rowC h104.n [c167, c228] 0, own (fz (rSl rTrans)) [a0_1] x0.Trans, own (oSl (fz rPlace)) [c167] c168, own (oSl (fz rTrans)) [c228] c229] h227 ∧ iter (p23_l1 x0) m270 (y197, c229) = some res267) ?_ (m := n268) ?_)
      · rintro y260 y261 y262 y263 h264 ⟨c265, c266, rfl, rfl, S, rfl⟩
        try dsimp only at hf
        refine ⟨c167, c265, S.rdN (.tail _ (.head _)) (Nat.le_of_ble_eq_true rfl) rfl, ?_⟩
        obtain ⟨h299, e300, S⟩ := S.store (off := 0) (n := 2) (x := (.agg [c167, c265])) (cs' := [c167, c265]) (Nat.le_of_ble_eq_true rfl) rfl rfl rfl
        have S : St h none' [rowC h102.n [c167, c265] 0, rowC h104.n [c167, c265] 0, own (oSl (fz rPlace)) [c167] c168, own (oSl (fz rTrans)) [c265] c266] h299 := S
        refine ⟨h299, e300, ?_⟩
        refine ⟨c167, c265, S.rdN (.head _) (Nat.le_of_ble_eq_true rfl) rfl, ?_⟩
        obtain rfl := Option.some.inj hf
        exact ⟨c167, c265, rfl, S.sel [2, 3] rfl⟩
      · rintro m2700 y194 y195 y196 y197 h227 ⟨c228, c229, rfl, rfl, rfl, S, hit⟩
        obtain ⟨m270, q269, rfl, hf, hk⟩ := iter_some hit
        clear hit
        unfold B23_1
        unfold p23_l1 at hf
        try dsimp only at hf
        refine ifP_iff.2 ⟨rfl, ?_⟩
        refine ⟨a0_1, S.rd1 (.head _) rfl, ?_⟩
        refine ifP_iff.2 ⟨((S.slz (r := rTrans) (.tail _ (.tail _ (.tail _ (.head _)))))).is, ?_⟩
        try rw [((S.slz (r := rTrans) (.tail _ (.tail _ (.tail _ (.head _)))))).slen]
        refine bP_intro (fun hc => ?_) (fun hc => ?_)
        · rw [if_pos (show y197 < (x0.Trans.length : Int) from of_decide_eq_true hc)] at hf
          refine ifP_iff.2 ⟨rfl, ?_⟩
          refine ⟨a0_1, S.rd1 (.head _) rfl, ?_⟩
          obtain ⟨e271, he271, hf⟩ := obind hf
          obtain ⟨qe271, q0e271, q1e271⟩ := SlR.ix (S.slz (r := rTrans) (.tail _ (.tail _ (.tail _ (.head _))))) he271
          have pe271 := (SlR.idx (S.slz (r := rTrans) (.tail _ (.tail _ (.tail _ (.head _))))) (frz_snap _) he271).1
          refine ifP_iff.2 ⟨qe271, q0e271, (by first | exact q1e271 | exact (idx_lt he271).2), ?_⟩
          obtain ⟨_, cr272, Rr272, Nr272, Or272, Zr272⟩ := SlR.idx (S.slz (r := rTrans) (.tail _ (.tail _ (.tail _ (.head _))))) (frz_snap _) he271
          obtain ⟨cr272_3, cr272_4, cr272_5, rfl, Fr272_3, Fr272_4, Fr272_5⟩ := rTrans_open Rr272
          have S : St h none' [own (fz (rSl rArc)) [cr272_3] e271.In, rowC h.n [a0_0, a0_1] 0, rowC h102.n [.nilSlice, .nilSlice] 0, rowC h104.n [c167, c228] 0, own (fz (rSl rTrans)) [a0_1] x0.Trans, own (oSl (fz rPlace)) [c167] c168, own (oSl (fz rTrans)) [c228] c229] h227 := S.add (rSl_mk Fr272_3)
          have S : St h none' [own (fz (rSl rArc)) [cr272_4] e271.Not, own (fz (rSl rArc)) [cr272_3] e271.In, rowC h.n [a0_0, a0_1] 0, rowC h102.n [.nilSlice, .nilSlice] 0, rowC h104.n [c167, c228] 0, own (fz (rSl rTrans)) [a0_1] x0.Trans, own (oSl (fz rPlace)) [c167] c168, own (oSl (fz rTrans)) [c228] c229] h227 := S.add (rSl_mk Fr272_4)
          have S : St h none' [own (fz (rSl rArc)) [cr272_5] e271.Out, own (fz (rSl rArc)) [cr272_4] e271.Not, own (fz (rSl rArc)) [cr272_3] e271.In, rowC h.n [a0_0, a0_1] 0, rowC h102.n [.nilSlice, .nilSlice] 0, rowC h104.n [c167, c228] 0, own (fz (rSl rTrans)) [a0_1] x0.Trans, own (oSl (fz rPlace)) [c167] c168, own (oSl (fz rTrans)) [c228] c229] h227 := S.add (rSl_mk Fr272_5)
          refine ⟨(.str e271.Name), (.int .i64 e271.Delay), (.int .i64 e271.Prio), cr272_3, cr272_4, cr272_5, Nr272, ?_⟩
          intro h276
          have S : St h none' [rowC h227.n [(.str ([] : List UInt8)), (.int .i64 (0 : Int)), (.int .i64 (0 : Int)), .nilSlice, .nilSlice, .nilSlice] 0, own (fz (rSl rArc)) [cr272_5] e271.Out, own (fz (rSl rArc)) [cr272_4] e271.Not, own (fz (rSl rArc)) [cr272_3] e271.In, rowC h.n [a0_0, a0_1] 0, rowC h102.n [.nilSlice, .nilSlice] 0, rowC h104.n [c167, c228] 0, own (fz (rSl rTrans)) [a0_1] x0.Trans, own (oSl (fz rPlace)) [c167] c168, own (oSl (fz rTrans)) [c228] c229] h276 := S.pushRow [(.str ([] : List UInt8)), (.int .i64 (0 : Int)), (.int .i64 (0 : Int)), .nilSlice, .nilSlice, .nilSlice]
          obtain ⟨h278, e279, S⟩ := S.store (off := 0) (n := 6) (x := (.agg [(.str e271.Name), (.int .i64 e271.Delay), (.int .i64 e271.Prio), cr272_3, cr272_4, cr272_5])) (cs' := [(.str e271.Name), (.int .i64 e271.Delay), (.int .i64 e271.Prio), cr272_3, cr272_4, cr272_5]) (Nat.le_of_ble_eq_true rfl) rfl rfl rfl
          have S : St h none' [rowC h227.n [(.str e271.Name), (.int .i64 e271.Delay), (.int .i64 e271.Prio), cr272_3, cr272_4, cr272_5] 0, own (fz (rSl rArc)) [cr272_5] e271.Out, own (fz (rSl rArc)) [cr272_4] e271.Not, own (fz (rSl rArc)) [cr272_3] e271.In, rowC h.n [a0_0, a0_1] 0, rowC h102.n [.nilSlice, .nilSlice] 0, rowC h104.n [c167, c228] 0, own (fz (rSl rTrans)) [a0_1] x0.Trans, own (oSl (fz rPlace)) [c167] c168, own (oSl (fz rTrans)) [c228] c229] h278 := S
          refine ⟨h278, e279, ?_⟩
          intro h280
          have S : St h none' [rowC h278.n [(.int .u8 (IntKind.wrap .u8 (IntKind.wrap .i64 ((97 : Int) + (Int.tmod y197 (26 : Int)))))), (.int .u8 (IntKind.wrap .u8 (IntKind.wrap .i64 ((97 : Int) + (IntKind.wrap .i64 (Int.tdiv y197 (26 : Int)))))))] 0, rowC h227.n [(.str e271.Name), (.int .i64 e271.Delay), (.int .i64 e271.Prio), cr272_3, cr272_4, cr272_5] 0, own (fz (rSl rArc)) [cr272_5] e271.Out, own (fz (rSl rArc)) [cr272_4] e271.Not, own (fz (rSl rArc)) [cr272_3] e271.In, rowC h.n [a0_0, a0_1] 0, rowC h102.n [.nilSlice, .nilSlice] 0, rowC h104.n [c167, c228] 0, own (fz (rSl rTrans)) [a0_1] x0.Trans, own (oSl (fz rPlace)) [c167] c168, own (oSl (fz rTrans)) [c228] c229] h280 := S.pushRow [(.int .u8 (IntKind.wrap .u8 (IntKind.wrap .i64 ((97 : Int) + (Int.tmod y197 (26 : Int)))))), (.int .u8 (IntKind.wrap .u8 (IntKind.wrap .i64 ((97 : Int) + (IntKind.wrap .i64 (Int.tdiv y197 (26 : Int)))))))]
          have S : St h none' [own (oSl (fz (rI .u8))) [(.slice h278.n 0 0 2 1)] [(IntKind.wrap .u8 (IntKind.wrap .i64 ((97 : Int) + (Int.tmod y197 (26 : Int))))), (IntKind.wrap .u8 (IntKind.wrap .i64 ((97 : Int) + (IntKind.wrap .i64 (Int.tdiv y197 (26 : Int))))))], rowC h227.n [(.str e271.Name), (.int .i64 e271.Delay), (.int .i64 e271.Prio), cr272_3, cr272_4, cr272_5] 0, own (fz (rSl rArc)) [cr272_5] e271.Out, own (fz (rSl rArc)) [cr272_4] e271.Not, own (fz (rSl rArc)) [cr272_3] e271.In, rowC h.n [a0_0, a0_1] 0, rowC h102.n [.nilSlice, .nilSlice] 0, rowC h104.n [c167, c228] 0, own (fz (rSl rTrans)) [a0_1] x0.Trans, own (oSl (fz rPlace)) [c167] c168, own (oSl (fz rTrans)) [c228] c229] h280 := St.lit (r := (rI .u8)) (els := [[(.int .u8 (IntKind.wrap .u8 (IntKind.wrap .i64 ((97 : Int) + (Int.tmod y197 (26 : Int))))))], [(.int .u8 (IntKind.wrap .u8 (IntKind.wrap .i64 ((97 : Int) + (IntKind.wrap .i64 (Int.tdiv y197 (26 : Int)))))))]]) (l := [(IntKind.wrap .u8 (IntKind.wrap .i64 ((97 : Int) + (Int.tmod y197 (26 : Int))))), (IntKind.wrap .u8 (IntKind.wrap .i64 ((97 : Int) + (IntKind.wrap .i64 (Int.tdiv y197 (26 : Int))))))]) (n := 2) S rfl (.cons rfl (.cons rfl (.nil))) rfl
          refine ⟨_, bytes_ev (S.sl (r := (fz (rI .u8))) (.head _)), ([(IntKind.wrap .u8 (IntKind.wrap .i64 ((97 : Int) + (Int.tmod y197 (26 : Int))))), (IntKind.wrap .u8 (IntKind.wrap .i64 ((97 : Int) + (IntKind.wrap .i64 (Int.tdiv y197 (26 : Int))))))].map u8), rfl, ?_⟩
          obtain ⟨s282, hs282, hf⟩ := obind hf
          refine oP_intro (.str s282) (catS_ev hs282) ⟨s282, rfl, ?_⟩
          have S : St h none' [rowC h227.n [(.str e271.Name), (.int .i64 e271.Delay), (.int .i64 e271.Prio), cr272_3, cr272_4, cr272_5] 0, own (oSl (fz (rI .u8))) [(.slice h278.n 0 0 2 1)] [(IntKind.wrap .u8 (IntKind.wrap .i64 ((97 : Int) + (Int.tmod y197 (26 : Int))))), (IntKind.wrap .u8 (IntKind.wrap .i64 ((97 : Int) + (IntKind.wrap .i64 (Int.tdiv y197 (26 : Int))))))], own (fz (rSl rArc)) [cr272_5] e271.Out, own (fz (rSl rArc)) [cr272_4] e271.Not, own (fz (rSl rArc)) [cr272_3] e271.In, rowC h.n [a0_0, a0_1] 0, rowC h102.n [.nilSlice, .nilSlice] 0, rowC h104.n [c167, c228] 0, own (fz (rSl rTrans)) [a0_1] x0.Trans, own (oSl (fz rPlace)) [c167] c168, own (oSl (fz rTrans)) [c228] c229] h280 := S.sel [1, 0, 2, 3, 4, 5, 6, 7, 8, 9, 10] rfl
          obtain ⟨h283, e284, S⟩ := S.store (off := 0) (n := 1) (x := (.str s282)) (cs' := [(.str s282), (.int .i64 e271.Delay), (.int .i64 e271.Prio), cr272_3, cr272_4, cr272_5]) (Nat.le_of_ble_eq_true rfl) rfl rfl rfl
          have S : St h none' [rowC h227.n [(.str s282), (.int .i64 e271.Delay), (.int .i64 e271.Prio), cr272_3, cr272_4, cr272_5] 0, own (oSl (fz (rI .u8))) [(.slice h278.n 0 0 2 1)] [(IntKind.wrap .u8 (IntKind.wrap .i64 ((97 : Int) + (Int.tmod y197 (26 : Int))))), (IntKind.wrap .u8 (IntKind.wrap .i64 ((97 : Int) + (IntKind.wrap .i64 (Int.tdiv y197 (26 : Int))))))], own (fz (rSl rArc)) [cr272_5] e271.Out, own (fz (rSl rArc)) [cr272_4] e271.Not, own (fz (rSl rArc)) [cr272_3] e271.In, rowC h.n [a0_0, a0_1] 0, rowC h102.n [.nilSlice, .nilSlice] 0, rowC h104.n [c167, c228] 0, own (fz (rSl rTrans)) [a0_1] x0.Trans, own (oSl (fz rPlace)) [c167] c168, own (oSl (fz rTrans)) [c228] c229] h283 := S
          refine ⟨h283, e284, ?_⟩
          refine ifP_iff.2 ⟨rfl, ?_⟩
          refine ⟨c228, S.rd1 (.tail _ (.tail _ (.tail _ (.tail _ (.tail _ (.tail _ (.tail _ (.head _)))))))) rfl, ?_⟩
          refine ⟨(.str s282), (.int .i64 e271.Delay), (.int .i64 e271.Prio), cr272_3, cr272_4, cr272_5, S.rdN (.head _) (Nat.le_of_ble_eq_true rfl) rfl, ?_⟩
          intro h285
          have S : St h none' [rowC h283.n [(.str s282), (.int .i64 e271.Delay), (.int .i64 e271.Prio), cr272_3, cr272_4, cr272_5] 0, rowC h227.n [(.str s282), (.int .i64 e271.Delay), (.int .i64 e271.Prio), cr272_3, cr272_4, cr272_5] 0, own (oSl (fz (rI .u8))) [(.slice h278.n 0 0 2 1)] [(IntKind.wrap .u8 (IntKind.wrap .i64 ((97 : Int) + (Int.tmod y197 (26 : Int))))), (IntKind.wrap .u8 (IntKind.wrap .i64 ((97 : Int) + (IntKind.wrap .i64 (Int.tdiv y197 (26 : Int))))))], own (fz (rSl rArc)) [cr272_5] e271.Out, own (fz (rSl rArc)) [cr272_4] e271.Not, own (fz (rSl rArc)) [cr272_3] e271.In, rowC h.n [a0_0, a0_1] 0, rowC h102.n [.nilSlice, .nilSlice] 0, rowC h104.n [c167, c228] 0, own (fz (rSl rTrans)) [a0_1] x0.Trans, own (oSl (fz rPlace)) [c167] c168, own (oSl (fz rTrans)) [c228] c229] h285 := S.pushRow [(.str s282), (.int .i64 e271.Delay), (.int .i64 e271.Prio), cr272_3, cr272_4, cr272_5]
          obtain ⟨c293, hc293, hf⟩ := obind hf
          have S : St h none' [own (fz rTrans) [(.str s282), (.int .i64 e271.Delay), (.int .i64 e271.Prio), cr272_3, cr272_4, cr272_5] (TTrans.mk s282 e271.Delay e271.Prio e271.In e271.Not e271.Out), rowC h283.n [(.str s282), (.int .i64 e271.Delay), (.int .i64 e271.Prio), cr272_3, cr272_4, cr272_5] 0, rowC h227.n [(.str s282), (.int .i64 e271.Delay), (.int .i64 e271.Prio), cr272_3, cr272_4, cr272_5] 0, own (oSl (fz (rI .u8))) [(.slice h278.n 0 0 2 1)] [(IntKind.wrap .u8 (IntKind.wrap .i64 ((97 : Int) + (Int.tmod y197 (26 : Int))))), (IntKind.wrap .u8 (IntKind.wrap .i64 ((97 : Int) + (IntKind.wrap .i64 (Int.tdiv y197 (26 : Int))))))], own (fz (rSl rArc)) [cr272_5] e271.Out, own (fz (rSl rArc)) [cr272_4] e271.Not, own (fz (rSl rArc)) [cr272_3] e271.In, rowC h.n [a0_0, a0_1] 0, rowC h102.n [.nilSlice, .nilSlice] 0, rowC h104.n [c167, c228] 0, own (fz (rSl rTrans)) [a0_1] x0.Trans, own (oSl (fz rPlace)) [c167] c168, own (oSl (fz rTrans)) [c228] c229] h285 := S.add (r := rTrans) (x := (TTrans.mk s282 e271.Delay e271.Prio e271.In e271.Not e271.Out)) (rTrans_mk (x := (TTrans.mk s282 e271.Delay e271.Prio e271.In e271.Not e271.Out)) (S.slz (r := rArc) (.tail _ (.tail _ (.tail _ (.tail _ (.tail _ (.head _))))))) (S.slz (r := rArc) (.tail _ (.tail _ (.tail _ (.tail _ (.head _)))))) (S.slz (r := rArc) (.tail _ (.tail _ (.tail _ (.head _))))))
          have S : St h none' [own (oSl (fz rTrans)) [c228] c229, own (fz rTrans) [(.str s282), (.int .i64 e271.Delay), (.int .i64 e271.Prio), cr272_3, cr272_4, cr272_5] (TTrans.mk s282 e271.Delay e271.Prio e271.In e271.Not e271.Out), rowC h283.n [(.str s282), (.int .i64 e271.Delay), (.int .i64 e271.Prio), cr272_3, cr272_4, cr272_5] 0, rowC h227.n [(.str s282), (.int .i64 e271.Delay), (.int .i64 e271.Prio), cr272_3, cr272_4, cr272_5] 0, own (oSl (fz (rI .u8))) [(.slice h278.n 0 0 2 1)] [(IntKind.wrap .u8 (IntKind.wrap .i64 ((97 : Int) + (Int.tmod y197 (26 : Int))))), (IntKind.wrap .u8 (IntKind.wrap .i64 ((97 : Int) + (IntKind.wrap .i64 (Int.tdiv y197 (26 : Int))))))], own (fz (rSl rArc)) [cr272_5] e271.Out, own (fz (rSl rArc)) [cr272_4] e271.Not, own (fz (rSl rArc)) [cr272_3] e271.In, rowC h.n [a0_0, a0_1] 0, rowC h102.n [.nilSlice, .nilSlice] 0, rowC h104.n [c167, c228] 0, own (fz (rSl rTrans)) [a0_1] x0.Trans, own (oSl (fz rPlace)) [c167] c168] h285 := S.sel [12, 0, 1, 2, 3, 4, 5, 6, 7, 8, 9, 10, 11] rfl
          have mc293 := app_some hc293
          obtain ⟨v292, h291, e294, S⟩ := St.app1R (r := (fz rTrans)) (b := 104) S mc293.1
          have S : St h none' [own (oSl (fz rTrans)) [v292] c293, rowC h227.n [(.str s282), (.int .i64 e271.Delay), (.int .i64 e271.Prio), cr272_3, cr272_4, cr272_5] 0, own (oSl (fz (rI .u8))) [(.slice h278.n 0 0 2 1)] [(IntKind.wrap .u8 (IntKind.wrap .i64 ((97 : Int) + (Int.tmod y197 (26 : Int))))), (IntKind.wrap .u8 (IntKind.wrap .i64 ((97 : Int) + (IntKind.wrap .i64 (Int.tdiv y197 (26 : Int))))))], own (fz (rSl rArc)) [cr272_5] e271.Out, own (fz (rSl rArc)) [cr272_4] e271.Not, own (fz (rSl rArc)) [cr272_3] e271.In, rowC h.n [a0_0, a0_1] 0, rowC h102.n [.nilSlice, .nilSlice] 0, rowC h104.n [c167, c228] 0, own (fz (rSl rTrans)) [a0_1] x0.Trans, own (oSl (fz rPlace)) [c167] c168] h291 := S.cast (by rw [← mc293.2] <;> rfl)
          refine ⟨v292, h291, e294, ?_⟩
          refine ifP_iff.2 ⟨rfl, ?_⟩
          have S : St h none' [rowC h104.n [c167, c228] 0, own (oSl (fz rTrans)) [v292] c293, rowC h227.n [(.str s282), (.int .i64 e271.Delay), (.int .i64 e271.Prio), cr272_3, cr272_4, cr272_5] 0, own (oSl (fz (rI .u8))) [(.slice h278.n 0 0 2 1)] [(IntKind.wrap .u8 (IntKind.wrap .i64 ((97 : Int) + (Int.tmod y197 (26 : Int))))), (IntKind.wrap .u8 (IntKind.wrap .i64 ((97 : Int) + (IntKind.wrap .i64 (Int.tdiv y197 (26 : Int))))))], own (fz (rSl rArc)) [cr272_5] e271.Out, own (fz (rSl rArc)) [cr272_4] e271.Not, own (fz (rSl rArc)) [cr272_3] e271.In, rowC h.n [a0_0, a0_1] 0, rowC h102.n [.nilSlice, .nilSlice] 0, own (fz (rSl rTrans)) [a0_1] x0.Trans, own (oSl (fz rPlace)) [c167] c168] h291 := S.sel [8, 0, 1, 2, 3, 4, 5, 6, 7, 9, 10] rfl
          obtain ⟨h296, e297, S⟩ := S.storeS (off := 1) (x := v292) (cs' := [c167, v292]) (Nat.le_of_ble_eq_true rfl) ((S.sl (r := (fz rTrans)) (.tail _ (.head _)))).is rfl
          have S : St h none' [rowC h104.n [c167, v292] 0, own (oSl (fz rTrans)) [v292] c293, rowC h227.n [(.str s282), (.int .i64 e271.Delay), (.int .i64 e271.Prio), cr272_3, cr272_4, cr272_5] 0, own (oSl (fz (rI .u8))) [(.slice h278.n 0 0 2 1)] [(IntKind.wrap .u8 (IntKind.wrap .i64 ((97 : Int) + (Int.tmod y197 (26 : Int))))), (IntKind.wrap .u8 (IntKind.wrap .i64 ((97 : Int) + (IntKind.wrap .i64 (Int.tdiv y197 (26 : Int))))))], own (fz (rSl rArc)) [cr272_5] e271.Out, own (fz (rSl rArc)) [cr272_4] e271.Not, own (fz (rSl rArc)) [cr272_3] e271.In, rowC h.n [a0_0, a0_1] 0, rowC h102.n [.nilSlice, .nilSlice] 0, own (fz (rSl rTrans)) [a0_1] x0.Trans, own (oSl (fz rPlace)) [c167] c168] h296 := S
          refine ⟨h296, e297, ?_⟩
          have S : St h none' [rowC h.n [a0_0, a0_1] 0, rowC h102.n [.nilSlice, .nilSlice] 0, rowC h104.n [c167, v292] 0, own (fz (rSl rTrans)) [a0_1] x0.Trans, own (oSl (fz rPlace)) [c167] c168, own (oSl (fz rTrans)) [v292] c293] h296 := S.sel [7, 8, 0, 9, 10, 1] rfl
          obtain rfl := Option.some.inj hf
          exact ⟨m270, Nat.lt_succ_self _, v292, c293, rfl, rfl, rfl, S, hk⟩
        · rw [if_neg (show ¬ (y197 < (x0.Trans.length : Int)) from of_decide_eq_false hc)] at hf
          have S : St h none' [rowC h102.n [.nilSlice, .nilSlice] 0, rowC h104.n [c167, c228] 0, own (oSl (fz rPlace)) [c167] c168, own (oSl (fz rTrans)) [c228] c229] h227 := S.sel [1, 2, 4, 5] rfl
          obtain rfl := Option.some.inj hf
          obtain rfl := hk
          exact ⟨c228, c229, rfl, rfl, S, rfl⟩
      · exact ⟨.nilSlice, [], rfl, rfl, rfl, S, hL⟩
    · rintro m1720 y110 y111 y112 y113 h136 ⟨c137, c138, rfl, rfl, rfl, S, hit⟩
      obtain ⟨m172, q171, rfl, hf, hk⟩ := iter_some hit
      clear hit
      unfold B23_0
      unfold p23_l0 at hf
      try dsimp only at hf
      refine ifP_iff.2 ⟨rfl, ?_⟩
      refine ⟨a0_0, S.rd1 (.head _) rfl, ?_⟩
      refine ifP_iff.2 ⟨(f0_0).is, ?_⟩
      try rw [(f0_0).slen]
      refine bP_intro (fun hc => ?_) (fun hc => ?_)
      · rw [if_pos (show y113 < (x0.Places.length : Int) from of_decide_eq_true hc)] at hf
        refine ifP_iff.2 ⟨rfl, ?_⟩
        refine ⟨a0_0, S.rd1 (.head _) rfl, ?_⟩
        obtain ⟨e173, he173, hf⟩ := obind hf
        obtain ⟨qe173, q0e173, q1e173⟩ := SlR.ix f0_0 he173
        have pe173 := (SlR.idx f0_0 (snap_mono S.le) he173).1
        refine ifP_iff.2 ⟨qe173, q0e173, (by first | exact q1e173 | exact (idx_lt he173).2), ?_⟩
        obtain ⟨_, cr174, Rr174, Nr174, Or174, Zr174⟩ := SlR.idx f0_0 (snap_mono S.le) he173
        obtain rfl := rPlace_open Rr174
        refine ⟨(.str e173.Name), (.int .i64 e173.Tokens), Nr174, ?_⟩
        intro h175
        have S : St h none' [rowC h136.n [(.str ([] : List UInt8)), (.int .i64 (0 : Int))] 0, rowC h.n [a0_0, a0_1] 0, rowC h102.n [.nilSlice, .nilSlice] 0, rowC h104.n [c137, .nilSlice] 0, own (fz (rSl rTrans)) [a0_1] x0.Trans, own (oSl (fz rPlace)) [c137] c138] h175 := S.pushRow [(.str ([] : List UInt8)), (.int .i64 (0 : Int))]
        obtain ⟨h177, e178, S⟩ := S.store (off := 0) (n := 2) (x := (.agg [(.str e173.Name), (.int .i64 e173.Tokens)])) (cs' := [(.str e173.Name), (.int .i64 e173.Tokens)]) (Nat.le_of_ble_eq_true rfl) rfl rfl rfl
        have S : St h none' [rowC h136.n [(.str e173.Name), (.int .i64 e173.Tokens)] 0, rowC h.n [a0_0, a0_1] 0, rowC h102.n [.nilSlice, .nilSlice] 0, rowC h104.n [c137, .nilSlice] 0, own (fz (rSl rTrans)) [a0_1] x0.Trans, own (oSl (fz rPlace)) [c137] c138] h177 := S
        refine ⟨h177, e178, ?_⟩
        intro h179
        have S : St h none' [rowC h177.n [(.int .u8 (IntKind.wrap .u8 (IntKind.wrap .i64 ((97 : Int) + (Int.tmod y113 (26 : Int)))))), (.int .u8 (IntKind.wrap .u8 (IntKind.wrap .i64 ((97 : Int) + (IntKind.wrap .i64 (Int.tdiv y113 (26 : Int)))))))] 0, rowC h136.n [(.str e173.Name), (.int .i64 e173.Tokens)] 0, rowC h.n [a0_0, a0_1] 0, rowC h102.n [.nilSlice, .nilSlice] 0, rowC h104.n [c137, .nilSlice] 0, own (fz (rSl rTrans)) [a0_1] x0.Trans, own (oSl (fz rPlace)) [c137] c138] h179 := S.pushRow [(.int .u8 (IntKind.wrap .u8 (IntKind.wrap .i64 ((97 : Int) + (Int.tmod y113 (26 : Int)))))), (.int .u8 (IntKind.wrap .u8 (IntKind.wrap .i64 ((97 : Int) + (IntKind.wrap .i64 (Int.tdiv y113 (26 : Int)))))))]
        have S : St h none' [own (oSl (fz (rI .u8))) [(.slice h177.n 0 0 2 1)] [(IntKind.wrap .u8 (IntKind.wrap .i64 ((97 : Int) + (Int.tmod y113 (26 : Int))))), (IntKind.wrap .u8 (IntKind.wrap .i64 ((97 : Int) + (IntKind.wrap .i64 (Int.tdiv y113 (26 : Int))))))], rowC h136.n [(.str e173.Name), (.int .i64 e173.Tokens)] 0, rowC h.n [a0_0, a0_1] 0, rowC h102.n [.nilSlice, .nilSlice] 0, rowC h104.n [c137, .nilSlice] 0, own (fz (rSl rTrans)) [a0_1] x0.Trans, own (oSl (fz rPlace)) [c137] c138] h179 := St.lit (r := (rI .u8)) (els := [[(.int .u8 (IntKind.wrap .u8 (IntKind.wrap .i64 ((97 : Int) + (Int.tmod y113 (26 : Int))))))], [(.int .u8 (IntKind.wrap .u8 (IntKind.wrap .i64 ((97 : Int) + (IntKind.wrap .i64 (Int.tdiv y113 (26 : Int)))))))]]) (l := [(IntKind.wrap .u8 (IntKind.wrap .i64 ((97 : Int) + (Int.tmod y113 (26 : Int))))), (IntKind.wrap .u8 (IntKind.wrap .i64 ((97 : Int) + (IntKind.wrap .i64 (Int.tdiv y113 (26 : Int))))))]) (n := 2) S rfl (.cons rfl (.cons rfl (.nil))) rfl
        refine ⟨_, bytes_ev (S.sl (r := (fz (rI .u8))) (.head _)), ([(IntKind.wrap .u8 (IntKind.wrap .i64 ((97 : Int) + (Int.tmod y113 (26 : Int))))), (IntKind.wrap .u8 (IntKind.wrap .i64 ((97 : Int) + (IntKind.wrap .i64 (Int.tdiv y113 (26 : Int))))))].map u8), rfl, ?_⟩
        obtain ⟨s181, hs181, hf⟩ := obind hf
        refine oP_intro (.str s181) (catS_ev hs181) ⟨s181, rfl, ?_⟩
        have S : St h none' [rowC h136.n [(.str e173.Name), (.int .i64 e173.Tokens)] 0, own (oSl (fz (rI .u8))) [(.slice h177.n 0 0 2 1)] [(IntKind.wrap .u8 (IntKind.wrap .i64 ((97 : Int) + (Int.tmod y113 (26 : Int))))), (IntKind.wrap .u8 (IntKind.wrap .i64 ((97 : Int) + (IntKind.wrap .i64 (Int.tdiv y113 (26 : Int))))))], rowC h.n [a0_0, a0_1] 0, rowC h102.n [.nilSlice, .nilSlice] 0, rowC h104.n [c137, .nilSlice] 0, own (fz (rSl rTrans)) [a0_1] x0.Trans, own (oSl (fz rPlace)) [c137] c138] h179 := S.sel [1, 0, 2, 3, 4, 5, 6] rfl
        obtain ⟨h182, e183, S⟩ := S.store (off := 0) (n := 1) (x := (.str s181)) (cs' := [(.str s181), (.int .i64 e173.Tokens)]) (Nat.le_of_ble_eq_true rfl) rfl rfl rfl
        have S : St h none' [rowC h136.n [(.str s181), (.int .i64 e173.Tokens)] 0, own (oSl (fz (rI .u8))) [(.slice h177.n 0 0 2 1)] [(IntKind.wrap .u8 (IntKind.wrap .i64 ((97 : Int) + (Int.tmod y113 (26 : Int))))), (IntKind.wrap .u8 (IntKind.wrap .i64 ((97 : Int) + (IntKind.wrap .i64 (Int.tdiv y113 (26 : Int))))))], rowC h.n [a0_0, a0_1] 0, rowC h102.n [.nilSlice, .nilSlice] 0, rowC h104.n [c137, .nilSlice] 0, own (fz (rSl rTrans)) [a0_1] x0.Trans, own (oSl (fz rPlace)) [c137] c138] h182 := S
        refine ⟨h182, e183, ?_⟩
        refine ifP_iff.2 ⟨rfl, ?_⟩
        refine ⟨c137, S.rd1 (.tail _ (.tail _ (.tail _ (.tail _ (.head _))))) rfl, ?_⟩
        refine ⟨(.str s181), (.int .i64 e173.Tokens), S.rdN (.head _) (Nat.le_of_ble_eq_true rfl) rfl, ?_⟩
        intro h184
        have S : St h none' [rowC h182.n [(.str s181), (.int .i64 e173.Tokens)] 0, rowC h136.n [(.str s181), (.int .i64 e173.Tokens)] 0, own (oSl (fz (rI .u8))) [(.slice h177.n 0 0 2 1)] [(IntKind.wrap .u8 (IntKind.wrap .i64 ((97 : Int) + (Int.tmod y113 (26 : Int))))), (IntKind.wrap .u8 (IntKind.wrap .i64 ((97 : Int) + (IntKind.wrap .i64 (Int.tdiv y113 (26 : Int))))))], rowC h.n [a0_0, a0_1] 0, rowC h102.n [.nilSlice, .nilSlice] 0, rowC h104.n [c137, .nilSlice] 0, own (fz (rSl rTrans)) [a0_1] x0.Trans, own (oSl (fz rPlace)) [c137] c138] h184 := S.pushRow [(.str s181), (.int .i64 e173.Tokens)]
        obtain ⟨c188, hc188, hf⟩ := obind hf
        have S : St h none' [own (fz rPlace) [(.str s181), (.int .i64 e173.Tokens)] (TPlace.mk s181 e173.Tokens), rowC h182.n [(.str s181), (.int .i64 e173.Tokens)] 0, rowC h136.n [(.str s181), (.int .i64 e173.Tokens)] 0, own (oSl (fz (rI .u8))) [(.slice h177.n 0 0 2 1)] [(IntKind.wrap .u8 (IntKind.wrap .i64 ((97 : Int) + (Int.tmod y113 (26 : Int))))), (IntKind.wrap .u8 (IntKind.wrap .i64 ((97 : Int) + (IntKind.wrap .i64 (Int.tdiv y113 (26 : Int))))))], rowC h.n [a0_0, a0_1] 0, rowC h102.n [.nilSlice, .nilSlice] 0, rowC h104.n [c137, .nilSlice] 0, own (fz (rSl rTrans)) [a0_1] x0.Trans, own (oSl (fz rPlace)) [c137] c138] h184 := S.add (r := rPlace) (x := (TPlace.mk s181 e173.Tokens)) (rPlace_mk (x := (TPlace.mk s181 e173.Tokens)))
        have S : St h none' [own (oSl (fz rPlace)) [c137] c138, own (fz rPlace) [(.str s181), (.int .i64 e173.Tokens)] (TPlace.mk s181 e173.Tokens), rowC h182.n [(.str s181), (.int .i64 e173.Tokens)] 0, rowC h136.n [(.str s181), (.int .i64 e173.Tokens)] 0, own (oSl (fz (rI .u8))) [(.slice h177.n 0 0 2 1)] [(IntKind.wrap .u8 (IntKind.wrap .i64 ((97 : Int) + (Int.tmod y113 (26 : Int))))), (IntKind.wrap .u8 (IntKind.wrap .i64 ((97 : Int) + (IntKind.wrap .i64 (Int.tdiv y113 (26 : Int))))))], rowC h.n [a0_0, a0_1] 0, rowC h102.n [.nilSlice, .nilSlice] 0, rowC h104.n [c137, .nilSlice] 0, own (fz (rSl rTrans)) [a0_1] x0.Trans] h184 := S.sel [8, 0, 1, 2, 3, 4, 5, 6, 7] rfl
        have mc188 := app_some hc188
        obtain ⟨v187, h186, e189, S⟩ := St.app1R (r := (fz rPlace)) (b := 24) S mc188.1
        have S : St h none' [own (oSl (fz rPlace)) [v187] c188, rowC h136.n [(.str s181), (.int .i64 e173.Tokens)] 0, own (oSl (fz (rI .u8))) [(.slice h177.n 0 0 2 1)] [(IntKind.wrap .u8 (IntKind.wrap .i64 ((97 : Int) + (Int.tmod y113 (26 : Int))))), (IntKind.wrap .u8 (IntKind.wrap .i64 ((97 : Int) + (IntKind.wrap .i64 (Int.tdiv y113 (26 : Int))))))], rowC h.n [a0_0, a0_1] 0, rowC h102.n [.nilSlice, .nilSlice] 0, rowC h104.n [c137, .nilSlice] 0, own (fz (rSl rTrans)) [a0_1] x0.Trans] h186 := S.cast (by rw [← mc188.2] <;> rfl)
        refine ⟨v187, h186, e189, ?_⟩
        refine ifP_iff.2 ⟨rfl, ?_⟩
        have S : St h none' [rowC h104.n [c137, .nilSlice] 0, own (oSl (fz rPlace)) [v187] c188, rowC h136.n [(.str s181), (.int .i64 e173.Tokens)] 0, own (oSl (fz (rI .u8))) [(.slice h177.n 0 0 2 1)] [(IntKind.wrap .u8 (IntKind.wrap .i64 ((97 : Int) + (Int.tmod y113 (26 : Int))))), (IntKind.wrap .u8 (IntKind.wrap .i64 ((97 : Int) + (IntKind.wrap .i64 (Int.tdiv y113 (26 : Int))))))], rowC h.n [a0_0, a0_1] 0, rowC h102.n [.nilSlice, .nilSlice] 0, own (fz (rSl rTrans)) [a0_1] x0.Trans] h186 := S.sel [5, 0, 1, 2, 3, 4, 6] rfl
        obtain ⟨h191, e192, S⟩ := S.storeS (off := 0) (x := v187) (cs' := [v187, .nilSlice]) (Nat.le_of_ble_eq_true rfl) ((S.sl (r := (fz rPlace)) (.tail _ (.head _)))).is rfl
        have S : St h none' [rowC h104.n [v187, .nilSlice] 0, own (oSl (fz rPlace)) [v187] c188, rowC h136.n [(.str s181), (.int .i64 e173.Tokens)] 0, own (oSl (fz (rI .u8))) [(.slice h177.n 0 0 2 1)] [(IntKind.wrap .u8 (IntKind.wrap .i64 ((97 : Int) + (Int.tmod y113 (26 : Int))))), (IntKind.wrap .u8 (IntKind.wrap .i64 ((97 : Int) + (IntKind.wrap .i64 (Int.tdiv y113 (26 : Int))))))], rowC h.n [a0_0, a0_1] 0, rowC h102.n [.nilSlice, .nilSlice] 0, own (fz (rSl rTrans)) [a0_1] x0.Trans] h191 := S
        refine ⟨h191, e192, ?_⟩
        have S : St h none' [rowC h.n [a0_0, a0_1] 0, rowC h102.n [.nilSlice, .nilSlice] 0, rowC h104.n [v187, .nilSlice] 0, own (fz (rSl rTrans)) [a0_1] x0.Trans, own (oSl (fz rPlace)) [v187] c188] h191 := S.sel [4, 5, 0, 6, 1] rfl
        obtain rfl := Option.some.inj hf
        exact ⟨m172, Nat.lt_succ_self _, v187, c188, rfl, rfl, rfl, S, hk⟩
      · rw [if_neg (show ¬ (y113 < (x0.Places.length : Int)) from of_decide_eq_false hc)] at hf
        obtain rfl := Option.some.inj hf
        obtain rfl := hk
        exact ⟨c137, c138, rfl, rfl, rfl, S, rfl⟩
    · exact ⟨.nilSlice, [], rfl, rfl, rfl, S, hL⟩
  · obtain ⟨c0, c1, rfl, S⟩ := hq
    have Z0 := Fz.refl h'
    obtain ⟨h0, z0, S⟩ := St.freeze S
    have Z0 := Z0.trans z0
    have S := S.sel [1, 0] rfl
    obtain ⟨h1, z1, S⟩ := St.freeze S
    have Z0 := Z0.trans z1
    have S := S.sel [1, 0] rfl
    refine ⟨_, Z0, _, rfl, (S.add (r := rNet) (x := r) (rNet_mk (x := r) (S.slz (r := rPlace) (.head _)) (S.slz (r := rTrans) (.tail _ (.head _))))).sel [0] rfl⟩
/-! 15: marblerun/marblerunlaw15.awake -/
noncomputable def p15_j0 (b126 : Bool) : Option Bool := some b126
noncomputable def p15 : Option Bool := (p23 (TNet.mk [(TPlace.mk ([] : List UInt8) (0 : Int))] [(TTrans.mk ([] : List UInt8) (0 : Int) (0 : Int) [(TArc.mk (0 : Int) (1 : Int))] [] [(TArc.mk (0 : Int) (1 : Int))])])).bind fun y116 => (p20 y116).bind fun y122 => if (y122.length : Int) = (1 : Int) then ((idx y122 (0 : Int)).bind fun e130 => p15_j0 e130) else (p15_j0 false)
theorem r15 {h : Heap}  {r : Bool} (hf : p15  = some r) : ZCalls F 15 [] h fun v h' => v = .bool r ∧ St h none' [] h' := by
  refine w15 ?_
  unfold W15
  unfold p15 at hf
  have S : St h none' [] h := St.refl _ _
  intro h101
  have S : St h none' [rowC h.n [(.str ([] : List UInt8)), (.int .i64 (0 : Int))] 0] h101 := S.pushRow [(.str ([] : List UInt8)), (.int .i64 (0 : Int))]
  intro h103
  have S : St h none' [rowC h101.n [(.int .i64 (0 : Int)), (.int .i64 (1 : Int))] 0, rowC h.n [(.str ([] : List UInt8)), (.int .i64 (0 : Int))] 0] h103 := S.pushRow [(.int .i64 (0 : Int)), (.int .i64 (1 : Int))]
  intro h105
  have S : St h none' [rowC h103.n [(.int .i64 (0 : Int)), (.int .i64 (1 : Int))] 0, rowC h101.n [(.int .i64 (0 : Int)), (.int .i64 (1 : Int))] 0, rowC h.n [(.str ([] : List UInt8)), (.int .i64 (0 : Int))] 0] h105 := S.pushRow [(.int .i64 (0 : Int)), (.int .i64 (1 : Int))]
  intro h107
  have S : St h none' [rowC h105.n [(.str ([] : List UInt8)), (.int .i64 (0 : Int)), (.int .i64 (0 : Int)), (.slice h101.n 0 0 1 2), .nilSlice, (.slice h103.n 0 0 1 2)] 0, rowC h103.n [(.int .i64 (0 : Int)), (.int .i64 (1 : Int))] 0, rowC h101.n [(.int .i64 (0 : Int)), (.int .i64 (1 : Int))] 0, rowC h.n [(.str ([] : List UInt8)), (.int .i64 (0 : Int))] 0] h107 := S.pushRow [(.str ([] : List UInt8)), (.int .i64 (0 : Int)), (.int .i64 (0 : Int)), (.slice h101.n 0 0 1 2), .nilSlice, (.slice h103.n 0 0 1 2)]
  obtain ⟨y116, hy116, hf⟩ := obind hf
  have S : St h none' [rowC h.n [(.str ([] : List UInt8)), (.int .i64 (0 : Int))] 0, rowC h105.n [(.str ([] : List UInt8)), (.int .i64 (0 : Int)), (.int .i64 (0 : Int)), (.slice h101.n 0 0 1 2), .nilSlice, (.slice h103.n 0 0 1 2)] 0, rowC h103.n [(.int .i64 (0 : Int)), (.int .i64 (1 : Int))] 0, rowC h101.n [(.int .i64 (0 : Int)), (.int .i64 (1 : Int))] 0] h107 := S.sel [3, 0, 1, 2] rfl
  have S : St h none' [own (oSl (fz rPlace)) [(.slice h.n 0 0 1 2)] [(TPlace.mk ([] : List UInt8) (0 : Int))], rowC h105.n [(.str ([] : List UInt8)), (.int .i64 (0 : Int)), (.int .i64 (0 : Int)), (.slice h101.n 0 0 1 2), .nilSlice, (.slice h103.n 0 0 1 2)] 0, rowC h103.n [(.int .i64 (0 : Int)), (.int .i64 (1 : Int))] 0, rowC h101.n [(.int .i64 (0 : Int)), (.int .i64 (1 : Int))] 0] h107 := St.lit (r := rPlace) (els := [[(.str ([] : List UInt8)), (.int .i64 (0 : Int))]]) (l := [(TPlace.mk ([] : List UInt8) (0 : Int))]) (n := 1) S rfl (.cons (rPlace_mk (x := (TPlace.mk ([] : List UInt8) (0 : Int)))) (.nil)) rfl
  have S : St h none' [rowC h105.n [(.str ([] : List UInt8)), (.int .i64 (0 : Int)), (.int .i64 (0 : Int)), (.slice h101.n 0 0 1 2), .nilSlice, (.slice h103.n 0 0 1 2)] 0, own (oSl (fz rPlace)) [(.slice h.n 0 0 1 2)] [(TPlace.mk ([] : List UInt8) (0 : Int))], rowC h103.n [(.int .i64 (0 : Int)), (.int .i64 (1 : Int))] 0, rowC h101.n [(.int .i64 (0 : Int)), (.int .i64 (1 : Int))] 0] h107 := S.sel [1, 0, 2, 3] rfl
  have S := S.catNil oTrans
  have S : St h none' [catC oTrans [] [], rowC h105.n [(.str ([] : List UInt8)), (.int .i64 (0 : Int)), (.int .i64 (0 : Int)), (.slice h101.n 0 0 1 2), .nilSlice, (.slice h103.n 0 0 1 2)] 0, own (oSl (fz rPlace)) [(.slice h.n 0 0 1 2)] [(TPlace.mk ([] : List UInt8) (0 : Int))], rowC h103.n [(.int .i64 (0 : Int)), (.int .i64 (1 : Int))] 0, rowC h101.n [(.int .i64 (0 : Int)), (.int .i64 (1 : Int))] 0] h107 := S
  have S : St h none' [rowC h101.n [(.int .i64 (0 : Int)), (.int .i64 (1 : Int))] 0, catC oTrans [] [], rowC h105.n [(.str ([] : List UInt8)), (.int .i64 (0 : Int)), (.int .i64 (0 : Int)), (.slice h101.n 0 0 1 2), .nilSlice, (.slice h103.n 0 0 1 2)] 0, own (oSl (fz rPlace)) [(.slice h.n 0 0 1 2)] [(TPlace.mk ([] : List UInt8) (0 : Int))], rowC h103.n [(.int .i64 (0 : Int)), (.int .i64 (1 : Int))] 0] h107 := S.sel [4, 0, 1, 2, 3] rfl
  have S : St h none' [own (oSl (fz rArc)) [(.slice h101.n 0 0 1 2)] [(TArc.mk (0 : Int) (1 : Int))], catC oTrans [] [], rowC h105.n [(.str ([] : List UInt8)), (.int .i64 (0 : Int)), (.int .i64 (0 : Int)), (.slice h101.n 0 0 1 2), .nilSlice, (.slice h103.n 0 0 1 2)] 0, own (oSl (fz rPlace)) [(.slice h.n 0 0 1 2)] [(TPlace.mk ([] : List UInt8) (0 : Int))], rowC h103.n [(.int .i64 (0 : Int)), (.int .i64 (1 : Int))] 0] h107 := St.lit (r := rArc) (els := [[(.int .i64 (0 : Int)), (.int .i64 (1 : Int))]]) (l := [(TArc.mk (0 : Int) (1 : Int))]) (n := 1) S rfl (.cons (rArc_mk (x := (TArc.mk (0 : Int) (1 : Int)))) (.nil)) rfl
  have S : St h none' [rowC h103.n [(.int .i64 (0 : Int)), (.int .i64 (1 : Int))] 0, own (oSl (fz rArc)) [(.slice h101.n 0 0 1 2)] [(TArc.mk (0 : Int) (1 : Int))], catC oTrans [] [], rowC h105.n [(.str ([] : List UInt8)), (.int .i64 (0 : Int)), (.int .i64 (0 : Int)), (.slice h101.n 0 0 1 2), .nilSlice, (.slice h103.n 0 0 1 2)] 0, own (oSl (fz rPlace)) [(.slice h.n 0 0 1 2)] [(TPlace.mk ([] : List UInt8) (0 : Int))]] h107 := S.sel [4, 0, 1, 2, 3] rfl
  have S : St h none' [own (oSl (fz rArc)) [(.slice h103.n 0 0 1 2)] [(TArc.mk (0 : Int) (1 : Int))], own (oSl (fz rArc)) [(.slice h101.n 0 0 1 2)] [(TArc.mk (0 : Int) (1 : Int))], catC oTrans [] [], rowC h105.n [(.str ([] : List UInt8)), (.int .i64 (0 : Int)), (.int .i64 (0 : Int)), (.slice h101.n 0 0 1 2), .nilSlice, (.slice h103.n 0 0 1 2)] 0, own (oSl (fz rPlace)) [(.slice h.n 0 0 1 2)] [(TPlace.mk ([] : List UInt8) (0 : Int))]] h107 := St.lit (r := rArc) (els := [[(.int .i64 (0 : Int)), (.int .i64 (1 : Int))]]) (l := [(TArc.mk (0 : Int) (1 : Int))]) (n := 1) S rfl (.cons (rArc_mk (x := (TArc.mk (0 : Int) (1 : Int)))) (.nil)) rfl
  have S : St h none' [own (oSl (fz rArc)) [.nilSlice] [], own (oSl (fz rArc)) [(.slice h103.n 0 0 1 2)] [(TArc.mk (0 : Int) (1 : Int))], own (oSl (fz rArc)) [(.slice h101.n 0 0 1 2)] [(TArc.mk (0 : Int) (1 : Int))], catC oTrans [] [], rowC h105.n [(.str ([] : List UInt8)), (.int .i64 (0 : Int)), (.int .i64 (0 : Int)), (.slice h101.n 0 0 1 2), .nilSlice, (.slice h103.n 0 0 1 2)] 0, own (oSl (fz rPlace)) [(.slice h.n 0 0 1 2)] [(TPlace.mk ([] : List UInt8) (0 : Int))]] h107 := S.addE (oSl_nil _ _)
  have S : St h none' [own (oSl (fz rArc)) [(.slice h101.n 0 0 1 2)] [(TArc.mk (0 : Int) (1 : Int))], own (oSl (fz rArc)) [.nilSlice] [], own (oSl (fz rArc)) [(.slice h103.n 0 0 1 2)] [(TArc.mk (0 : Int) (1 : Int))], catC oTrans [] [], rowC h105.n [(.str ([] : List UInt8)), (.int .i64 (0 : Int)), (.int .i64 (0 : Int)), (.slice h101.n 0 0 1 2), .nilSlice, (.slice h103.n 0 0 1 2)] 0, own (oSl (fz rPlace)) [(.slice h.n 0 0 1 2)] [(TPlace.mk ([] : List UInt8) (0 : Int))]] h107 := S.sel [2, 0, 1, 3, 4, 5] rfl
  have S : St h none' [own oTrans [(.str ([] : List UInt8)), (.int .i64 (0 : Int)), (.int .i64 (0 : Int)), (.slice h101.n 0 0 1 2), .nilSlice, (.slice h103.n 0 0 1 2)] (TTrans.mk ([] : List UInt8) (0 : Int) (0 : Int) [(TArc.mk (0 : Int) (1 : Int))] [] [(TArc.mk (0 : Int) (1 : Int))]), catC oTrans [] [], rowC h105.n [(.str ([] : List UInt8)), (.int .i64 (0 : Int)), (.int .i64 (0 : Int)), (.slice h101.n 0 0 1 2), .nilSlice, (.slice h103.n 0 0 1 2)] 0, own (oSl (fz rPlace)) [(.slice h.n 0 0 1 2)] [(TPlace.mk ([] : List UInt8) (0 : Int))]] h107 := oTrans_close (x := (TTrans.mk ([] : List UInt8) (0 : Int) (0 : Int) [(TArc.mk (0 : Int) (1 : Int))] [] [(TArc.mk (0 : Int) (1 : Int))])) S
  have S : St h none' [catC oTrans [(.str ([] : List UInt8)), (.int .i64 (0 : Int)), (.int .i64 (0 : Int)), (.slice h101.n 0 0 1 2), .nilSlice, (.slice h103.n 0 0 1 2)] [(TTrans.mk ([] : List UInt8) (0 : Int) (0 : Int) [(TArc.mk (0 : Int) (1 : Int))] [] [(TArc.mk (0 : Int) (1 : Int))])], rowC h105.n [(.str ([] : List UInt8)), (.int .i64 (0 : Int)), (.int .i64 (0 : Int)), (.slice h101.n 0 0 1 2), .nilSlice, (.slice h103.n 0 0 1 2)] 0, own (oSl (fz rPlace)) [(.slice h.n 0 0 1 2)] [(TPlace.mk ([] : List UInt8) (0 : Int))]] h107 := S.catCons
  have S : St h none' [rowC h105.n [(.str ([] : List UInt8)), (.int .i64 (0 : Int)), (.int .i64 (0 : Int)), (.slice h101.n 0 0 1 2), .nilSlice, (.slice h103.n 0 0 1 2)] 0, catC oTrans [(.str ([] : List UInt8)), (.int .i64 (0 : Int)), (.int .i64 (0 : Int)), (.slice h101.n 0 0 1 2), .nilSlice, (.slice h103.n 0 0 1 2)] [(TTrans.mk ([] : List UInt8) (0 : Int) (0 : Int) [(TArc.mk (0 : Int) (1 : Int))] [] [(TArc.mk (0 : Int) (1 : Int))])], own (oSl (fz rPlace)) [(.slice h.n 0 0 1 2)] [(TPlace.mk ([] : List UInt8) (0 : Int))]] h107 := S.sel [1, 0, 2] rfl
  have S : St h none' [own (oSl oTrans) [(.slice h105.n 0 0 1 6)] [(TTrans.mk ([] : List UInt8) (0 : Int) (0 : Int) [(TArc.mk (0 : Int) (1 : Int))] [] [(TArc.mk (0 : Int) (1 : Int))])], own (oSl (fz rPlace)) [(.slice h.n 0 0 1 2)] [(TPlace.mk ([] : List UInt8) (0 : Int))]] h107 := S.litO (n := 1) rfl
  obtain ⟨h113, z112, S⟩ := St.freeze S
  have S : St h none' [own (fz (rSl rTrans)) [(.slice h105.n 0 0 1 6)] [(TTrans.mk ([] : List UInt8) (0 : Int) (0 : Int) [(TArc.mk (0 : Int) (1 : Int))] [] [(TArc.mk (0 : Int) (1 : Int))])], own (oSl (fz rPlace)) [(.slice h.n 0 0 1 2)] [(TPlace.mk ([] : List UInt8) (0 : Int))]] h113 := S
  refine ⟨_, z112, ?_⟩
  refine (r23 (x0 := (TNet.mk [(TPlace.mk ([] : List UInt8) (0 : Int))] [(TTrans.mk ([] : List UInt8) (0 : Int) (0 : Int) [(TArc.mk (0 : Int) (1 : Int))] [] [(TArc.mk (0 : Int) (1 : Int))])])) (f0_0 := (S.sl (r := (fz rPlace)) (.tail _ (.head _)))) (f0_1 := S.slz (r := rTrans) (.head _)) hy116).mono fun v114 h115 T => ?_
  obtain ⟨c117, rfl, T⟩ := T
  have S := S.comp T
  obtain ⟨ay116_0, ay116_1, rfl, Fay116_0, Fay116_1⟩ := rNet_open (S.fzr (.head _))
  have S := S.drop
  have S : St h none' [own (fz (rSl rPlace)) [ay116_0] y116.Places, own (fz (rSl rTrans)) [(.slice h105.n 0 0 1 6)] [(TTrans.mk ([] : List UInt8) (0 : Int) (0 : Int) [(TArc.mk (0 : Int) (1 : Int))] [] [(TArc.mk (0 : Int) (1 : Int))])], own (oSl (fz rPlace)) [(.slice h.n 0 0 1 2)] [(TPlace.mk ([] : List UInt8) (0 : Int))]] h115 := S.add (rSl_mk Fay116_0)
  have S : St h none' [own (fz (rSl rTrans)) [ay116_1] y116.Trans, own (fz (rSl rPlace)) [ay116_0] y116.Places, own (fz (rSl rTrans)) [(.slice h105.n 0 0 1 6)] [(TTrans.mk ([] : List UInt8) (0 : Int) (0 : Int) [(TArc.mk (0 : Int) (1 : Int))] [] [(TArc.mk (0 : Int) (1 : Int))])], own (oSl (fz rPlace)) [(.slice h.n 0 0 1 2)] [(TPlace.mk ([] : List UInt8) (0 : Int))]] h115 := S.add (rSl_mk Fay116_1)
  obtain ⟨y122, hy122, hf⟩ := obind hf
  refine ⟨_, Fz.refl _, ?_⟩
  refine (r20 (n0 := y116) (f0_0 := (SlR.mono (frz_snap _) (S.slz (r := rPlace) (.tail _ (.head _))))) (f0_1 := (SlR.mono (frz_snap _) (S.slz (r := rTrans) (.head _)))) hy122).mono fun v120 h121 T => ?_
  have S : St h none' [own (oSl (fz rB)) [v120] y122, own (fz (rSl rTrans)) [ay116_1] y116.Trans, own (fz (rSl rPlace)) [ay116_0] y116.Places, own (fz (rSl rTrans)) [(.slice h105.n 0 0 1 6)] [(TTrans.mk ([] : List UInt8) (0 : Int) (0 : Int) [(TArc.mk (0 : Int) (1 : Int))] [] [(TArc.mk (0 : Int) (1 : Int))])], own (oSl (fz rPlace)) [(.slice h.n 0 0 1 2)] [(TPlace.mk ([] : List UInt8) (0 : Int))]] h121 := S.comp T
  refine ifP_iff.2 ⟨((S.sl (r := (fz rB)) (.head _))).is, ?_⟩
  try rw [((S.sl (r := (fz rB)) (.head _))).slen]
  intro jjj0
  have hjj0 : ∀ (b126 : Bool) (h127 : Heap), p15_j0 b126 = some r → h121 = h127 → St h none' [] h121 → jjj0 b126 h127 := by
    rintro b126 h127 hf rfl S
    unfold p15_j0 at hf
    unfold jjj0
    obtain rfl := Option.some.inj hf
    exact ⟨rfl, S.sel [] rfl⟩
  refine bP_intro (fun hc => ?_) (fun hc => ?_)
  · rw [if_pos (show (y122.length : Int) = (1 : Int) from of_decide_eq_true hc)] at hf
    obtain ⟨e130, he130, hf⟩ := obind hf
    obtain ⟨qe130, q0e130, q1e130⟩ := SlR.ix (S.sl (r := (fz rB)) (.head _)) he130
    have pe130 := (SlR.idx (S.sl (r := (fz rB)) (.head _)) (Hp.le_refl _) he130).1
    refine ifP_iff.2 ⟨qe130, q0e130, (by first | exact q1e130 | exact (idx_lt he130).2), ?_⟩
    obtain ⟨_, cr131, Rr131, Nr131, Or131, Zr131⟩ := St.idxO (r := rB) S (.head _) he130
    obtain rfl : cr131 = [(.bool e130)] := Rr131
    refine ⟨e130, Zr131 _ rfl, ?_⟩
    have S : St h none' [] h121 := S.sel [] rfl
    exact hjj0 _ _  hf rfl S
  · rw [if_neg (show ¬ ((y122.length : Int) = (1 : Int)) from of_decide_eq_false hc)] at hf
    have S : St h none' [] h121 := S.sel [] rfl
    exact hjj0 _ _  hf rfl S
/-! 6: marblerun/marblerunlaw15.LoopsTail -/
noncomputable def p6_l0 (x0 : Int) (x1 : Int) (x2 : Int) (st : Int × (List TPlace)) : Option ((Int × (List TPlace)) ⊕ (List TPlace)) := match st with | (y108, c122) => if y108 ≤ (IntKind.wrap .i64 ((IntKind.wrap .i64 ((IntKind.wrap .i64 (Int.tmod x0 (8 : Int))) + (IntKind.wrap .i64 ((1 : Int) + (IntKind.wrap .i64 (Int.tmod x1 (8 : Int))))))) + (IntKind.wrap .i64 (Int.tmod x2 (8 : Int))))) then ((app 24 c122 [(TPlace.mk ([] : List UInt8) (0 : Int))]).bind fun c152 => some (.inl ((IntKind.wrap .i64 (y108 + (1 : Int))), c152))) else (some (.inr c122))
noncomputable def p6_l1 (x0 : Int) (x1 : Int) (x2 : Int) (st : Int × (List TTrans)) : Option ((Int × (List TTrans)) ⊕ (List TTrans)) := match st with | (y163, c182) => if y163 < (IntKind.wrap .i64 ((IntKind.wrap .i64 ((IntKind.wrap .i64 (Int.tmod x0 (8 : Int))) + (IntKind.wrap .i64 ((1 : Int) + (IntKind.wrap .i64 (Int.tmod x1 (8 : Int))))))) + (IntKind.wrap .i64 (Int.tmod x2 (8 : Int))))) then ((app 104 c182 [(TTrans.mk ([] : List UInt8) (0 : Int) (0 : Int) [(TArc.mk y163 (1 : Int))] [] [(TArc.mk (IntKind.wrap .i64 (y163 + (1 : Int))) (1 : Int))])]).bind fun c221 => some (.inl ((IntKind.wrap .i64 (y163 + (1 : Int))), c221))) else (some (.inr c182))
noncomputable def p6_j0 (y262 : Int) (b327 : Bool) : Option (Int ⊕ (Unit ⊕ Unit)) := if b327 = true then (some (.inr (.inl ()))) else (some (.inl (IntKind.wrap .i64 (y262 + (1 : Int)))))
noncomputable def p6_j1 (y262 : Int) (e335 : Bool) (b337 : Bool) : Option (Int ⊕ (Unit ⊕ Unit)) := p6_j0 y262 (!(e335 == b337))
noncomputable def p6_l2 (x0 : Int) (x1 : Int) (c208 : List TTrans) (e228 : TTrans) (e239 : List TArc) (y255 : List Bool) (y262 : Int) : Option (Int ⊕ (Unit ⊕ Unit)) := if y262 < ((c208.set ((IntKind.wrap .i64 ((IntKind.wrap .i64 ((IntKind.wrap .i64 (Int.tmod x0 (8 : Int))) + (IntKind.wrap .i64 ((1 : Int) + (IntKind.wrap .i64 (Int.tmod x1 (8 : Int))))))) - (1 : Int))) : Int).toNat (TTrans.mk e228.Name e228.Delay e228.Prio e228.In e228.Not e239)).length : Int) then (if (!decide ((y255.length : Int) = ((c208.set ((IntKind.wrap .i64 ((IntKind.wrap .i64 ((IntKind.wrap .i64 (Int.tmod x0 (8 : Int))) + (IntKind.wrap .i64 ((1 : Int) + (IntKind.wrap .i64 (Int.tmod x1 (8 : Int))))))) - (1 : Int))) : Int).toNat (TTrans.mk e228.Name e228.Delay e228.Prio e228.In e228.Not e239)).length : Int))) = true then (p6_j0 y262 true) else ((idx y255 y262).bind fun e335 => if (IntKind.wrap .i64 (Int.tmod x0 (8 : Int))) ≤ y262 then (p6_j1 y262 e335 (decide (y262 < (IntKind.wrap .i64 ((IntKind.wrap .i64 (Int.tmod x0 (8 : Int))) + (IntKind.wrap .i64 ((1 : Int) + (IntKind.wrap .i64 (Int.tmod x1 (8 : Int)))))))))) else (p6_j1 y262 e335 false))) else (some (.inr (.inr ())))
noncomputable def p6 (x0 : Int) (x1 : Int) (x2 : Int) : Option Bool := (loopC (p6_l0 x0 x1 x2) ((0 : Int), [])).bind fun res144 => ((fun (c143 : List TPlace) => (loopC (p6_l1 x0 x1 x2) ((0 : Int), [])).bind fun res209 => ((fun (c208 : List TTrans) => (idx c208 (IntKind.wrap .i64 ((IntKind.wrap .i64 ((IntKind.wrap .i64 (Int.tmod x0 (8 : Int))) + (IntKind.wrap .i64 ((1 : Int) + (IntKind.wrap .i64 (Int.tmod x1 (8 : Int))))))) - (1 : Int)))).bind fun e228 => (app 16 e228.Out [(TArc.mk (IntKind.wrap .i64 (Int.tmod x0 (8 : Int))) (1 : Int))]).bind fun e239 => (p23 (TNet.mk c143 (c208.set ((IntKind.wrap .i64 ((IntKind.wrap .i64 ((IntKind.wrap .i64 (Int.tmod x0 (8 : Int))) + (IntKind.wrap .i64 ((1 : Int) + (IntKind.wrap .i64 (Int.tmod x1 (8 : Int))))))) - (1 : Int))) : Int).toNat (TTrans.mk e228.Name e228.Delay e228.Prio e228.In e228.Not e239)))).bind fun y249 => (p20 y249).bind fun y255 => (loopC (p6_l2 x0 x1 c208 e228 e239 y255) (0 : Int)).bind fun res311 => (match res311 with | .inl _ => some false | .inr _ => (p15 ).bind fun y349 => some y349)) res209)) res144)
theorem r6 {h : Heap}  {x0 : Int} {x1 : Int} {x2 : Int} {r : Bool} (hf : p6 x0 x1 x2 = some r) : ZCalls F 6 [(.int .u8 x0), (.int .u8 x1), (.int .u8 x2)] h fun v h' => v = .bool r ∧ St h none' [] h' := by
  refine w6 ?_
  unfold W6
  unfold p6 at hf
  have S : St h none' [] h := St.refl _ _
  intro h101
  have S : St h none' [rowC h.n [.nilSlice, .nilSlice] 0] h101 := S.pushRow [.nilSlice, .nilSlice]
  obtain ⟨res144, hL, hf⟩ := obind hf
  obtain ⟨n145, hL⟩ := loopC_iff.1 hL
  have S : St h none' [own (oSl (fz rPlace)) [.nilSlice] [], rowC h.n [.nilSlice, .nilSlice] 0] h101 := S.addE (oSl_nil _ _)
  have S : St h none' [rowC h.n [.nilSlice, .nilSlice] 0, own (oSl (fz rPlace)) [.nilSlice] []] h101 := S.sel [1, 0] rfl
  refine loopm6_0 (X0 := fun (y135 : Bool) (y136 : Int) (y137 : Int) (y138 : Int) (y139 : AV) (y140 : Int) (h141 : Heap) => ∃ (c142 : AV), ∃ (c143 : List TPlace), false = y135 ∧ (IntKind.wrap .i64 (Int.tmod x0 (8 : Int))) = y136 ∧ (IntKind.wrap .i64 ((1 : Int) + (IntKind.wrap .i64 (Int.tmod x1 (8 : Int))))) = y137 ∧ (IntKind.wrap .i64 (Int.tmod x2 (8 : Int))) = y138 ∧ AV.ptr h.n 0 0 = y139 ∧ St h none' [rowC h.n [c142, .nilSlice] 0, own (oSl (fz rPlace)) [c142] c143] h141 ∧ c143 = res144) ?_ (loop6_0 (I := fun (m147 : Nat) (y103 : Bool) (y104 : Int) (y105 : Int) (y106 : Int) (y107 : AV) (y108 : Int) (h120 : Heap) => ∃ (c121 : AV), ∃ (c122 : List TPlace), false = y103 ∧ (IntKind.wrap .i64 (Int.tmod x0 (8 : Int))) = y104 ∧ (IntKind.wrap .i64 ((1 : Int) + (IntKind.wrap .i64 (Int.tmod x1 (8 : Int))))) = y105 ∧ (IntKind.wrap .i64 (Int.tmod x2 (8 : Int))) = y106 ∧ AV.ptr h.n 0 0 = y107 ∧ St h none' [rowC h.n [c121, .nilSlice] 0, own (oSl (fz rPlace)) [c121] c122] h120 ∧ iter (p6_l0 x0 x1 x2) m147 (y108, c122) = some res144) ?_ (m := n145) ?_)
  · rintro y135 y136 y137 y138 y139 y140 h141 ⟨c142, c143, rfl, rfl, rfl, rfl, rfl, S, rfl⟩
    try dsimp only at hf
    obtain ⟨res209, hL, hf⟩ := obind hf
    obtain ⟨n210, hL⟩ := loopC_iff.1 hL
    have S : St h none' [own (oSl oTrans) [.nilSlice] [], rowC h.n [c142, .nilSlice] 0, own (oSl (fz rPlace)) [c142] c143] h141 := S.addE (oSl_nil _ _)
    have S : St h none' [rowC h.n [c142, .nilSlice] 0, own (oSl (fz rPlace)) [c142] c143, own (oSl oTrans) [.nilSlice] []] h141 := S.sel [1, 2, 0] rfl
    refine loopm6_1 (X2 := fun (y200 : Bool) (y201 : Int) (y202 : Int) (y203 : Int) (y204 : AV) (y205 : Int) (h206 : Heap) => ∃ (c207 : AV), ∃ (c208 : List TTrans), false = y200 ∧ (IntKind.wrap .i64 (Int.tmod x0 (8 : Int))) = y201 ∧ (IntKind.wrap .i64 ((1 : Int) + (IntKind.wrap .i64 (Int.tmod x1 (8 : Int))))) = y202 ∧ AV.ptr h.n 0 0 = y204 ∧ St h none' [rowC h.n [c142, c207] 0, own (oSl (fz rPlace)) [c142] c143, own (oSl oTrans) [c207] c208] h206 ∧ c208 = res209) ?_ (loop6_1 (I := fun (m212 : Nat) (y158 : Bool) (y159 : Int) (y160 : Int) (y161 : Int) (y162 : AV) (y163 : Int) (h180 : Heap) => ∃ (c181 : AV), ∃ (c182 : List TTrans), false = y158 ∧ (IntKind.wrap .i64 (Int.tmod x0 (8 : Int))) = y159 ∧ (IntKind.wrap .i64 ((1 : Int) + (IntKind.wrap .i64 (Int.tmod x1 (8 : Int))))) = y160 ∧ (IntKind.wrap .i64 (Int.tmod x2 (8 : Int))) = y161 ∧ AV.ptr h.n 0 0 = y162 ∧ St h none' [rowC h.n [c142, c181] 0, own (oSl (fz rPlace)) [c142] c143, own (oSl oTrans) [c181] c182] h180 ∧ iter (p6_l1 x0 x1 x2) m212 (y163, c182) = some res209) ?_ (m := n210) ?_)
    · rintro y200 y201 y202 y203 y204 y205 h206 ⟨c207, c208, rfl, rfl, rfl, rfl, S, rfl⟩
      try dsimp only at hf
      refine ifP_iff.2 ⟨rfl, ?_⟩
      refine ⟨c207, S.rd1 (.head _) rfl, ?_⟩
      obtain ⟨e228, he228, hf⟩ := obind hf
      obtain ⟨qe228, q0e228, q1e228⟩ := SlR.ix (S.sl (r := oTrans) (.tail _ (.tail _ (.head _)))) he228
      have pe228 := (SlR.idx (S.sl (r := oTrans) (.tail _ (.tail _ (.head _)))) (Hp.le_refl _) he228).1
      refine ifP_iff.2 ⟨qe228, q0e228, (by first | exact q1e228 | exact (idx_lt he228).2), ?_⟩
      refine oP_intro _ (nil_ev pe228) ?_
      refine ifP_iff.2 ⟨pe228, ?_⟩
      have S : St h none' [own (oSl oTrans) [c207] c208, rowC h.n [c142, c207] 0, own (oSl (fz rPlace)) [c142] c143] h206 := S.sel [2, 0, 1] rfl
      obtain ⟨cc230, lc230, S⟩ := St.out S he228
      obtain ⟨c230_3, c230_4, c230_5, eS, S2⟩ := oTrans_open S
      subst eS
      have S := S2
      have S : St h none' [own (oSl (fz rArc)) [c230_3] e228.In, own (oSl (fz rArc)) [c230_4] e228.Not, own (oSl (fz rArc)) [c230_5] e228.Out, hole oTrans c207 c208 ((IntKind.wrap .i64 ((IntKind.wrap .i64 ((IntKind.wrap .i64 (Int.tmod x0 (8 : Int))) + (IntKind.wrap .i64 ((1 : Int) + (IntKind.wrap .i64 (Int.tmod x1 (8 : Int))))))) - (1 : Int))) : Int).toNat [(.str e228.Name), (.int .i64 e228.Delay), (.int .i64 e228.Prio), c230_3, c230_4, c230_5], rowC h.n [c142, c207] 0, own (oSl (fz rPlace)) [c142] c143] h206 := S
      refine ⟨c230_5, (S.hrd (.tail _ (.tail _ (.tail _ (.head _))))).2.2.2.2.1 5 _ rfl, ?_⟩
      intro h235
      have S : St h none' [rowC h206.n [(.int .i64 (IntKind.wrap .i64 (Int.tmod x0 (8 : Int)))), (.int .i64 (1 : Int))] 0, own (oSl (fz rArc)) [c230_3] e228.In, own (oSl (fz rArc)) [c230_4] e228.Not, own (oSl (fz rArc)) [c230_5] e228.Out, hole oTrans c207 c208 ((IntKind.wrap .i64 ((IntKind.wrap .i64 ((IntKind.wrap .i64 (Int.tmod x0 (8 : Int))) + (IntKind.wrap .i64 ((1 : Int) + (IntKind.wrap .i64 (Int.tmod x1 (8 : Int))))))) - (1 : Int))) : Int).toNat [(.str e228.Name), (.int .i64 e228.Delay), (.int .i64 e228.Prio), c230_3, c230_4, c230_5], rowC h.n [c142, c207] 0, own (oSl (fz rPlace)) [c142] c143] h235 := S.pushRow [(.int .i64 (IntKind.wrap .i64 (Int.tmod x0 (8 : Int)))), (.int .i64 (1 : Int))]
      obtain ⟨e239, he239, hf⟩ := obind hf
      have S : St h none' [own (fz rArc) [(.int .i64 (IntKind.wrap .i64 (Int.tmod x0 (8 : Int)))), (.int .i64 (1 : Int))] (TArc.mk (IntKind.wrap .i64 (Int.tmod x0 (8 : Int))) (1 : Int)), rowC h206.n [(.int .i64 (IntKind.wrap .i64 (Int.tmod x0 (8 : Int)))), (.int .i64 (1 : Int))] 0, own (oSl (fz rArc)) [c230_3] e228.In, own (oSl (fz rArc)) [c230_4] e228.Not, own (oSl (fz rArc)) [c230_5] e228.Out, hole oTrans c207 c208 ((IntKind.wrap .i64 ((IntKind.wrap .i64 ((IntKind.wrap .i64 (Int.tmod x0 (8 : Int))) + (IntKind.wrap .i64 ((1 : Int) + (IntKind.wrap .i64 (Int.tmod x1 (8 : Int))))))) - (1 : Int))) : Int).toNat [(.str e228.Name), (.int .i64 e228.Delay), (.int .i64 e228.Prio), c230_3, c230_4, c230_5], rowC h.n [c142, c207] 0, own (oSl (fz rPlace)) [c142] c143] h235 := S.add (r := rArc) (x := (TArc.mk (IntKind.wrap .i64 (Int.tmod x0 (8 : Int))) (1 : Int))) (rArc_mk (x := (TArc.mk (IntKind.wrap .i64 (Int.tmod x0 (8 : Int))) (1 : Int))))
      have S : St h none' [own (oSl (fz rArc)) [c230_5] e228.Out, own (fz rArc) [(.int .i64 (IntKind.wrap .i64 (Int.tmod x0 (8 : Int)))), (.int .i64 (1 : Int))] (TArc.mk (IntKind.wrap .i64 (Int.tmod x0 (8 : Int))) (1 : Int)), rowC h206.n [(.int .i64 (IntKind.wrap .i64 (Int.tmod x0 (8 : Int)))), (.int .i64 (1 : Int))] 0, own (oSl (fz rArc)) [c230_3] e228.In, own (oSl (fz rArc)) [c230_4] e228.Not, hole oTrans c207 c208 ((IntKind.wrap .i64 ((IntKind.wrap .i64 ((IntKind.wrap .i64 (Int.tmod x0 (8 : Int))) + (IntKind.wrap .i64 ((1 : Int) + (IntKind.wrap .i64 (Int.tmod x1 (8 : Int))))))) - (1 : Int))) : Int).toNat [(.str e228.Name), (.int .i64 e228.Delay), (.int .i64 e228.Prio), c230_3, c230_4, c230_5], rowC h.n [c142, c207] 0, own (oSl (fz rPlace)) [c142] c143] h235 := S.sel [4, 0, 1, 2, 3, 5, 6, 7] rfl
      have me239 := app_some he239
      obtain ⟨v238, h237, e240, S⟩ := St.app1R (r := (fz rArc)) (b := 16) S me239.1
      have S : St h none' [own (oSl (fz rArc)) [v238] e239, own (oSl (fz rArc)) [c230_3] e228.In, own (oSl (fz rArc)) [c230_4] e228.Not, hole oTrans c207 c208 ((IntKind.wrap .i64 ((IntKind.wrap .i64 ((IntKind.wrap .i64 (Int.tmod x0 (8 : Int))) + (IntKind.wrap .i64 ((1 : Int) + (IntKind.wrap .i64 (Int.tmod x1 (8 : Int))))))) - (1 : Int))) : Int).toNat [(.str e228.Name), (.int .i64 e228.Delay), (.int .i64 e228.Prio), c230_3, c230_4, c230_5], rowC h.n [c142, c207] 0, own (oSl (fz rPlace)) [c142] c143] h237 := S.cast (by rw [← me239.2] <;> rfl)
      refine ⟨v238, h237, e240, ?_⟩
      refine oP_intro _ (nil_ev pe228) ?_
      refine ifP_iff.2 ⟨pe228, ?_⟩
      have S : St h none' [hole oTrans c207 c208 ((IntKind.wrap .i64 ((IntKind.wrap .i64 ((IntKind.wrap .i64 (Int.tmod x0 (8 : Int))) + (IntKind.wrap .i64 ((1 : Int) + (IntKind.wrap .i64 (Int.tmod x1 (8 : Int))))))) - (1 : Int))) : Int).toNat [(.str e228.Name), (.int .i64 e228.Delay), (.int .i64 e228.Prio), c230_3, c230_4, c230_5], own (oSl (fz rArc)) [v238] e239, own (oSl (fz rArc)) [c230_3] e228.In, own (oSl (fz rArc)) [c230_4] e228.Not, rowC h.n [c142, c207] 0, own (oSl (fz rPlace)) [c142] c143] h237 := S.sel [3, 0, 1, 2, 4, 5] rfl
      obtain ⟨h242, e243, S⟩ := S.hset (k := 5) (n := 1) (y := v238) (c' := [(.str e228.Name), (.int .i64 e228.Delay), (.int .i64 e228.Prio), c230_3, c230_4, v238]) (by rw [sl_cells ((S.sl (r := (fz rArc)) (.tail _ (.head _)))).is]; rfl) (sl_tup ((S.sl (r := (fz rArc)) (.tail _ (.head _)))).is) (Nat.le_of_ble_eq_true rfl) (by rw [sl_cells ((S.sl (r := (fz rArc)) (.tail _ (.head _)))).is]; rfl)
      have S : St h none' [hole oTrans c207 c208 ((IntKind.wrap .i64 ((IntKind.wrap .i64 ((IntKind.wrap .i64 (Int.tmod x0 (8 : Int))) + (IntKind.wrap .i64 ((1 : Int) + (IntKind.wrap .i64 (Int.tmod x1 (8 : Int))))))) - (1 : Int))) : Int).toNat [(.str e228.Name), (.int .i64 e228.Delay), (.int .i64 e228.Prio), c230_3, c230_4, v238], own (oSl (fz rArc)) [v238] e239, own (oSl (fz rArc)) [c230_3] e228.In, own (oSl (fz rArc)) [c230_4] e228.Not, rowC h.n [c142, c207] 0, own (oSl (fz rPlace)) [c142] c143] h242 := S
      refine ⟨h242, e243, ?_⟩
      have S : St h none' [own (oSl (fz rArc)) [c230_3] e228.In, own (oSl (fz rArc)) [c230_4] e228.Not, own (oSl (fz rArc)) [v238] e239, hole oTrans c207 c208 ((IntKind.wrap .i64 ((IntKind.wrap .i64 ((IntKind.wrap .i64 (Int.tmod x0 (8 : Int))) + (IntKind.wrap .i64 ((1 : Int) + (IntKind.wrap .i64 (Int.tmod x1 (8 : Int))))))) - (1 : Int))) : Int).toNat [(.str e228.Name), (.int .i64 e228.Delay), (.int .i64 e228.Prio), c230_3, c230_4, v238], rowC h.n [c142, c207] 0, own (oSl (fz rPlace)) [c142] c143] h242 := S.sel [2, 3, 1, 0, 4, 5] rfl
      have S : St h none' [own oTrans [(.str e228.Name), (.int .i64 e228.Delay), (.int .i64 e228.Prio), c230_3, c230_4, v238] (TTrans.mk e228.Name e228.Delay e228.Prio e228.In e228.Not e239), hole oTrans c207 c208 ((IntKind.wrap .i64 ((IntKind.wrap .i64 ((IntKind.wrap .i64 (Int.tmod x0 (8 : Int))) + (IntKind.wrap .i64 ((1 : Int) + (IntKind.wrap .i64 (Int.tmod x1 (8 : Int))))))) - (1 : Int))) : Int).toNat [(.str e228.Name), (.int .i64 e228.Delay), (.int .i64 e228.Prio), c230_3, c230_4, v238], rowC h.n [c142, c207] 0, own (oSl (fz rPlace)) [c142] c143] h242 := oTrans_close (x := (TTrans.mk e228.Name e228.Delay e228.Prio e228.In e228.Not e239)) S
      have S : St h none' [own (oSl oTrans) [c207] (c208.set ((IntKind.wrap .i64 ((IntKind.wrap .i64 ((IntKind.wrap .i64 (Int.tmod x0 (8 : Int))) + (IntKind.wrap .i64 ((1 : Int) + (IntKind.wrap .i64 (Int.tmod x1 (8 : Int))))))) - (1 : Int))) : Int).toNat (TTrans.mk e228.Name e228.Delay e228.Prio e228.In e228.Not e239)), rowC h.n [c142, c207] 0, own (oSl (fz rPlace)) [c142] c143] h242 := S.back
      refine ⟨c142, c207, S.rdN (.tail _ (.head _)) (Nat.le_of_ble_eq_true rfl) rfl, ?_⟩
      obtain ⟨y249, hy249, hf⟩ := obind hf
      obtain ⟨h246, z245, S⟩ := St.freeze S
      have S : St h none' [own (fz (rSl rTrans)) [c207] (c208.set ((IntKind.wrap .i64 ((IntKind.wrap .i64 ((IntKind.wrap .i64 (Int.tmod x0 (8 : Int))) + (IntKind.wrap .i64 ((1 : Int) + (IntKind.wrap .i64 (Int.tmod x1 (8 : Int))))))) - (1 : Int))) : Int).toNat (TTrans.mk e228.Name e228.Delay e228.Prio e228.In e228.Not e239)), rowC h.n [c142, c207] 0, own (oSl (fz rPlace)) [c142] c143] h246 := S
      refine ⟨_, z245, ?_⟩
      refine (r23 (x0 := (TNet.mk c143 (c208.set ((IntKind.wrap .i64 ((IntKind.wrap .i64 ((IntKind.wrap .i64 (Int.tmod x0 (8 : Int))) + (IntKind.wrap .i64 ((1 : Int) + (IntKind.wrap .i64 (Int.tmod x1 (8 : Int))))))) - (1 : Int))) : Int).toNat (TTrans.mk e228.Name e228.Delay e228.Prio e228.In e228.Not e239)))) (f0_0 := (S.sl (r := (fz rPlace)) (.tail _ (.tail _ (.head _))))) (f0_1 := S.slz (r := rTrans) (.head _)) hy249).mono fun v247 h248 T => ?_
      obtain ⟨c250, rfl, T⟩ := T
      have S := S.comp T
      obtain ⟨ay249_0, ay249_1, rfl, Fay249_0, Fay249_1⟩ := rNet_open (S.fzr (.head _))
      have S := S.drop
      have S : St h none' [own (fz (rSl rPlace)) [ay249_0] y249.Places, own (fz (rSl rTrans)) [c207] (c208.set ((IntKind.wrap .i64 ((IntKind.wrap .i64 ((IntKind.wrap .i64 (Int.tmod x0 (8 : Int))) + (IntKind.wrap .i64 ((1 : Int) + (IntKind.wrap .i64 (Int.tmod x1 (8 : Int))))))) - (1 : Int))) : Int).toNat (TTrans.mk e228.Name e228.Delay e228.Prio e228.In e228.Not e239)), rowC h.n [c142, c207] 0, own (oSl (fz rPlace)) [c142] c143] h248 := S.add (rSl_mk Fay249_0)
      have S : St h none' [own (fz (rSl rTrans)) [ay249_1] y249.Trans, own (fz (rSl rPlace)) [ay249_0] y249.Places, own (fz (rSl rTrans)) [c207] (c208.set ((IntKind.wrap .i64 ((IntKind.wrap .i64 ((IntKind.wrap .i64 (Int.tmod x0 (8 : Int))) + (IntKind.wrap .i64 ((1 : Int) + (IntKind.wrap .i64 (Int.tmod x1 (8 : Int))))))) - (1 : Int))) : Int).toNat (TTrans.mk e228.Name e228.Delay e228.Prio e228.In e228.Not e239)), rowC h.n [c142, c207] 0, own (oSl (fz rPlace)) [c142] c143] h248 := S.add (rSl_mk Fay249_1)
      obtain ⟨y255, hy255, hf⟩ := obind hf
      refine ⟨_, Fz.refl _, ?_⟩
      refine (r20 (n0 := y249) (f0_0 := (SlR.mono (frz_snap _) (S.slz (r := rPlace) (.tail _ (.head _))))) (f0_1 := (SlR.mono (frz_snap _) (S.slz (r := rTrans) (.head _)))) hy255).mono fun v253 h254 T => ?_
      have S : St h none' [own (oSl (fz rB)) [v253] y255, own (fz (rSl rTrans)) [ay249_1] y249.Trans, own (fz (rSl rPlace)) [ay249_0] y249.Places, own (fz (rSl rTrans)) [c207] (c208.set ((IntKind.wrap .i64 ((IntKind.wrap .i64 ((IntKind.wrap .i64 (Int.tmod x0 (8 : Int))) + (IntKind.wrap .i64 ((1 : Int) + (IntKind.wrap .i64 (Int.tmod x1 (8 : Int))))))) - (1 : Int))) : Int).toNat (TTrans.mk e228.Name e228.Delay e228.Prio e228.In e228.Not e239)), rowC h.n [c142, c207] 0, own (oSl (fz rPlace)) [c142] c143] h254 := S.comp T
      obtain ⟨res311, hL, hf⟩ := obind hf
      obtain ⟨n312, hL⟩ := loopC_iff.1 hL
      have S : St h none' [rowC h.n [c142, c207] 0, own (oSl (fz rB)) [v253] y255, own (oSl (fz rPlace)) [c142] c143, own (fz (rSl rTrans)) [c207] (c208.set ((IntKind.wrap .i64 ((IntKind.wrap .i64 ((IntKind.wrap .i64 (Int.tmod x0 (8 : Int))) + (IntKind.wrap .i64 ((1 : Int) + (IntKind.wrap .i64 (Int.tmod x1 (8 : Int))))))) - (1 : Int))) : Int).toNat (TTrans.mk e228.Name e228.Delay e228.Prio e228.In e228.Not e239))] h254 := S.sel [4, 0, 5, 3] rfl
      refine loopm6_2 (R := fun (y297 : Bool) (y298 : Int) (y299 : Int) (y300 : AV) (y301 : AV) (y302 : Int) (h303 : Heap) => false = y297 ∧ St h none' [] h303 ∧ (.inl ()) = res311) (X4 := fun (y304 : Bool) (y305 : Int) (y306 : Int) (y307 : AV) (y308 : AV) (y309 : Int) (h310 : Heap) => St h none' [] h310 ∧ (.inr ()) = res311) ?_ ?_ (loop6_2 (I := fun (m314 : Nat) (y257 : Bool) (y258 : Int) (y259 : Int) (y260 : AV) (y261 : AV) (y262 : Int) (h263 : Heap) => (IntKind.wrap .i64 (Int.tmod x0 (8 : Int))) = y258 ∧ (IntKind.wrap .i64 ((1 : Int) + (IntKind.wrap .i64 (Int.tmod x1 (8 : Int))))) = y259 ∧ AV.ptr h.n 0 0 = y260 ∧ v253 = y261 ∧ St h none' [rowC h.n [c142, c207] 0, own (oSl (fz rB)) [v253] y255, own (oSl (fz rPlace)) [c142] c143, own (fz (rSl rTrans)) [c207] (c208.set ((IntKind.wrap .i64 ((IntKind.wrap .i64 ((IntKind.wrap .i64 (Int.tmod x0 (8 : Int))) + (IntKind.wrap .i64 ((1 : Int) + (IntKind.wrap .i64 (Int.tmod x1 (8 : Int))))))) - (1 : Int))) : Int).toNat (TTrans.mk e228.Name e228.Delay e228.Prio e228.In e228.Not e239))] h263 ∧ iter (p6_l2 x0 x1 c208 e228 e239 y255) m314 y262 = some res311) ?_ (m := n312) ?_)
      · rintro y297 y298 y299 y300 y301 y302 h303 ⟨rfl, S, rfl⟩
        try dsimp only at hf
        obtain rfl := Option.some.inj hf
        exact ⟨rfl, S.sel [] rfl⟩
      · rintro y304 y305 y306 y307 y308 y309 h310 ⟨S, rfl⟩
        try dsimp only at hf
        obtain ⟨y349, hy349, hf⟩ := obind hf
        refine ⟨_, Fz.refl _, ?_⟩
        refine (r15  hy349).mono fun v347 h348 T => ?_
        obtain ⟨rfl, T⟩ := T
        have S : St h none' [] h348 := S.comp T
        refine ⟨y349, rfl, ?_⟩
        obtain rfl := Option.some.inj hf
        exact ⟨rfl, S.sel [] rfl⟩
      · rintro m3140 y257 y258 y259 y260 y261 y262 h263 ⟨rfl, rfl, rfl, rfl, S, hit⟩
        obtain ⟨m314, q313, rfl, hf, hk⟩ := iter_some hit
        clear hit
        unfold B6_2
        unfold p6_l2 at hf
        try dsimp only at hf
        refine ifP_iff.2 ⟨rfl, ?_⟩
        refine ⟨c207, S.rd1 (.head _) rfl, ?_⟩
        refine ifP_iff.2 ⟨((S.slz (r := rTrans) (.tail _ (.tail _ (.tail _ (.head _)))))).is, ?_⟩
        try rw [((S.slz (r := rTrans) (.tail _ (.tail _ (.tail _ (.head _)))))).slen]
        refine bP_intro (fun hc => ?_) (fun hc => ?_)
        · rw [if_pos (show y262 < ((c208.set ((IntKind.wrap .i64 ((IntKind.wrap .i64 ((IntKind.wrap .i64 (Int.tmod x0 (8 : Int))) + (IntKind.wrap .i64 ((1 : Int) + (IntKind.wrap .i64 (Int.tmod x1 (8 : Int))))))) - (1 : Int))) : Int).toNat (TTrans.mk e228.Name e228.Delay e228.Prio e228.In e228.Not e239)).length : Int) from of_decide_eq_true hc)] at hf
          refine ifP_iff.2 ⟨((S.sl (r := (fz rB)) (.tail _ (.head _)))).is, ?_⟩
          try rw [((S.sl (r := (fz rB)) (.tail _ (.head _)))).slen]
          refine ifP_iff.2 ⟨rfl, ?_⟩
          refine ⟨c207, S.rd1 (.head _) rfl, ?_⟩
          refine ifP_iff.2 ⟨((S.slz (r := rTrans) (.tail _ (.tail _ (.tail _ (.head _)))))).is, ?_⟩
          try rw [((S.slz (r := rTrans) (.tail _ (.tail _ (.tail _ (.head _)))))).slen]
          intro jjj0
          have hjj0 : ∀ (b327 : Bool) (h328 : Heap), p6_j0 y262 b327 = some q313 → h263 = h328 → St h none' [rowC h.n [c142, c207] 0, own (oSl (fz rB)) [v253] y255, own (oSl (fz rPlace)) [c142] c143, own (fz (rSl rTrans)) [c207] (c208.set ((IntKind.wrap .i64 ((IntKind.wrap .i64 ((IntKind.wrap .i64 (Int.tmod x0 (8 : Int))) + (IntKind.wrap .i64 ((1 : Int) + (IntKind.wrap .i64 (Int.tmod x1 (8 : Int))))))) - (1 : Int))) : Int).toNat (TTrans.mk e228.Name e228.Delay e228.Prio e228.In e228.Not e239))] h263 → jjj0 b327 h328 := by
            rintro b327 h328 hf rfl S
            unfold p6_j0 at hf
            unfold jjj0
            refine bP_intro (fun hc => ?_) (fun hc => ?_)
            · rw [if_pos (show b327 = true from hc)] at hf
              have S : St h none' [] h263 := S.sel [] rfl
              obtain rfl := Option.some.inj hf
              obtain rfl := hk
              exact ⟨rfl, S, rfl⟩
            · rw [if_neg (show ¬ (b327 = true) from by rw [show b327 = false from hc]; exact Bool.false_ne_true)] at hf
              obtain rfl := Option.some.inj hf
              exact ⟨m314, Nat.lt_succ_self _, rfl, rfl, rfl, rfl, S, hk⟩
          refine bP_intro (fun hc => ?_) (fun hc => ?_)
          · rw [if_pos (show (!decide ((y255.length : Int) = ((c208.set ((IntKind.wrap .i64 ((IntKind.wrap .i64 ((IntKind.wrap .i64 (Int.tmod x0 (8 : Int))) + (IntKind.wrap .i64 ((1 : Int) + (IntKind.wrap .i64 (Int.tmod x1 (8 : Int))))))) - (1 : Int))) : Int).toNat (TTrans.mk e228.Name e228.Delay e228.Prio e228.In e228.Not e239)).length : Int))) = true from hc)] at hf
            exact hjj0 _ _  hf rfl S
          · rw [if_neg (show ¬ ((!decide ((y255.length : Int) = ((c208.set ((IntKind.wrap .i64 ((IntKind.wrap .i64 ((IntKind.wrap .i64 (Int.tmod x0 (8 : Int))) + (IntKind.wrap .i64 ((1 : Int) + (IntKind.wrap .i64 (Int.tmod x1 (8 : Int))))))) - (1 : Int))) : Int).toNat (TTrans.mk e228.Name e228.Delay e228.Prio e228.In e228.Not e239)).length : Int))) = true) from by rw [show (!decide ((y255.length : Int) = ((c208.set ((IntKind.wrap .i64 ((IntKind.wrap .i64 ((IntKind.wrap .i64 (Int.tmod x0 (8 : Int))) + (IntKind.wrap .i64 ((1 : Int) + (IntKind.wrap .i64 (Int.tmod x1 (8 : Int))))))) - (1 : Int))) : Int).toNat (TTrans.mk e228.Name e228.Delay e228.Prio e228.In e228.Not e239)).length : Int))) = false from hc]; exact Bool.false_ne_true)] at hf
            obtain ⟨e335, he335, hf⟩ := obind hf
            obtain ⟨qe335, q0e335, q1e335⟩ := SlR.ix (S.sl (r := (fz rB)) (.tail _ (.head _))) he335
            have pe335 := (SlR.idx (S.sl (r := (fz rB)) (.tail _ (.head _))) (Hp.le_refl _) he335).1
            refine ifP_iff.2 ⟨qe335, q0e335, (by first | exact q1e335 | exact (idx_lt he335).2), ?_⟩
            obtain ⟨_, cr336, Rr336, Nr336, Or336, Zr336⟩ := St.idxO (r := rB) S (.tail _ (.head _)) he335
            obtain rfl : cr336 = [(.bool e335)] := Rr336
            refine ⟨e335, Zr336 _ rfl, ?_⟩
            intro jjj1
            have hjj1 : ∀ (b337 : Bool) (h338 : Heap), p6_j1 y262 e335 b337 = some q313 → h263 = h338 → St h none' [rowC h.n [c142, c207] 0, own (oSl (fz rB)) [v253] y255, own (oSl (fz rPlace)) [c142] c143, own (fz (rSl rTrans)) [c207] (c208.set ((IntKind.wrap .i64 ((IntKind.wrap .i64 ((IntKind.wrap .i64 (Int.tmod x0 (8 : Int))) + (IntKind.wrap .i64 ((1 : Int) + (IntKind.wrap .i64 (Int.tmod x1 (8 : Int))))))) - (1 : Int))) : Int).toNat (TTrans.mk e228.Name e228.Delay e228.Prio e228.In e228.Not e239))] h263 → jjj1 b337 h338 := by
              rintro b337 h338 hf rfl S
              unfold p6_j1 at hf
              unfold jjj1
              exact hjj0 _ _  hf rfl S
            refine bP_intro (fun hc => ?_) (fun hc => ?_)
            · rw [if_pos (show (IntKind.wrap .i64 (Int.tmod x0 (8 : Int))) ≤ y262 from of_decide_eq_true hc)] at hf
              exact hjj1 _ _  hf rfl S
            · rw [if_neg (show ¬ ((IntKind.wrap .i64 (Int.tmod x0 (8 : Int))) ≤ y262) from of_decide_eq_false hc)] at hf
              exact hjj1 _ _  hf rfl S
        · rw [if_neg (show ¬ (y262 < ((c208.set ((IntKind.wrap .i64 ((IntKind.wrap .i64 ((IntKind.wrap .i64 (Int.tmod x0 (8 : Int))) + (IntKind.wrap .i64 ((1 : Int) + (IntKind.wrap .i64 (Int.tmod x1 (8 : Int))))))) - (1 : Int))) : Int).toNat (TTrans.mk e228.Name e228.Delay e228.Prio e228.In e228.Not e239)).length : Int)) from of_decide_eq_false hc)] at hf
          have S : St h none' [] h263 := S.sel [] rfl
          obtain rfl := Option.some.inj hf
          obtain rfl := hk
          exact ⟨S, rfl⟩
      · exact ⟨rfl, rfl, rfl, rfl, S, hL⟩
    · rintro m2120 y158 y159 y160 y161 y162 y163 h180 ⟨c181, c182, rfl, rfl, rfl, rfl, rfl, S, hit⟩
      obtain ⟨m212, q211, rfl, hf, hk⟩ := iter_some hit
      clear hit
      unfold B6_1
      unfold p6_l1 at hf
      try dsimp only at hf
      refine bP_intro (fun hc => ?_) (fun hc => ?_)
      · rw [if_pos (show y163 < (IntKind.wrap .i64 ((IntKind.wrap .i64 ((IntKind.wrap .i64 (Int.tmod x0 (8 : Int))) + (IntKind.wrap .i64 ((1 : Int) + (IntKind.wrap .i64 (Int.tmod x1 (8 : Int))))))) + (IntKind.wrap .i64 (Int.tmod x2 (8 : Int))))) from of_decide_eq_true hc)] at hf
        refine ifP_iff.2 ⟨rfl, ?_⟩
        refine ⟨c181, S.rd1 (.head _) rfl, ?_⟩
        intro h213
        have S : St h none' [rowC h180.n [(.int .i64 y163), (.int .i64 (1 : Int))] 0, rowC h.n [c142, c181] 0, own (oSl (fz rPlace)) [c142] c143, own (oSl oTrans) [c181] c182] h213 := S.pushRow [(.int .i64 y163), (.int .i64 (1 : Int))]
        intro h215
        have S : St h none' [rowC h213.n [(.int .i64 (IntKind.wrap .i64 (y163 + (1 : Int)))), (.int .i64 (1 : Int))] 0, rowC h180.n [(.int .i64 y163), (.int .i64 (1 : Int))] 0, rowC h.n [c142, c181] 0, own (oSl (fz rPlace)) [c142] c143, own (oSl oTrans) [c181] c182] h215 := S.pushRow [(.int .i64 (IntKind.wrap .i64 (y163 + (1 : Int)))), (.int .i64 (1 : Int))]
        intro h217
        have S : St h none' [rowC h215.n [(.str ([] : List UInt8)), (.int .i64 (0 : Int)), (.int .i64 (0 : Int)), (.slice h180.n 0 0 1 2), .nilSlice, (.slice h213.n 0 0 1 2)] 0, rowC h213.n [(.int .i64 (IntKind.wrap .i64 (y163 + (1 : Int)))), (.int .i64 (1 : Int))] 0, rowC h180.n [(.int .i64 y163), (.int .i64 (1 : Int))] 0, rowC h.n [c142, c181] 0, own (oSl (fz rPlace)) [c142] c143, own (oSl oTrans) [c181] c182] h217 := S.pushRow [(.str ([] : List UInt8)), (.int .i64 (0 : Int)), (.int .i64 (0 : Int)), (.slice h180.n 0 0 1 2), .nilSlice, (.slice h213.n 0 0 1 2)]
        obtain ⟨c221, hc221, hf⟩ := obind hf
        have S : St h none' [rowC h180.n [(.int .i64 y163), (.int .i64 (1 : Int))] 0, rowC h215.n [(.str ([] : List UInt8)), (.int .i64 (0 : Int)), (.int .i64 (0 : Int)), (.slice h180.n 0 0 1 2), .nilSlice, (.slice h213.n 0 0 1 2)] 0, rowC h213.n [(.int .i64 (IntKind.wrap .i64 (y163 + (1 : Int)))), (.int .i64 (1 : Int))] 0, rowC h.n [c142, c181] 0, own (oSl (fz rPlace)) [c142] c143, own (oSl oTrans) [c181] c182] h217 := S.sel [2, 0, 1, 3, 4, 5] rfl
        have S : St h none' [own (oSl (fz rArc)) [(.slice h180.n 0 0 1 2)] [(TArc.mk y163 (1 : Int))], rowC h215.n [(.str ([] : List UInt8)), (.int .i64 (0 : Int)), (.int .i64 (0 : Int)), (.slice h180.n 0 0 1 2), .nilSlice, (.slice h213.n 0 0 1 2)] 0, rowC h213.n [(.int .i64 (IntKind.wrap .i64 (y163 + (1 : Int)))), (.int .i64 (1 : Int))] 0, rowC h.n [c142, c181] 0, own (oSl (fz rPlace)) [c142] c143, own (oSl oTrans) [c181] c182] h217 := St.lit (r := rArc) (els := [[(.int .i64 y163), (.int .i64 (1 : Int))]]) (l := [(TArc.mk y163 (1 : Int))]) (n := 1) S rfl (.cons (rArc_mk (x := (TArc.mk y163 (1 : Int)))) (.nil)) rfl
        have S : St h none' [own (oSl (fz rArc)) [.nilSlice] [], own (oSl (fz rArc)) [(.slice h180.n 0 0 1 2)] [(TArc.mk y163 (1 : Int))], rowC h215.n [(.str ([] : List UInt8)), (.int .i64 (0 : Int)), (.int .i64 (0 : Int)), (.slice h180.n 0 0 1 2), .nilSlice, (.slice h213.n 0 0 1 2)] 0, rowC h213.n [(.int .i64 (IntKind.wrap .i64 (y163 + (1 : Int)))), (.int .i64 (1 : Int))] 0, rowC h.n [c142, c181] 0, own (oSl (fz rPlace)) [c142] c143, own (oSl oTrans) [c181] c182] h217 := S.addE (oSl_nil _ _)
        have S : St h none' [rowC h213.n [(.int .i64 (IntKind.wrap .i64 (y163 + (1 : Int)))), (.int .i64 (1 : Int))] 0, own (oSl (fz rArc)) [.nilSlice] [], own (oSl (fz rArc)) [(.slice h180.n 0 0 1 2)] [(TArc.mk y163 (1 : Int))], rowC h215.n [(.str ([] : List UInt8)), (.int .i64 (0 : Int)), (.int .i64 (0 : Int)), (.slice h180.n 0 0 1 2), .nilSlice, (.slice h213.n 0 0 1 2)] 0, rowC h.n [c142, c181] 0, own (oSl (fz rPlace)) [c142] c143, own (oSl oTrans) [c181] c182] h217 := S.sel [3, 0, 1, 2, 4, 5, 6] rfl
        have S : St h none' [own (oSl (fz rArc)) [(.slice h213.n 0 0 1 2)] [(TArc.mk (IntKind.wrap .i64 (y163 + (1 : Int))) (1 : Int))], own (oSl (fz rArc)) [.nilSlice] [], own (oSl (fz rArc)) [(.slice h180.n 0 0 1 2)] [(TArc.mk y163 (1 : Int))], rowC h215.n [(.str ([] : List UInt8)), (.int .i64 (0 : Int)), (.int .i64 (0 : Int)), (.slice h180.n 0 0 1 2), .nilSlice, (.slice h213.n 0 0 1 2)] 0, rowC h.n [c142, c181] 0, own (oSl (fz rPlace)) [c142] c143, own (oSl oTrans) [c181] c182] h217 := St.lit (r := rArc) (els := [[(.int .i64 (IntKind.wrap .i64 (y163 + (1 : Int)))), (.int .i64 (1 : Int))]]) (l := [(TArc.mk (IntKind.wrap .i64 (y163 + (1 : Int))) (1 : Int))]) (n := 1) S rfl (.cons (rArc_mk (x := (TArc.mk (IntKind.wrap .i64 (y163 + (1 : Int))) (1 : Int)))) (.nil)) rfl
        have S : St h none' [own (oSl (fz rArc)) [(.slice h180.n 0 0 1 2)] [(TArc.mk y163 (1 : Int))], own (oSl (fz rArc)) [.nilSlice] [], own (oSl (fz rArc)) [(.slice h213.n 0 0 1 2)] [(TArc.mk (IntKind.wrap .i64 (y163 + (1 : Int))) (1 : Int))], rowC h215.n [(.str ([] : List UInt8)), (.int .i64 (0 : Int)), (.int .i64 (0 : Int)), (.slice h180.n 0 0 1 2), .nilSlice, (.slice h213.n 0 0 1 2)] 0, rowC h.n [c142, c181] 0, own (oSl (fz rPlace)) [c142] c143, own (oSl oTrans) [c181] c182] h217 := S.sel [2, 1, 0, 3, 4, 5, 6] rfl
        have S : St h none' [own oTrans [(.str ([] : List UInt8)), (.int .i64 (0 : Int)), (.int .i64 (0 : Int)), (.slice h180.n 0 0 1 2), .nilSlice, (.slice h213.n 0 0 1 2)] (TTrans.mk ([] : List UInt8) (0 : Int) (0 : Int) [(TArc.mk y163 (1 : Int))] [] [(TArc.mk (IntKind.wrap .i64 (y163 + (1 : Int))) (1 : Int))]), rowC h215.n [(.str ([] : List UInt8)), (.int .i64 (0 : Int)), (.int .i64 (0 : Int)), (.slice h180.n 0 0 1 2), .nilSlice, (.slice h213.n 0 0 1 2)] 0, rowC h.n [c142, c181] 0, own (oSl (fz rPlace)) [c142] c143, own (oSl oTrans) [c181] c182] h217 := oTrans_close (x := (TTrans.mk ([] : List UInt8) (0 : Int) (0 : Int) [(TArc.mk y163 (1 : Int))] [] [(TArc.mk (IntKind.wrap .i64 (y163 + (1 : Int))) (1 : Int))])) S
        have S : St h none' [own (oSl oTrans) [c181] c182, own oTrans [(.str ([] : List UInt8)), (.int .i64 (0 : Int)), (.int .i64 (0 : Int)), (.slice h180.n 0 0 1 2), .nilSlice, (.slice h213.n 0 0 1 2)] (TTrans.mk ([] : List UInt8) (0 : Int) (0 : Int) [(TArc.mk y163 (1 : Int))] [] [(TArc.mk (IntKind.wrap .i64 (y163 + (1 : Int))) (1 : Int))]), rowC h215.n [(.str ([] : List UInt8)), (.int .i64 (0 : Int)), (.int .i64 (0 : Int)), (.slice h180.n 0 0 1 2), .nilSlice, (.slice h213.n 0 0 1 2)] 0, rowC h.n [c142, c181] 0, own (oSl (fz rPlace)) [c142] c143] h217 := S.sel [4, 0, 1, 2, 3] rfl
        have mc221 := app_some hc221
        obtain ⟨v220, h219, e222, S⟩ := St.app1R (r := oTrans) (b := 104) S mc221.1
        have S : St h none' [own (oSl oTrans) [v220] c221, rowC h.n [c142, c181] 0, own (oSl (fz rPlace)) [c142] c143] h219 := S.cast (by rw [← mc221.2] <;> rfl)
        refine ⟨v220, h219, e222, ?_⟩
        refine ifP_iff.2 ⟨rfl, ?_⟩
        have S : St h none' [rowC h.n [c142, c181] 0, own (oSl oTrans) [v220] c221, own (oSl (fz rPlace)) [c142] c143] h219 := S.sel [1, 0, 2] rfl
        obtain ⟨h225, e226, S⟩ := S.storeS (off := 1) (x := v220) (cs' := [c142, v220]) (Nat.le_of_ble_eq_true rfl) ((S.sl (r := oTrans) (.tail _ (.head _)))).is rfl
        have S : St h none' [rowC h.n [c142, v220] 0, own (oSl oTrans) [v220] c221, own (oSl (fz rPlace)) [c142] c143] h225 := S
        refine ⟨h225, e226, ?_⟩
        have S : St h none' [rowC h.n [c142, v220] 0, own (oSl (fz rPlace)) [c142] c143, own (oSl oTrans) [v220] c221] h225 := S.sel [0, 2, 1] rfl
        obtain rfl := Option.some.inj hf
        exact ⟨m212, Nat.lt_succ_self _, v220, c221, rfl, rfl, rfl, rfl, rfl, S, hk⟩
      · rw [if_neg (show ¬ (y163 < (IntKind.wrap .i64 ((IntKind.wrap .i64 ((IntKind.wrap .i64 (Int.tmod x0 (8 : Int))) + (IntKind.wrap .i64 ((1 : Int) + (IntKind.wrap .i64 (Int.tmod x1 (8 : Int))))))) + (IntKind.wrap .i64 (Int.tmod x2 (8 : Int)))))) from of_decide_eq_false hc)] at hf
        obtain rfl := Option.some.inj hf
        obtain rfl := hk
        exact ⟨c181, c182, rfl, rfl, rfl, rfl, S, rfl⟩
    · exact ⟨.nilSlice, [], rfl, rfl, rfl, rfl, rfl, S, hL⟩
  · rintro m1470 y103 y104 y105 y106 y107 y108 h120 ⟨c121, c122, rfl, rfl, rfl, rfl, rfl, S, hit⟩
    obtain ⟨m147, q146, rfl, hf, hk⟩ := iter_some hit
    clear hit
    unfold B6_0
    unfold p6_l0 at hf
    try dsimp only at hf
    refine bP_intro (fun hc => ?_) (fun hc => ?_)
    · rw [if_pos (show y108 ≤ (IntKind.wrap .i64 ((IntKind.wrap .i64 ((IntKind.wrap .i64 (Int.tmod x0 (8 : Int))) + (IntKind.wrap .i64 ((1 : Int) + (IntKind.wrap .i64 (Int.tmod x1 (8 : Int))))))) + (IntKind.wrap .i64 (Int.tmod x2 (8 : Int))))) from of_decide_eq_true hc)] at hf
      refine ifP_iff.2 ⟨rfl, ?_⟩
      refine ⟨c121, S.rd1 (.head _) rfl, ?_⟩
      intro h148
      have S : St h none' [rowC h120.n [(.str ([] : List UInt8)), (.int .i64 (0 : Int))] 0, rowC h.n [c121, .nilSlice] 0, own (oSl (fz rPlace)) [c121] c122] h148 := S.pushRow [(.str ([] : List UInt8)), (.int .i64 (0 : Int))]
      obtain ⟨c152, hc152, hf⟩ := obind hf
      have S : St h none' [own (fz rPlace) [(.str ([] : List UInt8)), (.int .i64 (0 : Int))] (TPlace.mk ([] : List UInt8) (0 : Int)), rowC h120.n [(.str ([] : List UInt8)), (.int .i64 (0 : Int))] 0, rowC h.n [c121, .nilSlice] 0, own (oSl (fz rPlace)) [c121] c122] h148 := S.add (r := rPlace) (x := (TPlace.mk ([] : List UInt8) (0 : Int))) (rPlace_mk (x := (TPlace.mk ([] : List UInt8) (0 : Int))))
      have S : St h none' [own (oSl (fz rPlace)) [c121] c122, own (fz rPlace) [(.str ([] : List UInt8)), (.int .i64 (0 : Int))] (TPlace.mk ([] : List UInt8) (0 : Int)), rowC h120.n [(.str ([] : List UInt8)), (.int .i64 (0 : Int))] 0, rowC h.n [c121, .nilSlice] 0] h148 := S.sel [3, 0, 1, 2] rfl
      have mc152 := app_some hc152
      obtain ⟨v151, h150, e153, S⟩ := St.app1R (r := (fz rPlace)) (b := 24) S mc152.1
      have S : St h none' [own (oSl (fz rPlace)) [v151] c152, rowC h.n [c121, .nilSlice] 0] h150 := S.cast (by rw [← mc152.2] <;> rfl)
      refine ⟨v151, h150, e153, ?_⟩
      refine ifP_iff.2 ⟨rfl, ?_⟩
      have S : St h none' [rowC h.n [c121, .nilSlice] 0, own (oSl (fz rPlace)) [v151] c152] h150 := S.sel [1, 0] rfl
      obtain ⟨h155, e156, S⟩ := S.storeS (off := 0) (x := v151) (cs' := [v151, .nilSlice]) (Nat.le_of_ble_eq_true rfl) ((S.sl (r := (fz rPlace)) (.tail _ (.head _)))).is rfl
      have S : St h none' [rowC h.n [v151, .nilSlice] 0, own (oSl (fz rPlace)) [v151] c152] h155 := S
      refine ⟨h155, e156, ?_⟩
      obtain rfl := Option.some.inj hf
      exact ⟨m147, Nat.lt_succ_self _, v151, c152, rfl, rfl, rfl, rfl, rfl, S, hk⟩
    · rw [if_neg (show ¬ (y108 ≤ (IntKind.wrap .i64 ((IntKind.wrap .i64 ((IntKind.wrap .i64 (Int.tmod x0 (8 : Int))) + (IntKind.wrap .i64 ((1 : Int) + (IntKind.wrap .i64 (Int.tmod x1 (8 : Int))))))) + (IntKind.wrap .i64 (Int.tmod x2 (8 : Int)))))) from of_decide_eq_false hc)] at hf
      obtain rfl := Option.some.inj hf
      obtain rfl := hk
      exact ⟨c121, c122, rfl, rfl, rfl, rfl, rfl, S, rfl⟩
  · exact ⟨.nilSlice, [], rfl, rfl, rfl, rfl, rfl, S, hL⟩
end Go.Proofs.Ytgbkpiaonlabgaa
