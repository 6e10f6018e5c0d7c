/- Pure functions, and that the machine's functions answer as they do. No condition. Own work. -/
import Derived.Test.YtloaoofdbilpeaaSLexBlanks
import Derived.Test.YtloaoofdbilpeaaTLexBlanks
/- Pure functions, and that the machine's functions answer as they do; printed by a program of mine (pm.py). Own work. -/
namespace Go.Proofs.Ytloaoofdbilpeaa
open Go Go.Am
set_option linter.unusedVariables false
set_option linter.unusedSimpArgs false
/-! 74: internal/stringslite.IndexByte -/
noncomputable def p74 (s0 : List UInt8) (c1 : Int) : Option Int := some (idxB s0 c1)
theorem r74 {h : Heap}  {s0 : List UInt8} {c1 : Int} {r : Int} (hf : p74 s0 c1 = some r) : ZCalls F 74 [(.str s0), (.int .u8 c1)] h fun v h' => v = .int .i64 r ∧ St h none' [] h' := by
  refine w74 ?_
  unfold W74
  unfold p74 at hf
  have S : St h none' [] h := St.refl _ _
  refine oP_intro (.int .i64 (idxB s0 c1)) rfl ⟨(idxB s0 c1), rfl, ?_⟩
  obtain rfl := Option.some.inj hf
  exact ⟨rfl, S.sel [] rfl⟩
/-! 48: strings.IndexByte -/
noncomputable def p48 (s0 : List UInt8) (c1 : Int) : Option Int := (p74 s0 c1).bind fun y103 => some y103
theorem r48 {h : Heap}  {s0 : List UInt8} {c1 : Int} {r : Int} (hf : p48 s0 c1 = some r) : ZCalls F 48 [(.str s0), (.int .u8 c1)] h fun v h' => v = .int .i64 r ∧ St h none' [] h' := by
  refine w48 ?_
  unfold W48
  unfold p48 at hf
  have S : St h none' [] h := St.refl _ _
  obtain ⟨y103, hy103, hf⟩ := obind hf
  refine ⟨_, Fz.refl _, ?_⟩
  refine (r74 (s0 := s0) (c1 := c1) hy103).mono fun v101 h102 T => ?_
  obtain ⟨rfl, T⟩ := T
  have S : St h none' [] h102 := S.comp T
  refine ⟨y103, rfl, ?_⟩
  obtain rfl := Option.some.inj hf
  exact ⟨rfl, S.sel [] rfl⟩
/-! 49: never come to -/
noncomputable def p49 (x0 : List UInt8) : Option Int := none
theorem r49 {h : Heap} {x0 : List UInt8} {r : Int} (hf : p49 x0 = some r) : ZCalls F 49 [.str x0] h fun v h' => v = .int .i64 r ∧ St h none' [] h' := by
  unfold p49 at hf
  cases hf
/-! 75: never come to -/
noncomputable def p75 (x0 : List UInt8) (x1 : List UInt8) : Option Int := none
theorem r75 {h : Heap} {x0 : List UInt8} {x1 : List UInt8} {r : Int} (hf : p75 x0 x1 = some r) : ZCalls F 75 [.str x0, .str x1] h fun v h' => v = .int .i64 r ∧ St h none' [] h' := by
  unfold p75 at hf
  cases hf
/-! 51: strings.Index -/
noncomputable def p51 (s0 : List UInt8) (substr1 : List UInt8) : Option Int := (p75 s0 substr1).bind fun y103 => some y103
theorem r51 {h : Heap}  {s0 : List UInt8} {substr1 : List UInt8} {r : Int} (hf : p51 s0 substr1 = some r) : ZCalls F 51 [(.str s0), (.str substr1)] h fun v h' => v = .int .i64 r ∧ St h none' [] h' := by
  refine w51 ?_
  unfold W51
  unfold p51 at hf
  have S : St h none' [] h := St.refl _ _
  obtain ⟨y103, hy103, hf⟩ := obind hf
  refine ⟨_, Fz.refl _, ?_⟩
  refine (r75 (x0 := s0) (x1 := substr1) hy103).mono fun v101 h102 T => ?_
  obtain ⟨rfl, T⟩ := T
  have S : St h none' [] h102 := S.comp T
  refine ⟨y103, rfl, ?_⟩
  obtain rfl := Option.some.inj hf
  exact ⟨rfl, S.sel [] rfl⟩
/-! 35: strings.Count -/
noncomputable def p35_l0 (substr1 : List UInt8) (st : (List UInt8) × Int) : Option (((List UInt8) × Int) ⊕ Int) := match st with | (s105, n108) => (p51 s105 substr1).bind fun y126 => if y126 = ((-1) : Int) then (some (.inr n108)) else ((slc s105 (IntKind.wrap .i64 (y126 + (substr1.length : Int))) (s105.length : Int)).bind fun y127 => some (.inl (y127, (IntKind.wrap .i64 (n108 + (1 : Int))))))
noncomputable def p35 (s0 : List UInt8) (substr1 : List UInt8) : Option Int := if (substr1.length : Int) = (0 : Int) then ((p49 s0).bind fun y103 => some (IntKind.wrap .i64 (y103 + (1 : Int)))) else (if (substr1.length : Int) = (1 : Int) then ((idxS substr1 (0 : Int)).bind fun y104 => some (cntB s0 y104)) else ((loopC (p35_l0 substr1) (s0, (0 : Int))).bind fun res120 => ((fun (y117 : Int) => some y117) res120)))
theorem r35 {h : Heap}  {s0 : List UInt8} {substr1 : List UInt8} {r : Int} (hf : p35 s0 substr1 = some r) : ZCalls F 35 [(.str s0), (.str substr1)] h fun v h' => v = .int .i64 r ∧ St h none' [] h' := by
  refine w35 ?_
  unfold W35
  unfold p35 at hf
  have S : St h none' [] h := St.refl _ _
  refine bP_intro (fun hc => ?_) (fun hc => ?_)
  · rw [if_pos (show (substr1.length : Int) = (0 : Int) from of_decide_eq_true hc)] at hf
    obtain ⟨y103, hy103, hf⟩ := obind hf
    refine ⟨_, Fz.refl _, ?_⟩
    refine (r49 (x0 := s0) hy103).mono fun v101 h102 T => ?_
    obtain ⟨rfl, T⟩ := T
    have S : St h none' [] h102 := S.comp T
    refine ⟨y103, rfl, ?_⟩
    obtain rfl := Option.some.inj hf
    exact ⟨rfl, S.sel [] rfl⟩
  · rw [if_neg (show ¬ ((substr1.length : Int) = (0 : Int)) from of_decide_eq_false hc)] at hf
    refine bP_intro (fun hc => ?_) (fun hc => ?_)
    · rw [if_pos (show (substr1.length : Int) = (1 : Int) from of_decide_eq_true hc)] at hf
      obtain ⟨y104, hy104, hf⟩ := obind hf
      refine oP_intro (.int .u8 y104) (idxS_ev hy104) ⟨y104, rfl, ?_⟩
      refine oP_intro (.int .i64 (cntB s0 y104)) rfl ⟨(cntB s0 y104), rfl, ?_⟩
      obtain rfl := Option.some.inj hf
      exact ⟨rfl, S.sel [] rfl⟩
    · rw [if_neg (show ¬ ((substr1.length : Int) = (1 : Int)) from of_decide_eq_false hc)] at hf
      obtain ⟨res120, hL, hf⟩ := obind hf
      obtain ⟨n121, hL⟩ := loopC_iff.1 hL
      refine loopm35_0 (R := fun (s115 : List UInt8) (substr116 : List UInt8) (y117 : Int) (n118 : Int) (h119 : Heap) => St h none' [] h119 ∧ y117 = res120) ?_ (loop35_0 (I := fun (m123 : Nat) (s105 : List UInt8) (substr106 : List UInt8) (y107 : Int) (n108 : Int) (h109 : Heap) => substr1 = substr106 ∧ St h none' [] h109 ∧ iter (p35_l0 substr1) m123 (s105, n108) = some res120) ?_ (m := n121) ?_)
      · rintro s115 substr116 y117 n118 h119 ⟨S, rfl⟩
        try dsimp only at hf
        obtain rfl := Option.some.inj hf
        exact ⟨rfl, S.sel [] rfl⟩
      · rintro m1230 s105 substr106 y107 n108 h109 ⟨rfl, S, hit⟩
        obtain ⟨m123, q122, rfl, hf, hk⟩ := iter_some hit
        clear hit
        unfold B35_0
        unfold p35_l0 at hf
        try dsimp only at hf
        obtain ⟨y126, hy126, hf⟩ := obind hf
        refine ⟨_, Fz.refl _, ?_⟩
        refine (r51 (s0 := s105) (substr1 := substr1) hy126).mono fun v124 h125 T => ?_
        obtain ⟨rfl, T⟩ := T
        have S : St h none' [] h125 := S.comp T
        refine ⟨y126, rfl, ?_⟩
        refine bP_intro (fun hc => ?_) (fun hc => ?_)
        · rw [if_pos (show y126 = ((-1) : Int) from of_decide_eq_true hc)] at hf
          obtain rfl := Option.some.inj hf
          obtain rfl := hk
          exact ⟨S, rfl⟩
        · rw [if_neg (show ¬ (y126 = ((-1) : Int)) from of_decide_eq_false hc)] at hf
          obtain ⟨y127, hy127, hf⟩ := obind hf
          refine oP_intro (.str y127) (sliceStr_ev10 hy127) ⟨y127, rfl, ?_⟩
          obtain rfl := Option.some.inj hf
          exact ⟨m123, Nat.lt_succ_self _, rfl, S, hk⟩
      · exact ⟨rfl, S, hL⟩
/-! 52: internal/bytealg.LastIndexByteString -/
noncomputable def p52_l0 (s0 : List UInt8) (c1 : Int) (i104 : Int) : Option (Int ⊕ (Int ⊕ Unit)) := if (0 : Int) ≤ i104 then ((idxS s0 i104).bind fun y122 => if y122 = c1 then (some (.inr (.inl i104))) else (some (.inl (IntKind.wrap .i64 (i104 - (1 : Int)))))) else (some (.inr (.inr ())))
noncomputable def p52 (s0 : List UInt8) (c1 : Int) : Option Int := (loopC (p52_l0 s0 c1) (IntKind.wrap .i64 ((s0.length : Int) - (1 : Int)))).bind fun res118 => (match res118 with | .inl y110 => some y110 | .inr _ => some ((-1) : Int))
theorem r52 {h : Heap}  {s0 : List UInt8} {c1 : Int} {r : Int} (hf : p52 s0 c1 = some r) : ZCalls F 52 [(.str s0), (.int .u8 c1)] h fun v h' => v = .int .i64 r ∧ St h none' [] h' := by
  refine w52 ?_
  unfold W52
  unfold p52 at hf
  have S : St h none' [] h := St.refl _ _
  obtain ⟨res118, hL, hf⟩ := obind hf
  obtain ⟨n119, hL⟩ := loopC_iff.1 hL
  refine loopm52_0 (R := fun (s108 : List UInt8) (c109 : Int) (y110 : Int) (i111 : Int) (h112 : Heap) => St h none' [] h112 ∧ (.inl y110) = res118) (X0 := fun (s113 : List UInt8) (c114 : Int) (y115 : Int) (i116 : Int) (h117 : Heap) => St h none' [] h117 ∧ (.inr ()) = res118) ?_ ?_ (loop52_0 (I := fun (m121 : Nat) (s101 : List UInt8) (c102 : Int) (y103 : Int) (i104 : Int) (h105 : Heap) => s0 = s101 ∧ c1 = c102 ∧ St h none' [] h105 ∧ iter (p52_l0 s0 c1) m121 i104 = some res118) ?_ (m := n119) ?_)
  · rintro s108 c109 y110 i111 h112 ⟨S, rfl⟩
    try dsimp only at hf
    obtain rfl := Option.some.inj hf
    exact ⟨rfl, S.sel [] rfl⟩
  · rintro s113 c114 y115 i116 h117 ⟨S, rfl⟩
    try dsimp only at hf
    obtain rfl := Option.some.inj hf
    exact ⟨rfl, S.sel [] rfl⟩
  · rintro m1210 s101 c102 y103 i104 h105 ⟨rfl, rfl, S, hit⟩
    obtain ⟨m121, q120, rfl, hf, hk⟩ := iter_some hit
    clear hit
    unfold B52_0
    unfold p52_l0 at hf
    try dsimp only at hf
    refine bP_intro (fun hc => ?_) (fun hc => ?_)
    · rw [if_pos (show (0 : Int) ≤ i104 from of_decide_eq_true hc)] at hf
      obtain ⟨y122, hy122, hf⟩ := obind hf
      refine oP_intro (.int .u8 y122) (idxS_ev hy122) ⟨y122, rfl, ?_⟩
      refine bP_intro (fun hc => ?_) (fun hc => ?_)
      · rw [if_pos (show y122 = c1 from of_decide_eq_true hc)] at hf
        obtain rfl := Option.some.inj hf
        obtain rfl := hk
        exact ⟨S, rfl⟩
      · rw [if_neg (show ¬ (y122 = c1) from of_decide_eq_false hc)] at hf
        obtain rfl := Option.some.inj hf
        exact ⟨m121, Nat.lt_succ_self _, rfl, rfl, S, hk⟩
    · rw [if_neg (show ¬ ((0 : Int) ≤ i104) from of_decide_eq_false hc)] at hf
      obtain rfl := Option.some.inj hf
      obtain rfl := hk
      exact ⟨S, rfl⟩
  · exact ⟨rfl, rfl, S, hL⟩
/-! 36: strings.LastIndexByte -/
noncomputable def p36 (s0 : List UInt8) (c1 : Int) : Option Int := (p52 s0 c1).bind fun y103 => some y103
theorem r36 {h : Heap}  {s0 : List UInt8} {c1 : Int} {r : Int} (hf : p36 s0 c1 = some r) : ZCalls F 36 [(.str s0), (.int .u8 c1)] h fun v h' => v = .int .i64 r ∧ St h none' [] h' := by
  refine w36 ?_
  unfold W36
  unfold p36 at hf
  have S : St h none' [] h := St.refl _ _
  obtain ⟨y103, hy103, hf⟩ := obind hf
  refine ⟨_, Fz.refl _, ?_⟩
  refine (r52 (s0 := s0) (c1 := c1) hy103).mono fun v101 h102 T => ?_
  obtain ⟨rfl, T⟩ := T
  have S : St h none' [] h102 := S.comp T
  refine ⟨y103, rfl, ?_⟩
  obtain rfl := Option.some.inj hf
  exact ⟨rfl, S.sel [] rfl⟩
/-! 37: marblerun/lex.small -/
noncomputable def p37_j0 (b101 : Bool) : Option Bool := some b101
noncomputable def p37 (c0 : Int) : Option Bool := if (97 : Int) ≤ c0 then (p37_j0 (decide (c0 ≤ (122 : Int)))) else (p37_j0 false)
theorem r37 {h : Heap}  {c0 : Int} {r : Bool} (hf : p37 c0 = some r) : ZCalls F 37 [(.int .u8 c0)] h fun v h' => v = .bool r ∧ St h none' [] h' := by
  refine w37 ?_
  unfold W37
  unfold p37 at hf
  have S : St h none' [] h := St.refl _ _
  intro jjj0
  have hjj0 : ∀ (b101 : Bool) (h102 : Heap), p37_j0 b101 = some r → h = h102 → St h none' [] h → jjj0 b101 h102 := by
    rintro b101 h102 hf rfl S
    unfold p37_j0 at hf
    unfold jjj0
    obtain rfl := Option.some.inj hf
    exact ⟨rfl, S.sel [] rfl⟩
  refine bP_intro (fun hc => ?_) (fun hc => ?_)
  · rw [if_pos (show (97 : Int) ≤ c0 from of_decide_eq_true hc)] at hf
    exact hjj0 _ _  hf rfl S
  · rw [if_neg (show ¬ ((97 : Int) ≤ c0) from of_decide_eq_false hc)] at hf
    exact hjj0 _ _  hf rfl S
/-! 38: marblerun/lex.digit -/
noncomputable def p38_j0 (b101 : Bool) : Option Bool := some b101
noncomputable def p38 (c0 : Int) : Option Bool := if (48 : Int) ≤ c0 then (p38_j0 (decide (c0 ≤ (57 : Int)))) else (p38_j0 false)
theorem r38 {h : Heap}  {c0 : Int} {r : Bool} (hf : p38 c0 = some r) : ZCalls F 38 [(.int .u8 c0)] h fun v h' => v = .bool r ∧ St h none' [] h' := by
  refine w38 ?_
  unfold W38
  unfold p38 at hf
  have S : St h none' [] h := St.refl _ _
  intro jjj0
  have hjj0 : ∀ (b101 : Bool) (h102 : Heap), p38_j0 b101 = some r → h = h102 → St h none' [] h → jjj0 b101 h102 := by
    rintro b101 h102 hf rfl S
    unfold p38_j0 at hf
    unfold jjj0
    obtain rfl := Option.some.inj hf
    exact ⟨rfl, S.sel [] rfl⟩
  refine bP_intro (fun hc => ?_) (fun hc => ?_)
  · rw [if_pos (show (48 : Int) ≤ c0 from of_decide_eq_true hc)] at hf
    exact hjj0 _ _  hf rfl S
  · rw [if_neg (show ¬ ((48 : Int) ≤ c0) from of_decide_eq_false hc)] at hf
    exact hjj0 _ _  hf rfl S
/-! 31: marblerun/lex.blank -/
noncomputable def p31_l0 (p0 : List Int) (at102 : Int) : Option (Int ⊕ (Int ⊕ Int)) := if at102 < (p0.length : Int) then ((idx p0 at102).bind fun e129 => (p48 ([32, 9, 13, 10] : List UInt8) e129).bind fun y133 => if (0 : Int) ≤ y133 then (some (.inl (IntKind.wrap .i64 (at102 + (1 : Int))))) else ((idx p0 at102).bind fun e134 => if e134 = (35 : Int) then ((slc p0 at102 (p0.length : Int)).bind fun y136 => (p48 (y136.map u8) (10 : Int)).bind fun y139 => if y139 < (0 : Int) then (some (.inr (.inl (p0.length : Int)))) else (some (.inl (IntKind.wrap .i64 (at102 + y139))))) else (some (.inr (.inl at102))))) else (some (.inr (.inr at102)))
noncomputable def p31 (p0 : List Int) (at1 : Int) : Option Int := (loopC (p31_l0 p0) at1).bind fun res125 => (match res125 with | .inl y119 => some y119 | .inr at122 => some at122)
theorem r31 {h : Heap} {a0_0 : AV} {p0 : List Int} {at1 : Int} (f0_0 : SlR (rI .u8) (Snap h) a0_0 p0) {r : Int} (hf : p31 p0 at1 = some r) : ZCalls F 31 [a0_0, (.int .i64 at1)] h fun v h' => v = .int .i64 r ∧ St h none' [] h' := by
  refine w31 ?_
  unfold W31
  unfold p31 at hf
  have S : St h none' [] h := St.refl _ _
  obtain ⟨res125, hL, hf⟩ := obind hf
  obtain ⟨n126, hL⟩ := loopC_iff.1 hL
  refine loopm31_0 (R := fun (p117 : AV) (at118 : Int) (y119 : Int) (h120 : Heap) => St h none' [] h120 ∧ (.inl y119) = res125) (X0 := fun (p121 : AV) (at122 : Int) (y123 : Int) (h124 : Heap) => St h none' [] h124 ∧ (.inr at122) = res125) ?_ ?_ (loop31_0 (I := fun (m128 : Nat) (p101 : AV) (at102 : Int) (y103 : Int) (h104 : Heap) => a0_0 = p101 ∧ St h none' [] h104 ∧ iter (p31_l0 p0) m128 at102 = some res125) ?_ (m := n126) ?_)
  · rintro p117 at118 y119 h120 ⟨S, rfl⟩
    try dsimp only at hf
    obtain rfl := Option.some.inj hf
    exact ⟨rfl, S.sel [] rfl⟩
  · rintro p121 at122 y123 h124 ⟨S, rfl⟩
    try dsimp only at hf
    obtain rfl := Option.some.inj hf
    exact ⟨rfl, S.sel [] rfl⟩
  · rintro m1280 p101 at102 y103 h104 ⟨rfl, S, hit⟩
    obtain ⟨m128, q127, rfl, hf, hk⟩ := iter_some hit
    clear hit
    unfold B31_0
    unfold p31_l0 at hf
    try dsimp only at hf
    refine ifP_iff.2 ⟨(f0_0).is, ?_⟩
    try rw [(f0_0).slen]
    refine bP_intro (fun hc => ?_) (fun hc => ?_)
    · rw [if_pos (show at102 < (p0.length : Int) from of_decide_eq_true hc)] at hf
      obtain ⟨e129, he129, hf⟩ := obind hf
      obtain ⟨qe129, q0e129, q1e129⟩ := SlR.ix f0_0 he129
      have pe129 := (SlR.idx f0_0 (snap_mono S.le) he129).1
      refine ifP_iff.2 ⟨qe129, q0e129, (by first | exact q1e129 | exact (idx_lt he129).2), ?_⟩
      obtain ⟨_, cr130, Rr130, Nr130, Or130, Zr130⟩ := SlR.idx f0_0 (snap_mono S.le) he129
      obtain rfl : cr130 = [(.int .u8 e129)] := Rr130
      refine ⟨e129, Zr130 _ rfl, ?_⟩
      obtain ⟨y133, hy133, hf⟩ := obind hf
      refine ⟨_, Fz.refl _, ?_⟩
      refine (r48 (s0 := ([32, 9, 13, 10] : List UInt8)) (c1 := e129) hy133).mono fun v131 h132 T => ?_
      obtain ⟨rfl, T⟩ := T
      have S : St h none' [] h132 := S.comp T
      refine ⟨y133, rfl, ?_⟩
      refine bP_intro (fun hc => ?_) (fun hc => ?_)
      · rw [if_pos (show (0 : Int) ≤ y133 from of_decide_eq_true hc)] at hf
        obtain rfl := Option.some.inj hf
        exact ⟨m128, Nat.lt_succ_self _, rfl, S, hk⟩
      · rw [if_neg (show ¬ ((0 : Int) ≤ y133) from of_decide_eq_false hc)] at hf
        obtain ⟨e134, he134, hf⟩ := obind hf
        obtain ⟨qe134, q0e134, q1e134⟩ := SlR.ix f0_0 he134
        have pe134 := (SlR.idx f0_0 (snap_mono S.le) he134).1
        refine ifP_iff.2 ⟨qe134, q0e134, (by first | exact q1e134 | exact (idx_lt he134).2), ?_⟩
        obtain ⟨_, cr135, Rr135, Nr135, Or135, Zr135⟩ := SlR.idx f0_0 (snap_mono S.le) he134
        obtain rfl : cr135 = [(.int .u8 e134)] := Rr135
        refine ⟨e134, Zr135 _ rfl, ?_⟩
        refine bP_intro (fun hc => ?_) (fun hc => ?_)
        · rw [if_pos (show e134 = (35 : Int) from of_decide_eq_true hc)] at hf
          obtain ⟨y136, hy136, hf⟩ := obind hf
          have ey136 := (sliceSl_ev10 (k := .i64) f0_0 hy136)
          have fy136 : SlR (rI .u8) (Snap h) (a0_0.sub 1 (at102 : Int).toNat ((p0.length : Int) : Int).toNat) y136 := slc_eq hy136 ▸ SlR.sub f0_0 (slc_le hy136).1 (slc_le hy136).2
          refine oP_intro _ ey136 ?_
          refine ⟨_, bytes_ev (SlR.mono (snap_mono S.le) fy136), (y136.map u8), rfl, ?_⟩
          obtain ⟨y139, hy139, hf⟩ := obind hf
          refine ⟨_, Fz.refl _, ?_⟩
          refine (r48 (s0 := (y136.map u8)) (c1 := (10 : Int)) hy139).mono fun v137 h138 T => ?_
          obtain ⟨rfl, T⟩ := T
          have S : St h none' [] h138 := S.comp T
          refine ⟨y139, rfl, ?_⟩
          refine bP_intro (fun hc => ?_) (fun hc => ?_)
          · rw [if_pos (show y139 < (0 : Int) from of_decide_eq_true hc)] at hf
            refine ifP_iff.2 ⟨(f0_0).is, ?_⟩
            try rw [(f0_0).slen]
            obtain rfl := Option.some.inj hf
            obtain rfl := hk
            exact ⟨S, rfl⟩
          · rw [if_neg (show ¬ (y139 < (0 : Int)) from of_decide_eq_false hc)] at hf
            obtain rfl := Option.some.inj hf
            exact ⟨m128, Nat.lt_succ_self _, rfl, S, hk⟩
        · rw [if_neg (show ¬ (e134 = (35 : Int)) from of_decide_eq_false hc)] at hf
          obtain rfl := Option.some.inj hf
          obtain rfl := hk
          exact ⟨S, rfl⟩
    · rw [if_neg (show ¬ (at102 < (p0.length : Int)) from of_decide_eq_false hc)] at hf
      obtain rfl := Option.some.inj hf
      obtain rfl := hk
      exact ⟨S, rfl⟩
  · exact ⟨rfl, S, hL⟩
/-! 32: marblerun/lex.one -/
noncomputable def p32_j0 (x0 : List Int) (x1 : Int) (y440 : Int) (c441 : Int) (c442 : Int) : Option (TTokenlex × Int) := (slc x0 x1 y440).bind fun y443 => some ((TTokenlex.mk c441 (y443.map u8) c442 x1), (0 : Int))
noncomputable def p32_j1 (y453 : Int) (b585 : Bool) : Option (Int ⊕ Int) := if b585 = true then (some (.inl (IntKind.wrap .i64 (y453 + (1 : Int))))) else (some (.inr y453))
noncomputable def p32_j2 (y453 : Int) (b613 : Bool) : Option (Int ⊕ Int) := p32_j1 y453 b613
noncomputable def p32_j3 (x0 : List Int) (y453 : Int) (b603 : Bool) : Option (Int ⊕ Int) := if b603 = true then (p32_j2 y453 true) else ((idx x0 y453).bind fun e622 => p32_j2 y453 (decide (e622 = (46 : Int))))
noncomputable def p32_l0 (x0 : List Int) (y453 : Int) : Option (Int ⊕ Int) := if y453 < (x0.length : Int) then ((idx x0 y453).bind fun e593 => (p37 e593).bind fun y597 => if y597 = true then (p32_j3 x0 y453 true) else ((idx x0 y453).bind fun e625 => (p38 e625).bind fun y629 => p32_j3 x0 y453 y629)) else (p32_j1 y453 false)
noncomputable def p32_j4 (x0 : List Int) (y644 : Int) (c671 : Int) (b722 : Bool) : Option ((Int × Int) ⊕ (Unit ⊕ (Int × Int))) := if b722 = true then ((idx x0 y644).bind fun e729 => if (1125899906842624 : Int) < (IntKind.wrap .i64 ((IntKind.wrap .i64 ((10 : Int) * c671)) + (IntKind.wrap .i64 (IntKind.wrap .u8 (e729 - (48 : Int)))))) then (some (.inr (.inl ()))) else (some (.inl ((IntKind.wrap .i64 (y644 + (1 : Int))), (IntKind.wrap .i64 ((IntKind.wrap .i64 ((10 : Int) * c671)) + (IntKind.wrap .i64 (IntKind.wrap .u8 (e729 - (48 : Int)))))))))) else (some (.inr (.inr (y644, c671))))
noncomputable def p32_l1 (x0 : List Int) (st : Int × Int) : Option ((Int × Int) ⊕ (Unit ⊕ (Int × Int))) := match st with | (y644, c671) => if y644 < (x0.length : Int) then ((idx x0 y644).bind fun e736 => (p38 e736).bind fun y740 => p32_j4 x0 y644 c671 y740) else (p32_j4 x0 y644 c671 false)
noncomputable def p32_j5 (x0 : List Int) (x1 : Int) (e107 : Int) (b751 : Bool) : Option (TTokenlex × Int) := if b751 = true then (p32_j0 x0 x1 (IntKind.wrap .i64 ((IntKind.wrap .i64 (x1 + (1 : Int))) + (1 : Int))) (3 : Int) (0 : Int)) else ((p48 ([59, 58, 44, 42, 33, 126, 64, 61] : List UInt8) e107).bind fun y763 => if (0 : Int) ≤ y763 then (p32_j0 x0 x1 (IntKind.wrap .i64 (x1 + (1 : Int))) (3 : Int) (0 : Int)) else (some ((TTokenlex.mk (0 : Int) ([] : List UInt8) (0 : Int) (0 : Int)), (6 : Int))))
noncomputable def p32_j6 (x0 : List Int) (x1 : Int) (e107 : Int) (b741 : Bool) : Option (TTokenlex × Int) := if b741 = true then ((idx x0 (IntKind.wrap .i64 (x1 + (1 : Int)))).bind fun e769 => p32_j5 x0 x1 e107 (decide (e769 = (62 : Int)))) else (p32_j5 x0 x1 e107 false)
noncomputable def p32 (x0 : List Int) (x1 : Int) : Option (TTokenlex × Int) := (idx x0 x1).bind fun e107 => (p37 e107).bind fun y111 => if y111 = true then ((loopC (p32_l0 x0) (IntKind.wrap .i64 (x1 + (1 : Int)))).bind fun res544 => ((fun (y542 : Int) => p32_j0 x0 x1 y542 (1 : Int) (0 : Int)) res544)) else ((p38 e107).bind fun y634 => if y634 = true then ((loopC (p32_l1 x0) ((IntKind.wrap .i64 (x1 + (1 : Int))), (IntKind.wrap .i64 (IntKind.wrap .u8 (e107 - (48 : Int)))))).bind fun res713 => (match res713 with | .inl _ => some ((TTokenlex.mk (0 : Int) ([] : List UInt8) (0 : Int) (0 : Int)), (3 : Int)) | .inr (y710, c712) => p32_j0 x0 x1 y710 (2 : Int) c712)) else (if e107 = (45 : Int) then (p32_j6 x0 x1 e107 (decide ((IntKind.wrap .i64 (x1 + (1 : Int))) < (x0.length : Int)))) else (p32_j6 x0 x1 e107 false)))
theorem r32 {h : Heap} {a0_0 : AV} {x0 : List Int} {x1 : Int} (f0_0 : SlR (rI .u8) (Snap h) a0_0 x0) {r : TTokenlex × Int} (hf : p32 x0 x1 = some r) : ZCalls F 32 [a0_0, (.int .i64 x1)] h fun v h' => v = .tuple [.agg [.int .u8 r.1.Kind, .str r.1.Text, .int .i64 r.1.N, .int .i64 r.1.At], .int .i64 r.2] ∧ St h none' [] h' := by
  refine w32 ?_
  unfold W32
  unfold p32 at hf
  have S : St h none' [] h := St.refl _ _
  intro h101
  have S : St h none' [rowC h.n [(.int .u8 (0 : Int)), (.str ([] : List UInt8)), (.int .i64 (0 : Int)), (.int .i64 (0 : Int))] 0] h101 := S.pushRow [(.int .u8 (0 : Int)), (.str ([] : List UInt8)), (.int .i64 (0 : Int)), (.int .i64 (0 : Int))]
  intro h103
  have S : St h none' [rowC h101.n [(.int .u8 (0 : Int)), (.str ([] : List UInt8)), (.int .i64 (0 : Int)), (.int .i64 (0 : Int))] 0, rowC h.n [(.int .u8 (0 : Int)), (.str ([] : List UInt8)), (.int .i64 (0 : Int)), (.int .i64 (0 : Int))] 0] h103 := S.pushRow [(.int .u8 (0 : Int)), (.str ([] : List UInt8)), (.int .i64 (0 : Int)), (.int .i64 (0 : Int))]
  obtain ⟨h105, e106, S⟩ := S.store (off := 0) (n := 4) (x := (.agg [(.int .u8 (0 : Int)), (.str ([] : List UInt8)), (.int .i64 (0 : Int)), (.int .i64 x1)])) (cs' := [(.int .u8 (0 : Int)), (.str ([] : List UInt8)), (.int .i64 (0 : Int)), (.int .i64 x1)]) (Nat.le_of_ble_eq_true rfl) rfl rfl rfl
  have S : St h none' [rowC h101.n [(.int .u8 (0 : Int)), (.str ([] : List UInt8)), (.int .i64 (0 : Int)), (.int .i64 x1)] 0, rowC h.n [(.int .u8 (0 : Int)), (.str ([] : List UInt8)), (.int .i64 (0 : Int)), (.int .i64 (0 : Int))] 0] h105 := S
  refine ⟨h105, e106, ?_⟩
  obtain ⟨e107, he107, hf⟩ := obind hf
  obtain ⟨qe107, q0e107, q1e107⟩ := SlR.ix f0_0 he107
  have pe107 := (SlR.idx f0_0 (snap_mono S.le) he107).1
  refine ifP_iff.2 ⟨qe107, q0e107, (by first | exact q1e107 | exact (idx_lt he107).2), ?_⟩
  obtain ⟨_, cr108, Rr108, Nr108, Or108, Zr108⟩ := SlR.idx f0_0 (snap_mono S.le) he107
  obtain rfl : cr108 = [(.int .u8 e107)] := Rr108
  refine ⟨e107, Zr108 _ rfl, ?_⟩
  obtain ⟨y111, hy111, hf⟩ := obind hf
  refine ⟨_, Fz.refl _, ?_⟩
  refine (r37 (c0 := e107) hy111).mono fun v109 h110 T => ?_
  obtain ⟨rfl, T⟩ := T
  have S : St h none' [rowC h101.n [(.int .u8 (0 : Int)), (.str ([] : List UInt8)), (.int .i64 (0 : Int)), (.int .i64 x1)] 0, rowC h.n [(.int .u8 (0 : Int)), (.str ([] : List UInt8)), (.int .i64 (0 : Int)), (.int .i64 (0 : Int))] 0] h110 := S.comp T
  refine ⟨y111, rfl, ?_⟩
  intro jjj0
  have hjj0 : ∀ (y436 : AV) (y437 : Int) (y438 : AV) (y439 : AV) (y440 : Int) (h435 : Heap) (c441 : Int) (c442 : Int), p32_j0 x0 x1 y440 c441 c442 = some r → a0_0 = y436 → x1 = y437 → AV.ptr h.n 0 0 = y438 → AV.ptr h101.n 0 0 = y439 → St h none' [rowC h.n [(.int .u8 (0 : Int)), (.str ([] : List UInt8)), (.int .i64 (0 : Int)), (.int .i64 (0 : Int))] 0, rowC h101.n [(.int .u8 c441), (.str ([] : List UInt8)), (.int .i64 c442), (.int .i64 x1)] 0] h435 → jjj0 y436 y437 y438 y439 y440 h435 := by
    rintro y436 y437 y438 y439 y440 h435 c441 c442 hf rfl rfl rfl rfl S
    unfold p32_j0 at hf
    unfold jjj0
    obtain ⟨y443, hy443, hf⟩ := obind hf
    have ey443 := (sliceSl_ev11 (k := .i64) (k' := .i64) f0_0 hy443)
    have fy443 : SlR (rI .u8) (Snap h) (a0_0.sub 1 (x1 : Int).toNat (y440 : Int).toNat) y443 := slc_eq hy443 ▸ SlR.sub f0_0 (slc_le hy443).1 (slc_le hy443).2
    refine oP_intro _ ey443 ?_
    refine ⟨_, bytes_ev (SlR.mono (snap_mono S.le) fy443), (y443.map u8), rfl, ?_⟩
    refine ifP_iff.2 ⟨rfl, ?_⟩
    have S : St h none' [rowC h101.n [(.int .u8 c441), (.str ([] : List UInt8)), (.int .i64 c442), (.int .i64 x1)] 0, rowC h.n [(.int .u8 (0 : Int)), (.str ([] : List UInt8)), (.int .i64 (0 : Int)), (.int .i64 (0 : Int))] 0] h435 := S.sel [1, 0] rfl
    obtain ⟨h444, e445, S⟩ := S.store (off := 1) (n := 1) (x := (.str (y443.map u8))) (cs' := [(.int .u8 c441), (.str (y443.map u8)), (.int .i64 c442), (.int .i64 x1)]) (Nat.le_of_ble_eq_true rfl) rfl rfl rfl
    have S : St h none' [rowC h101.n [(.int .u8 c441), (.str (y443.map u8)), (.int .i64 c442), (.int .i64 x1)] 0, rowC h.n [(.int .u8 (0 : Int)), (.str ([] : List UInt8)), (.int .i64 (0 : Int)), (.int .i64 (0 : Int))] 0] h444 := S
    refine ⟨h444, e445, ?_⟩
    refine ⟨(.int .u8 c441), (.str (y443.map u8)), (.int .i64 c442), (.int .i64 x1), S.rdN (.head _) (Nat.le_of_ble_eq_true rfl) rfl, ?_⟩
    have S : St h none' [rowC h.n [(.int .u8 (0 : Int)), (.str ([] : List UInt8)), (.int .i64 (0 : Int)), (.int .i64 (0 : Int))] 0, rowC h101.n [(.int .u8 c441), (.str (y443.map u8)), (.int .i64 c442), (.int .i64 x1)] 0] h444 := S.sel [1, 0] rfl
    obtain ⟨h446, e447, S⟩ := S.store (off := 0) (n := 4) (x := (.agg [(.int .u8 c441), (.str (y443.map u8)), (.int .i64 c442), (.int .i64 x1)])) (cs' := [(.int .u8 c441), (.str (y443.map u8)), (.int .i64 c442), (.int .i64 x1)]) (Nat.le_of_ble_eq_true rfl) rfl rfl rfl
    have S : St h none' [rowC h.n [(.int .u8 c441), (.str (y443.map u8)), (.int .i64 c442), (.int .i64 x1)] 0, rowC h101.n [(.int .u8 c441), (.str (y443.map u8)), (.int .i64 c442), (.int .i64 x1)] 0] h446 := S
    refine ⟨h446, e447, ?_⟩
    refine ⟨(.int .u8 c441), (.str (y443.map u8)), (.int .i64 c442), (.int .i64 x1), S.rdN (.head _) (Nat.le_of_ble_eq_true rfl) rfl, ?_⟩
    obtain rfl := Option.some.inj hf
    exact ⟨rfl, S.sel [] rfl⟩
  refine bP_intro (fun hc => ?_) (fun hc => ?_)
  · rw [if_pos (show y111 = true from hc)] at hf
    obtain ⟨res544, hL, hf⟩ := obind hf
    obtain ⟨n545, hL⟩ := loopC_iff.1 hL
    have S : St h none' [rowC h.n [(.int .u8 (0 : Int)), (.str ([] : List UInt8)), (.int .i64 (0 : Int)), (.int .i64 (0 : Int))] 0, rowC h101.n [(.int .u8 (0 : Int)), (.str ([] : List UInt8)), (.int .i64 (0 : Int)), (.int .i64 x1)] 0] h110 := S.sel [1, 0] rfl
    refine loopm32_0 (X1 := fun (y538 : AV) (y539 : Int) (y540 : AV) (y541 : AV) (y542 : Int) (h543 : Heap) => a0_0 = y538 ∧ x1 = y539 ∧ AV.ptr h.n 0 0 = y540 ∧ AV.ptr h101.n 0 0 = y541 ∧ St h none' [rowC h.n [(.int .u8 (0 : Int)), (.str ([] : List UInt8)), (.int .i64 (0 : Int)), (.int .i64 (0 : Int))] 0, rowC h101.n [(.int .u8 (0 : Int)), (.str ([] : List UInt8)), (.int .i64 (0 : Int)), (.int .i64 x1)] 0] h543 ∧ y542 = res544) ?_ (loop32_0 (I := fun (m547 : Nat) (y449 : AV) (y450 : Int) (y451 : AV) (y452 : AV) (y453 : Int) (h454 : Heap) => a0_0 = y449 ∧ x1 = y450 ∧ AV.ptr h.n 0 0 = y451 ∧ AV.ptr h101.n 0 0 = y452 ∧ St h none' [rowC h.n [(.int .u8 (0 : Int)), (.str ([] : List UInt8)), (.int .i64 (0 : Int)), (.int .i64 (0 : Int))] 0, rowC h101.n [(.int .u8 (0 : Int)), (.str ([] : List UInt8)), (.int .i64 (0 : Int)), (.int .i64 x1)] 0] h454 ∧ iter (p32_l0 x0) m547 y453 = some res544) ?_ (m := n545) ?_)
    · rintro y538 y539 y540 y541 y542 h543 ⟨rfl, rfl, rfl, rfl, S, rfl⟩
      try dsimp only at hf
      refine ifP_iff.2 ⟨rfl, ?_⟩
      have S : St h none' [rowC h101.n [(.int .u8 (0 : Int)), (.str ([] : List UInt8)), (.int .i64 (0 : Int)), (.int .i64 x1)] 0, rowC h.n [(.int .u8 (0 : Int)), (.str ([] : List UInt8)), (.int .i64 (0 : Int)), (.int .i64 (0 : Int))] 0] h543 := S.sel [1, 0] rfl
      obtain ⟨h630, e631, S⟩ := S.store (off := 0) (n := 1) (x := (.int .u8 (1 : Int))) (cs' := [(.int .u8 (1 : Int)), (.str ([] : List UInt8)), (.int .i64 (0 : Int)), (.int .i64 x1)]) (Nat.le_of_ble_eq_true rfl) rfl rfl rfl
      have S : St h none' [rowC h101.n [(.int .u8 (1 : Int)), (.str ([] : List UInt8)), (.int .i64 (0 : Int)), (.int .i64 x1)] 0, rowC h.n [(.int .u8 (0 : Int)), (.str ([] : List UInt8)), (.int .i64 (0 : Int)), (.int .i64 (0 : Int))] 0] h630 := S
      refine ⟨h630, e631, ?_⟩
      have S : St h none' [rowC h.n [(.int .u8 (0 : Int)), (.str ([] : List UInt8)), (.int .i64 (0 : Int)), (.int .i64 (0 : Int))] 0, rowC h101.n [(.int .u8 (1 : Int)), (.str ([] : List UInt8)), (.int .i64 (0 : Int)), (.int .i64 x1)] 0] h630 := S.sel [1, 0] rfl
      exact hjj0 _ _ _ _ _ _ (1 : Int) (0 : Int) hf rfl rfl rfl rfl S
    · rintro m5470 y449 y450 y451 y452 y453 h454 ⟨rfl, rfl, rfl, rfl, S, hit⟩
      obtain ⟨m547, q546, rfl, hf, hk⟩ := iter_some hit
      clear hit
      unfold B32_0
      unfold p32_l0 at hf
      try dsimp only at hf
      refine ifP_iff.2 ⟨(f0_0).is, ?_⟩
      try rw [(f0_0).slen]
      intro jjj1
      have hjj1 : ∀ (b585 : Bool) (h586 : Heap), p32_j1 y453 b585 = some q546 → St h none' [rowC h.n [(.int .u8 (0 : Int)), (.str ([] : List UInt8)), (.int .i64 (0 : Int)), (.int .i64 (0 : Int))] 0, rowC h101.n [(.int .u8 (0 : Int)), (.str ([] : List UInt8)), (.int .i64 (0 : Int)), (.int .i64 x1)] 0] h586 → jjj1 b585 h586 := by
        rintro b585 h586 hf S
        unfold p32_j1 at hf
        unfold jjj1
        refine bP_intro (fun hc => ?_) (fun hc => ?_)
        · rw [if_pos (show b585 = true from hc)] at hf
          obtain rfl := Option.some.inj hf
          exact ⟨m547, Nat.lt_succ_self _, rfl, rfl, rfl, rfl, S, hk⟩
        · rw [if_neg (show ¬ (b585 = true) from by rw [show b585 = false from hc]; exact Bool.false_ne_true)] at hf
          obtain rfl := Option.some.inj hf
          obtain rfl := hk
          exact ⟨rfl, rfl, rfl, rfl, S, rfl⟩
      refine bP_intro (fun hc => ?_) (fun hc => ?_)
      · rw [if_pos (show y453 < (x0.length : Int) from of_decide_eq_true hc)] at hf
        obtain ⟨e593, he593, hf⟩ := obind hf
        obtain ⟨qe593, q0e593, q1e593⟩ := SlR.ix f0_0 he593
        have pe593 := (SlR.idx f0_0 (snap_mono S.le) he593).1
        refine ifP_iff.2 ⟨qe593, q0e593, (by first | exact q1e593 | exact (idx_lt he593).2), ?_⟩
        obtain ⟨_, cr594, Rr594, Nr594, Or594, Zr594⟩ := SlR.idx f0_0 (snap_mono S.le) he593
        obtain rfl : cr594 = [(.int .u8 e593)] := Rr594
        refine ⟨e593, Zr594 _ rfl, ?_⟩
        obtain ⟨y597, hy597, hf⟩ := obind hf
        refine ⟨_, Fz.refl _, ?_⟩
        refine (r37 (c0 := e593) hy597).mono fun v595 h596 T => ?_
        obtain ⟨rfl, T⟩ := T
        have S : St h none' [rowC h.n [(.int .u8 (0 : Int)), (.str ([] : List UInt8)), (.int .i64 (0 : Int)), (.int .i64 (0 : Int))] 0, rowC h101.n [(.int .u8 (0 : Int)), (.str ([] : List UInt8)), (.int .i64 (0 : Int)), (.int .i64 x1)] 0] h596 := S.comp T
        refine ⟨y597, rfl, ?_⟩
        intro jjj3
        have hjj3 : ∀ (b603 : Bool) (h604 : Heap), p32_j3 x0 y453 b603 = some q546 → St h none' [rowC h.n [(.int .u8 (0 : Int)), (.str ([] : List UInt8)), (.int .i64 (0 : Int)), (.int .i64 (0 : Int))] 0, rowC h101.n [(.int .u8 (0 : Int)), (.str ([] : List UInt8)), (.int .i64 (0 : Int)), (.int .i64 x1)] 0] h604 → jjj3 b603 h604 := by
          rintro b603 h604 hf S
          unfold p32_j3 at hf
          unfold jjj3
          intro jjj2
          have hjj2 : ∀ (b613 : Bool) (h614 : Heap), p32_j2 y453 b613 = some q546 → h604 = h614 → St h none' [rowC h.n [(.int .u8 (0 : Int)), (.str ([] : List UInt8)), (.int .i64 (0 : Int)), (.int .i64 (0 : Int))] 0, rowC h101.n [(.int .u8 (0 : Int)), (.str ([] : List UInt8)), (.int .i64 (0 : Int)), (.int .i64 x1)] 0] h604 → jjj2 b613 h614 := by
            rintro b613 h614 hf rfl S
            unfold p32_j2 at hf
            unfold jjj2
            exact hjj1 _ _  hf  S
          refine bP_intro (fun hc => ?_) (fun hc => ?_)
          · rw [if_pos (show b603 = true from hc)] at hf
            exact hjj2 _ _  hf rfl S
          · rw [if_neg (show ¬ (b603 = true) from by rw [show b603 = false from hc]; exact Bool.false_ne_true)] at hf
            obtain ⟨e622, he622, hf⟩ := obind hf
            obtain ⟨qe622, q0e622, q1e622⟩ := SlR.ix f0_0 he622
            have pe622 := (SlR.idx f0_0 (snap_mono S.le) he622).1
            refine ifP_iff.2 ⟨qe622, q0e622, (by first | exact q1e622 | exact (idx_lt he622).2), ?_⟩
            obtain ⟨_, cr623, Rr623, Nr623, Or623, Zr623⟩ := SlR.idx f0_0 (snap_mono S.le) he622
            obtain rfl : cr623 = [(.int .u8 e622)] := Rr623
            refine ⟨e622, Zr623 _ rfl, ?_⟩
            exact hjj2 _ _  hf rfl S
        refine bP_intro (fun hc => ?_) (fun hc => ?_)
        · rw [if_pos (show y597 = true from hc)] at hf
          exact hjj3 _ _  hf  S
        · rw [if_neg (show ¬ (y597 = true) from by rw [show y597 = false from hc]; exact Bool.false_ne_true)] at hf
          obtain ⟨e625, he625, hf⟩ := obind hf
          obtain ⟨qe625, q0e625, q1e625⟩ := SlR.ix f0_0 he625
          have pe625 := (SlR.idx f0_0 (snap_mono S.le) he625).1
          refine ifP_iff.2 ⟨qe625, q0e625, (by first | exact q1e625 | exact (idx_lt he625).2), ?_⟩
          obtain ⟨_, cr626, Rr626, Nr626, Or626, Zr626⟩ := SlR.idx f0_0 (snap_mono S.le) he625
          obtain rfl : cr626 = [(.int .u8 e625)] := Rr626
          refine ⟨e625, Zr626 _ rfl, ?_⟩
          obtain ⟨y629, hy629, hf⟩ := obind hf
          refine ⟨_, Fz.refl _, ?_⟩
          refine (r38 (c0 := e625) hy629).mono fun v627 h628 T => ?_
          obtain ⟨rfl, T⟩ := T
          have S : St h none' [rowC h.n [(.int .u8 (0 : Int)), (.str ([] : List UInt8)), (.int .i64 (0 : Int)), (.int .i64 (0 : Int))] 0, rowC h101.n [(.int .u8 (0 : Int)), (.str ([] : List UInt8)), (.int .i64 (0 : Int)), (.int .i64 x1)] 0] h628 := S.comp T
          refine ⟨y629, rfl, ?_⟩
          exact hjj3 _ _  hf  S
      · rw [if_neg (show ¬ (y453 < (x0.length : Int)) from of_decide_eq_false hc)] at hf
        exact hjj1 _ _  hf  S
    · exact ⟨rfl, rfl, rfl, rfl, S, hL⟩
  · rw [if_neg (show ¬ (y111 = true) from by rw [show y111 = false from hc]; exact Bool.false_ne_true)] at hf
    obtain ⟨y634, hy634, hf⟩ := obind hf
    refine ⟨_, Fz.refl _, ?_⟩
    refine (r38 (c0 := e107) hy634).mono fun v632 h633 T => ?_
    obtain ⟨rfl, T⟩ := T
    have S : St h none' [rowC h101.n [(.int .u8 (0 : Int)), (.str ([] : List UInt8)), (.int .i64 (0 : Int)), (.int .i64 x1)] 0, rowC h.n [(.int .u8 (0 : Int)), (.str ([] : List UInt8)), (.int .i64 (0 : Int)), (.int .i64 (0 : Int))] 0] h633 := S.comp T
    refine ⟨y634, rfl, ?_⟩
    refine bP_intro (fun hc => ?_) (fun hc => ?_)
    · rw [if_pos (show y634 = true from hc)] at hf
      obtain ⟨h635, e636, S⟩ := S.store (off := 0) (n := 1) (x := (.int .u8 (2 : Int))) (cs' := [(.int .u8 (2 : Int)), (.str ([] : List UInt8)), (.int .i64 (0 : Int)), (.int .i64 x1)]) (Nat.le_of_ble_eq_true rfl) rfl rfl rfl
      have S : St h none' [rowC h101.n [(.int .u8 (2 : Int)), (.str ([] : List UInt8)), (.int .i64 (0 : Int)), (.int .i64 x1)] 0, rowC h.n [(.int .u8 (0 : Int)), (.str ([] : List UInt8)), (.int .i64 (0 : Int)), (.int .i64 (0 : Int))] 0] h635 := S
      refine ⟨h635, e636, ?_⟩
      obtain ⟨h637, e638, S⟩ := S.store (off := 2) (n := 1) (x := (.int .i64 (IntKind.wrap .i64 (IntKind.wrap .u8 (e107 - (48 : Int)))))) (cs' := [(.int .u8 (2 : Int)), (.str ([] : List UInt8)), (.int .i64 (IntKind.wrap .i64 (IntKind.wrap .u8 (e107 - (48 : Int))))), (.int .i64 x1)]) (Nat.le_of_ble_eq_true rfl) rfl rfl rfl
      have S : St h none' [rowC h101.n [(.int .u8 (2 : Int)), (.str ([] : List UInt8)), (.int .i64 (IntKind.wrap .i64 (IntKind.wrap .u8 (e107 - (48 : Int))))), (.int .i64 x1)] 0, rowC h.n [(.int .u8 (0 : Int)), (.str ([] : List UInt8)), (.int .i64 (0 : Int)), (.int .i64 (0 : Int))] 0] h637 := S
      refine ⟨h637, e638, ?_⟩
      obtain ⟨res713, hL, hf⟩ := obind hf
      obtain ⟨n714, hL⟩ := loopC_iff.1 hL
      have S : St h none' [rowC h.n [(.int .u8 (0 : Int)), (.str ([] : List UInt8)), (.int .i64 (0 : Int)), (.int .i64 (0 : Int))] 0, rowC h101.n [(.int .u8 (2 : Int)), (.str ([] : List UInt8)), (.int .i64 (IntKind.wrap .i64 (IntKind.wrap .u8 (e107 - (48 : Int))))), (.int .i64 x1)] 0] h637 := S.sel [1, 0] rfl
      refine loopm32_1 (R := fun (y698 : AV) (y699 : Int) (y700 : AV) (y701 : Int) (y702 : AV) (y703 : Int) (h704 : Heap) => AV.ptr h.n 0 0 = y700 ∧ (3 : Int) = y701 ∧ St h none' [rowC h.n [(.int .u8 (0 : Int)), (.str ([] : List UInt8)), (.int .i64 (0 : Int)), (.int .i64 (0 : Int))] 0] h704 ∧ (.inl ()) = res713) (X3 := fun (y705 : AV) (y706 : Int) (y707 : AV) (y708 : Int) (y709 : AV) (y710 : Int) (h711 : Heap) => ∃ (c712 : Int), a0_0 = y705 ∧ x1 = y706 ∧ AV.ptr h.n 0 0 = y707 ∧ AV.ptr h101.n 0 0 = y709 ∧ St h none' [rowC h.n [(.int .u8 (0 : Int)), (.str ([] : List UInt8)), (.int .i64 (0 : Int)), (.int .i64 (0 : Int))] 0, rowC h101.n [(.int .u8 (2 : Int)), (.str ([] : List UInt8)), (.int .i64 c712), (.int .i64 x1)] 0] h711 ∧ (.inr (y710, c712)) = res713) ?_ ?_ (loop32_1 (I := fun (m716 : Nat) (y639 : AV) (y640 : Int) (y641 : AV) (y642 : Int) (y643 : AV) (y644 : Int) (h670 : Heap) => ∃ (c671 : Int), a0_0 = y639 ∧ x1 = y640 ∧ AV.ptr h.n 0 0 = y641 ∧ AV.ptr h101.n 0 0 = y643 ∧ St h none' [rowC h.n [(.int .u8 (0 : Int)), (.str ([] : List UInt8)), (.int .i64 (0 : Int)), (.int .i64 (0 : Int))] 0, rowC h101.n [(.int .u8 (2 : Int)), (.str ([] : List UInt8)), (.int .i64 c671), (.int .i64 x1)] 0] h670 ∧ iter (p32_l1 x0) m716 (y644, c671) = some res713) ?_ (m := n714) ?_)
      · rintro y698 y699 y700 y701 y702 y703 h704 ⟨rfl, rfl, S, rfl⟩
        try dsimp only at hf
        refine ⟨(.int .u8 (0 : Int)), (.str ([] : List UInt8)), (.int .i64 (0 : Int)), (.int .i64 (0 : Int)), S.rdN (.head _) (Nat.le_of_ble_eq_true rfl) rfl, ?_⟩
        obtain rfl := Option.some.inj hf
        exact ⟨rfl, S.sel [] rfl⟩
      · rintro y705 y706 y707 y708 y709 y710 h711 ⟨c712, rfl, rfl, rfl, rfl, S, rfl⟩
        try dsimp only at hf
        exact hjj0 _ _ _ _ _ _ (2 : Int) c712 hf rfl rfl rfl rfl S
      · rintro m7160 y639 y640 y641 y642 y643 y644 h670 ⟨c671, rfl, rfl, rfl, rfl, S, hit⟩
        obtain ⟨m716, q715, rfl, hf, hk⟩ := iter_some hit
        clear hit
        unfold B32_1
        unfold p32_l1 at hf
        try dsimp only at hf
        refine ifP_iff.2 ⟨(f0_0).is, ?_⟩
        try rw [(f0_0).slen]
        intro jjj4
        have hjj4 : ∀ (b722 : Bool) (h723 : Heap), p32_j4 x0 y644 c671 b722 = some q715 → St h none' [rowC h.n [(.int .u8 (0 : Int)), (.str ([] : List UInt8)), (.int .i64 (0 : Int)), (.int .i64 (0 : Int))] 0, rowC h101.n [(.int .u8 (2 : Int)), (.str ([] : List UInt8)), (.int .i64 c671), (.int .i64 x1)] 0] h723 → jjj4 b722 h723 := by
          rintro b722 h723 hf S
          unfold p32_j4 at hf
          unfold jjj4
          refine bP_intro (fun hc => ?_) (fun hc => ?_)
          · rw [if_pos (show b722 = true from hc)] at hf
            refine ifP_iff.2 ⟨rfl, ?_⟩
            refine ⟨c671, S.rd1 (.tail _ (.head _)) rfl, ?_⟩
            obtain ⟨e729, he729, hf⟩ := obind hf
            obtain ⟨qe729, q0e729, q1e729⟩ := SlR.ix f0_0 he729
            have pe729 := (SlR.idx f0_0 (snap_mono S.le) he729).1
            refine ifP_iff.2 ⟨qe729, q0e729, (by first | exact q1e729 | exact (idx_lt he729).2), ?_⟩
            obtain ⟨_, cr730, Rr730, Nr730, Or730, Zr730⟩ := SlR.idx f0_0 (snap_mono S.le) he729
            obtain rfl : cr730 = [(.int .u8 e729)] := Rr730
            refine ⟨e729, Zr730 _ rfl, ?_⟩
            refine ifP_iff.2 ⟨rfl, ?_⟩
            have S : St h none' [rowC h101.n [(.int .u8 (2 : Int)), (.str ([] : List UInt8)), (.int .i64 c671), (.int .i64 x1)] 0, rowC h.n [(.int .u8 (0 : Int)), (.str ([] : List UInt8)), (.int .i64 (0 : Int)), (.int .i64 (0 : Int))] 0] h723 := S.sel [1, 0] rfl
            obtain ⟨h731, e732, S⟩ := S.store (off := 2) (n := 1) (x := (.int .i64 (IntKind.wrap .i64 ((IntKind.wrap .i64 ((10 : Int) * c671)) + (IntKind.wrap .i64 (IntKind.wrap .u8 (e729 - (48 : Int)))))))) (cs' := [(.int .u8 (2 : Int)), (.str ([] : List UInt8)), (.int .i64 (IntKind.wrap .i64 ((IntKind.wrap .i64 ((10 : Int) * c671)) + (IntKind.wrap .i64 (IntKind.wrap .u8 (e729 - (48 : Int))))))), (.int .i64 x1)]) (Nat.le_of_ble_eq_true rfl) rfl rfl rfl
            have S : St h none' [rowC h101.n [(.int .u8 (2 : Int)), (.str ([] : List UInt8)), (.int .i64 (IntKind.wrap .i64 ((IntKind.wrap .i64 ((10 : Int) * c671)) + (IntKind.wrap .i64 (IntKind.wrap .u8 (e729 - (48 : Int))))))), (.int .i64 x1)] 0, rowC h.n [(.int .u8 (0 : Int)), (.str ([] : List UInt8)), (.int .i64 (0 : Int)), (.int .i64 (0 : Int))] 0] h731 := S
            refine ⟨h731, e732, ?_⟩
            refine ifP_iff.2 ⟨rfl, ?_⟩
            refine ⟨(IntKind.wrap .i64 ((IntKind.wrap .i64 ((10 : Int) * c671)) + (IntKind.wrap .i64 (IntKind.wrap .u8 (e729 - (48 : Int)))))), S.rd1 (.head _) rfl, ?_⟩
            refine bP_intro (fun hc => ?_) (fun hc => ?_)
            · rw [if_pos (show (1125899906842624 : Int) < (IntKind.wrap .i64 ((IntKind.wrap .i64 ((10 : Int) * c671)) + (IntKind.wrap .i64 (IntKind.wrap .u8 (e729 - (48 : Int)))))) from of_decide_eq_true hc)] at hf
              have S : St h none' [rowC h.n [(.int .u8 (0 : Int)), (.str ([] : List UInt8)), (.int .i64 (0 : Int)), (.int .i64 (0 : Int))] 0, rowC h101.n [(.int .u8 (2 : Int)), (.str ([] : List UInt8)), (.int .i64 (IntKind.wrap .i64 ((IntKind.wrap .i64 ((10 : Int) * c671)) + (IntKind.wrap .i64 (IntKind.wrap .u8 (e729 - (48 : Int))))))), (.int .i64 x1)] 0] h731 := S.sel [1, 0] rfl
              obtain ⟨h733, e734, S⟩ := S.store (off := 0) (n := 4) (x := (.agg [(.int .u8 (0 : Int)), (.str ([] : List UInt8)), (.int .i64 (0 : Int)), (.int .i64 (0 : Int))])) (cs' := [(.int .u8 (0 : Int)), (.str ([] : List UInt8)), (.int .i64 (0 : Int)), (.int .i64 (0 : Int))]) (Nat.le_of_ble_eq_true rfl) rfl rfl rfl
              have S : St h none' [rowC h.n [(.int .u8 (0 : Int)), (.str ([] : List UInt8)), (.int .i64 (0 : Int)), (.int .i64 (0 : Int))] 0, rowC h101.n [(.int .u8 (2 : Int)), (.str ([] : List UInt8)), (.int .i64 (IntKind.wrap .i64 ((IntKind.wrap .i64 ((10 : Int) * c671)) + (IntKind.wrap .i64 (IntKind.wrap .u8 (e729 - (48 : Int))))))), (.int .i64 x1)] 0] h733 := S
              refine ⟨h733, e734, ?_⟩
              have S : St h none' [rowC h.n [(.int .u8 (0 : Int)), (.str ([] : List UInt8)), (.int .i64 (0 : Int)), (.int .i64 (0 : Int))] 0] h733 := S.sel [0] rfl
              obtain rfl := Option.some.inj hf
              obtain rfl := hk
              exact ⟨rfl, rfl, S, rfl⟩
            · rw [if_neg (show ¬ ((1125899906842624 : Int) < (IntKind.wrap .i64 ((IntKind.wrap .i64 ((10 : Int) * c671)) + (IntKind.wrap .i64 (IntKind.wrap .u8 (e729 - (48 : Int))))))) from of_decide_eq_false hc)] at hf
              have S : St h none' [rowC h.n [(.int .u8 (0 : Int)), (.str ([] : List UInt8)), (.int .i64 (0 : Int)), (.int .i64 (0 : Int))] 0, rowC h101.n [(.int .u8 (2 : Int)), (.str ([] : List UInt8)), (.int .i64 (IntKind.wrap .i64 ((IntKind.wrap .i64 ((10 : Int) * c671)) + (IntKind.wrap .i64 (IntKind.wrap .u8 (e729 - (48 : Int))))))), (.int .i64 x1)] 0] h731 := S.sel [1, 0] rfl
              obtain rfl := Option.some.inj hf
              exact ⟨m716, Nat.lt_succ_self _, (IntKind.wrap .i64 ((IntKind.wrap .i64 ((10 : Int) * c671)) + (IntKind.wrap .i64 (IntKind.wrap .u8 (e729 - (48 : Int)))))), rfl, rfl, rfl, rfl, S, hk⟩
          · rw [if_neg (show ¬ (b722 = true) from by rw [show b722 = false from hc]; exact Bool.false_ne_true)] at hf
            obtain rfl := Option.some.inj hf
            obtain rfl := hk
            exact ⟨c671, rfl, rfl, rfl, rfl, S, rfl⟩
        refine bP_intro (fun hc => ?_) (fun hc => ?_)
        · rw [if_pos (show y644 < (x0.length : Int) from of_decide_eq_true hc)] at hf
          obtain ⟨e736, he736, hf⟩ := obind hf
          obtain ⟨qe736, q0e736, q1e736⟩ := SlR.ix f0_0 he736
          have pe736 := (SlR.idx f0_0 (snap_mono S.le) he736).1
          refine ifP_iff.2 ⟨qe736, q0e736, (by first | exact q1e736 | exact (idx_lt he736).2), ?_⟩
          obtain ⟨_, cr737, Rr737, Nr737, Or737, Zr737⟩ := SlR.idx f0_0 (snap_mono S.le) he736
          obtain rfl : cr737 = [(.int .u8 e736)] := Rr737
          refine ⟨e736, Zr737 _ rfl, ?_⟩
          obtain ⟨y740, hy740, hf⟩ := obind hf
          refine ⟨_, Fz.refl _, ?_⟩
          refine (r38 (c0 := e736) hy740).mono fun v738 h739 T => ?_
          obtain ⟨rfl, T⟩ := T
          have S : St h none' [rowC h.n [(.int .u8 (0 : Int)), (.str ([] : List UInt8)), (.int .i64 (0 : Int)), (.int .i64 (0 : Int))] 0, rowC h101.n [(.int .u8 (2 : Int)), (.str ([] : List UInt8)), (.int .i64 c671), (.int .i64 x1)] 0] h739 := S.comp T
          refine ⟨y740, rfl, ?_⟩
          exact hjj4 _ _  hf  S
        · rw [if_neg (show ¬ (y644 < (x0.length : Int)) from of_decide_eq_false hc)] at hf
          exact hjj4 _ _  hf  S
      · exact ⟨(IntKind.wrap .i64 (IntKind.wrap .u8 (e107 - (48 : Int)))), rfl, rfl, rfl, rfl, S, hL⟩
    · rw [if_neg (show ¬ (y634 = true) from by rw [show y634 = false from hc]; exact Bool.false_ne_true)] at hf
      intro jjj6
      have hjj6 : ∀ (b741 : Bool) (h742 : Heap), p32_j6 x0 x1 e107 b741 = some r → h633 = h742 → St h none' [rowC h.n [(.int .u8 (0 : Int)), (.str ([] : List UInt8)), (.int .i64 (0 : Int)), (.int .i64 (0 : Int))] 0, rowC h101.n [(.int .u8 (0 : Int)), (.str ([] : List UInt8)), (.int .i64 (0 : Int)), (.int .i64 x1)] 0] h633 → jjj6 b741 h742 := by
        rintro b741 h742 hf rfl S
        unfold p32_j6 at hf
        unfold jjj6
        intro jjj5
        have hjj5 : ∀ (b751 : Bool) (h752 : Heap), p32_j5 x0 x1 e107 b751 = some r → h633 = h752 → St h none' [rowC h.n [(.int .u8 (0 : Int)), (.str ([] : List UInt8)), (.int .i64 (0 : Int)), (.int .i64 (0 : Int))] 0, rowC h101.n [(.int .u8 (0 : Int)), (.str ([] : List UInt8)), (.int .i64 (0 : Int)), (.int .i64 x1)] 0] h633 → jjj5 b751 h752 := by
          rintro b751 h752 hf rfl S
          unfold p32_j5 at hf
          unfold jjj5
          refine bP_intro (fun hc => ?_) (fun hc => ?_)
          · rw [if_pos (show b751 = true from hc)] at hf
            refine ifP_iff.2 ⟨rfl, ?_⟩
            have S : St h none' [rowC h101.n [(.int .u8 (0 : Int)), (.str ([] : List UInt8)), (.int .i64 (0 : Int)), (.int .i64 x1)] 0, rowC h.n [(.int .u8 (0 : Int)), (.str ([] : List UInt8)), (.int .i64 (0 : Int)), (.int .i64 (0 : Int))] 0] h633 := S.sel [1, 0] rfl
            obtain ⟨h759, e760, S⟩ := S.store (off := 0) (n := 1) (x := (.int .u8 (3 : Int))) (cs' := [(.int .u8 (3 : Int)), (.str ([] : List UInt8)), (.int .i64 (0 : Int)), (.int .i64 x1)]) (Nat.le_of_ble_eq_true rfl) rfl rfl rfl
            have S : St h none' [rowC h101.n [(.int .u8 (3 : Int)), (.str ([] : List UInt8)), (.int .i64 (0 : Int)), (.int .i64 x1)] 0, rowC h.n [(.int .u8 (0 : Int)), (.str ([] : List UInt8)), (.int .i64 (0 : Int)), (.int .i64 (0 : Int))] 0] h759 := S
            refine ⟨h759, e760, ?_⟩
            have S : St h none' [rowC h.n [(.int .u8 (0 : Int)), (.str ([] : List UInt8)), (.int .i64 (0 : Int)), (.int .i64 (0 : Int))] 0, rowC h101.n [(.int .u8 (3 : Int)), (.str ([] : List UInt8)), (.int .i64 (0 : Int)), (.int .i64 x1)] 0] h759 := S.sel [1, 0] rfl
            exact hjj0 _ _ _ _ _ _ (3 : Int) (0 : Int) hf rfl rfl rfl rfl S
          · rw [if_neg (show ¬ (b751 = true) from by rw [show b751 = false from hc]; exact Bool.false_ne_true)] at hf
            obtain ⟨y763, hy763, hf⟩ := obind hf
            refine ⟨_, Fz.refl _, ?_⟩
            refine (r48 (s0 := ([59, 58, 44, 42, 33, 126, 64, 61] : List UInt8)) (c1 := e107) hy763).mono fun v761 h762 T => ?_
            obtain ⟨rfl, T⟩ := T
            have S : St h none' [rowC h.n [(.int .u8 (0 : Int)), (.str ([] : List UInt8)), (.int .i64 (0 : Int)), (.int .i64 (0 : Int))] 0, rowC h101.n [(.int .u8 (0 : Int)), (.str ([] : List UInt8)), (.int .i64 (0 : Int)), (.int .i64 x1)] 0] h762 := S.comp T
            refine ⟨y763, rfl, ?_⟩
            refine bP_intro (fun hc => ?_) (fun hc => ?_)
            · rw [if_pos (show (0 : Int) ≤ y763 from of_decide_eq_true hc)] at hf
              refine ifP_iff.2 ⟨rfl, ?_⟩
              have S : St h none' [rowC h101.n [(.int .u8 (0 : Int)), (.str ([] : List UInt8)), (.int .i64 (0 : Int)), (.int .i64 x1)] 0, rowC h.n [(.int .u8 (0 : Int)), (.str ([] : List UInt8)), (.int .i64 (0 : Int)), (.int .i64 (0 : Int))] 0] h762 := S.sel [1, 0] rfl
              obtain ⟨h764, e765, S⟩ := S.store (off := 0) (n := 1) (x := (.int .u8 (3 : Int))) (cs' := [(.int .u8 (3 : Int)), (.str ([] : List UInt8)), (.int .i64 (0 : Int)), (.int .i64 x1)]) (Nat.le_of_ble_eq_true rfl) rfl rfl rfl
              have S : St h none' [rowC h101.n [(.int .u8 (3 : Int)), (.str ([] : List UInt8)), (.int .i64 (0 : Int)), (.int .i64 x1)] 0, rowC h.n [(.int .u8 (0 : Int)), (.str ([] : List UInt8)), (.int .i64 (0 : Int)), (.int .i64 (0 : Int))] 0] h764 := S
              refine ⟨h764, e765, ?_⟩
              have S : St h none' [rowC h.n [(.int .u8 (0 : Int)), (.str ([] : List UInt8)), (.int .i64 (0 : Int)), (.int .i64 (0 : Int))] 0, rowC h101.n [(.int .u8 (3 : Int)), (.str ([] : List UInt8)), (.int .i64 (0 : Int)), (.int .i64 x1)] 0] h764 := S.sel [1, 0] rfl
              exact hjj0 _ _ _ _ _ _ (3 : Int) (0 : Int) hf rfl rfl rfl rfl S
            · rw [if_neg (show ¬ ((0 : Int) ≤ y763) from of_decide_eq_false hc)] at hf
              obtain ⟨h766, e767, S⟩ := S.store (off := 0) (n := 4) (x := (.agg [(.int .u8 (0 : Int)), (.str ([] : List UInt8)), (.int .i64 (0 : Int)), (.int .i64 (0 : Int))])) (cs' := [(.int .u8 (0 : Int)), (.str ([] : List UInt8)), (.int .i64 (0 : Int)), (.int .i64 (0 : Int))]) (Nat.le_of_ble_eq_true rfl) rfl rfl rfl
              have S : St h none' [rowC h.n [(.int .u8 (0 : Int)), (.str ([] : List UInt8)), (.int .i64 (0 : Int)), (.int .i64 (0 : Int))] 0, rowC h101.n [(.int .u8 (0 : Int)), (.str ([] : List UInt8)), (.int .i64 (0 : Int)), (.int .i64 x1)] 0] h766 := S
              refine ⟨h766, e767, ?_⟩
              refine ⟨(.int .u8 (0 : Int)), (.str ([] : List UInt8)), (.int .i64 (0 : Int)), (.int .i64 (0 : Int)), S.rdN (.head _) (Nat.le_of_ble_eq_true rfl) rfl, ?_⟩
              obtain rfl := Option.some.inj hf
              exact ⟨rfl, S.sel [] rfl⟩
        refine bP_intro (fun hc => ?_) (fun hc => ?_)
        · rw [if_pos (show b741 = true from hc)] at hf
          obtain ⟨e769, he769, hf⟩ := obind hf
          obtain ⟨qe769, q0e769, q1e769⟩ := SlR.ix f0_0 he769
          have pe769 := (SlR.idx f0_0 (snap_mono S.le) he769).1
          refine ifP_iff.2 ⟨qe769, q0e769, (by first | exact q1e769 | exact (idx_lt he769).2), ?_⟩
          obtain ⟨_, cr770, Rr770, Nr770, Or770, Zr770⟩ := SlR.idx f0_0 (snap_mono S.le) he769
          obtain rfl : cr770 = [(.int .u8 e769)] := Rr770
          refine ⟨e769, Zr770 _ rfl, ?_⟩
          exact hjj5 _ _  hf rfl S
        · rw [if_neg (show ¬ (b741 = true) from by rw [show b741 = false from hc]; exact Bool.false_ne_true)] at hf
          exact hjj5 _ _  hf rfl S
      refine bP_intro (fun hc => ?_) (fun hc => ?_)
      · rw [if_pos (show e107 = (45 : Int) from of_decide_eq_true hc)] at hf
        refine ifP_iff.2 ⟨(f0_0).is, ?_⟩
        try rw [(f0_0).slen]
        have S : St h none' [rowC h.n [(.int .u8 (0 : Int)), (.str ([] : List UInt8)), (.int .i64 (0 : Int)), (.int .i64 (0 : Int))] 0, rowC h101.n [(.int .u8 (0 : Int)), (.str ([] : List UInt8)), (.int .i64 (0 : Int)), (.int .i64 x1)] 0] h633 := S.sel [1, 0] rfl
        exact hjj6 _ _  hf rfl S
      · rw [if_neg (show ¬ (e107 = (45 : Int)) from of_decide_eq_false hc)] at hf
        have S : St h none' [rowC h.n [(.int .u8 (0 : Int)), (.str ([] : List UInt8)), (.int .i64 (0 : Int)), (.int .i64 (0 : Int))] 0, rowC h101.n [(.int .u8 (0 : Int)), (.str ([] : List UInt8)), (.int .i64 (0 : Int)), (.int .i64 x1)] 0] h633 := S.sel [1, 0] rfl
        exact hjj6 _ _  hf rfl S
/-! 21: marblerun/lex.Place -/
noncomputable def p21 (p0 : List Int) (at1 : Int) : Option (Int × Int) := (slc p0 (0 : Int) (if (p0.length : Int) < (if at1 < (0 : Int) then (0 : Int) else at1) then (p0.length : Int) else (if at1 < (0 : Int) then (0 : Int) else at1))).bind fun y101 => (p35 (y101.map u8) ([10] : List UInt8)).bind fun y104 => (p36 (y101.map u8) (10 : Int)).bind fun y107 => some ((IntKind.wrap .i64 (y104 + (1 : Int))), (IntKind.wrap .i64 ((if (p0.length : Int) < (if at1 < (0 : Int) then (0 : Int) else at1) then (p0.length : Int) else (if at1 < (0 : Int) then (0 : Int) else at1)) - y107)))
theorem r21 {h : Heap} {a0_0 : AV} {p0 : List Int} {at1 : Int} (f0_0 : SlR (rI .u8) (Snap h) a0_0 p0) {r : Int × Int} (hf : p21 p0 at1 = some r) : ZCalls F 21 [a0_0, (.int .i64 at1)] h fun v h' => v = .tuple [.int .i64 r.1, .int .i64 r.2] ∧ St h none' [] h' := by
  refine w21 ?_
  unfold W21
  unfold p21 at hf
  have S : St h none' [] h := St.refl _ _
  refine ifP_iff.2 ⟨(f0_0).is, ?_⟩
  try rw [(f0_0).slen]
  obtain ⟨y101, hy101, hf⟩ := obind hf
  have ey101 := (sliceSl_ev01 (k := .i64) f0_0 hy101)
  have fy101 : SlR (rI .u8) (Snap h) (a0_0.sub 1 ((0 : Int) : Int).toNat ((if (p0.length : Int) < (if at1 < (0 : Int) then (0 : Int) else at1) then (p0.length : Int) else (if at1 < (0 : Int) then (0 : Int) else at1)) : Int).toNat) y101 := slc_eq hy101 ▸ SlR.sub f0_0 (slc_le hy101).1 (slc_le hy101).2
  refine oP_intro _ ey101 ?_
  refine ⟨_, bytes_ev (SlR.mono (snap_mono S.le) fy101), (y101.map u8), rfl, ?_⟩
  obtain ⟨y104, hy104, hf⟩ := obind hf
  refine ⟨_, Fz.refl _, ?_⟩
  refine (r35 (s0 := (y101.map u8)) (substr1 := ([10] : List UInt8)) hy104).mono fun v102 h103 T => ?_
  obtain ⟨rfl, T⟩ := T
  have S : St h none' [] h103 := S.comp T
  refine ⟨y104, rfl, ?_⟩
  obtain ⟨y107, hy107, hf⟩ := obind hf
  refine ⟨_, Fz.refl _, ?_⟩
  refine (r36 (s0 := (y101.map u8)) (c1 := (10 : Int)) hy107).mono fun v105 h106 T => ?_
  obtain ⟨rfl, T⟩ := T
  have S : St h none' [] h106 := S.comp T
  refine ⟨y107, rfl, ?_⟩
  obtain rfl := Option.some.inj hf
  exact ⟨rfl, S.sel [] rfl⟩
/-! 22: marblerun/lex.Fault -/
noncomputable def p22 (p0 : List Int) (e1 : Int) (at2 : Int) : Option TFault := (p21 p0 at2).bind fun u105 => some (TFault.mk e1 at2 u105.1 u105.2)
theorem r22 {h : Heap} {a0_0 : AV} {p0 : List Int} {e1 : Int} {at2 : Int} (f0_0 : SlR (rI .u8) (Snap h) a0_0 p0) {r : TFault} (hf : p22 p0 e1 at2 = some r) : ZCalls F 22 [a0_0, (.int .i64 e1), (.int .i64 at2)] h fun v h' => v = .agg [.int .i64 r.Err, .int .i64 r.At, .int .i64 r.Line, .int .i64 r.Col] ∧ St h none' [] h' := by
  refine w22 ?_
  unfold W22
  unfold p22 at hf
  have S : St h none' [] h := St.refl _ _
  intro h101
  have S : St h none' [rowC h.n [(.int .i64 (0 : Int)), (.int .i64 (0 : Int)), (.int .i64 (0 : Int)), (.int .i64 (0 : Int))] 0] h101 := S.pushRow [(.int .i64 (0 : Int)), (.int .i64 (0 : Int)), (.int .i64 (0 : Int)), (.int .i64 (0 : Int))]
  obtain ⟨u105, hu105, hf⟩ := obind hf
  refine ⟨_, Fz.refl _, ?_⟩
  refine (r21 (p0 := p0) (at1 := at2) (f0_0 := (SlR.mono (snap_mono S.le) f0_0)) hu105).mono fun v103 h104 T => ?_
  obtain ⟨rfl, T⟩ := T
  have S : St h none' [rowC h.n [(.int .i64 (0 : Int)), (.int .i64 (0 : Int)), (.int .i64 (0 : Int)), (.int .i64 (0 : Int))] 0] h104 := S.comp T
  refine oP_intro (.int .i64 u105.1) rfl ⟨u105.1, rfl, ?_⟩
  refine oP_intro (.int .i64 u105.2) rfl ⟨u105.2, rfl, ?_⟩
  obtain ⟨h106, e107, S⟩ := S.store (off := 0) (n := 4) (x := (.agg [(.int .i64 e1), (.int .i64 at2), (.int .i64 u105.1), (.int .i64 u105.2)])) (cs' := [(.int .i64 e1), (.int .i64 at2), (.int .i64 u105.1), (.int .i64 u105.2)]) (Nat.le_of_ble_eq_true rfl) rfl rfl rfl
  have S : St h none' [rowC h.n [(.int .i64 e1), (.int .i64 at2), (.int .i64 u105.1), (.int .i64 u105.2)] 0] h106 := S
  refine ⟨h106, e107, ?_⟩
  refine ⟨(.int .i64 e1), (.int .i64 at2), (.int .i64 u105.1), (.int .i64 u105.2), S.rdN (.head _) (Nat.le_of_ble_eq_true rfl) rfl, ?_⟩
  obtain rfl := Option.some.inj hf
  exact ⟨rfl, S.sel [] rfl⟩
/-! 18: marblerun/lex.Tokens -/
noncomputable def p18_l0 (p0 : List Int) (st : Int × (List TTokenlex)) : Option ((Int × (List TTokenlex)) ⊕ ((List TTokenlex) × Int × Int × Int × Int)) := match st with | (at107, l110) => (p31 p0 at107).bind fun y161 => if y161 = (p0.length : Int) then ((app 40 l110 [(TTokenlex.mk (0 : Int) ([] : List UInt8) (0 : Int) y161)]).bind fun l166 => some (.inr (l166, (0 : Int), (0 : Int), (0 : Int), (0 : Int)))) else ((p32 p0 y161).bind fun u173 => if (!decide (u173.2 = (0 : Int))) = true then ((p22 p0 u173.2 y161).bind fun y180 => some (.inr ([], y180.Err, y180.At, y180.Line, y180.Col))) else ((app 40 l110 [u173.1]).bind fun l188 => some (.inl ((IntKind.wrap .i64 (y161 + (u173.1.Text.length : Int))), l188))))
noncomputable def p18 (p0 : List Int) : Option ((List TTokenlex) × TFault) := (loopC (p18_l0 p0) ((0 : Int), [])).bind fun res155 => (match res155 with | (y150, c151, c152, c153, c154) => some (y150, (TFault.mk c151 c152 c153 c154)))
theorem r18 {h : Heap} {a0_0 : AV} {p0 : List Int} (f0_0 : SlR (rI .u8) (Snap h) a0_0 p0) {r : (List TTokenlex) × TFault} (hf : p18 p0 = some r) : ZCalls F 18 [a0_0] h fun v h' => ∃ w0, v = .tuple [w0, .agg [.int .i64 r.2.Err, .int .i64 r.2.At, .int .i64 r.2.Line, .int .i64 r.2.Col]] ∧ St h none' [own (oSl (fz rTokenlex)) [w0] r.1] h' := by
  refine w18 ?_
  unfold W18
  unfold p18 at hf
  have S : St h none' [] h := St.refl _ _
  intro h101
  have S : St h none' [rowC h.n [(.int .i64 (0 : Int)), (.int .i64 (0 : Int)), (.int .i64 (0 : Int)), (.int .i64 (0 : Int))] 0] h101 := S.pushRow [(.int .i64 (0 : Int)), (.int .i64 (0 : Int)), (.int .i64 (0 : Int)), (.int .i64 (0 : Int))]
  obtain ⟨res155, hL, hf⟩ := obind hf
  obtain ⟨n156, hL⟩ := loopC_iff.1 hL
  have S : St h none' [own (oSl (fz rTokenlex)) [.nilSlice] [], rowC h.n [(.int .i64 (0 : Int)), (.int .i64 (0 : Int)), (.int .i64 (0 : Int)), (.int .i64 (0 : Int))] 0] h101 := S.addE (oSl_nil _ _)
  have S : St h none' [rowC h.n [(.int .i64 (0 : Int)), (.int .i64 (0 : Int)), (.int .i64 (0 : Int)), (.int .i64 (0 : Int))] 0, own (oSl (fz rTokenlex)) [.nilSlice] []] h101 := S.sel [1, 0] rfl
  refine loopm18_0 (R := fun (p144 : AV) (y145 : AV) (y146 : AV) (l147 : AV) (at148 : Int) (h149 : Heap) => ∃ (y150 : List TTokenlex), ∃ (c151 : Int), ∃ (c152 : Int), ∃ (c153 : Int), ∃ (c154 : Int), AV.ptr h.n 0 0 = y146 ∧ St h none' [own (oSl (fz rTokenlex)) [y145] y150, rowC h.n [(.int .i64 c151), (.int .i64 c152), (.int .i64 c153), (.int .i64 c154)] 0] h149 ∧ (y150, c151, c152, c153, c154) = res155) ?_ (loop18_0 (I := fun (m158 : Nat) (p103 : AV) (y104 : AV) (y105 : AV) (l106 : AV) (at107 : Int) (h108 : Heap) => ∃ (l110 : List TTokenlex), a0_0 = p103 ∧ AV.ptr h.n 0 0 = y105 ∧ St h none' [rowC h.n [(.int .i64 (0 : Int)), (.int .i64 (0 : Int)), (.int .i64 (0 : Int)), (.int .i64 (0 : Int))] 0, own (oSl (fz rTokenlex)) [l106] l110] h108 ∧ iter (p18_l0 p0) m158 (at107, l110) = some res155) ?_ (m := n156) ?_)
  · rintro p144 y145 y146 l147 at148 h149 ⟨y150, c151, c152, c153, c154, rfl, S, rfl⟩
    try dsimp only at hf
    refine ⟨(.int .i64 c151), (.int .i64 c152), (.int .i64 c153), (.int .i64 c154), S.rdN (.tail _ (.head _)) (Nat.le_of_ble_eq_true rfl) rfl, ?_⟩
    obtain rfl := Option.some.inj hf
    exact ⟨y145, rfl, S.sel [0] rfl⟩
  · rintro m1580 p103 y104 y105 l106 at107 h108 ⟨l110, rfl, rfl, S, hit⟩
    obtain ⟨m158, q157, rfl, hf, hk⟩ := iter_some hit
    clear hit
    unfold B18_0
    unfold p18_l0 at hf
    try dsimp only at hf
    obtain ⟨y161, hy161, hf⟩ := obind hf
    refine ⟨_, Fz.refl _, ?_⟩
    refine (r31 (p0 := p0) (at1 := at107) (f0_0 := (SlR.mono (snap_mono S.le) f0_0)) hy161).mono fun v159 h160 T => ?_
    obtain ⟨rfl, T⟩ := T
    have S : St h none' [rowC h.n [(.int .i64 (0 : Int)), (.int .i64 (0 : Int)), (.int .i64 (0 : Int)), (.int .i64 (0 : Int))] 0, own (oSl (fz rTokenlex)) [l106] l110] h160 := S.comp T
    refine ⟨y161, rfl, ?_⟩
    refine ifP_iff.2 ⟨(f0_0).is, ?_⟩
    try rw [(f0_0).slen]
    refine bP_intro (fun hc => ?_) (fun hc => ?_)
    · rw [if_pos (show y161 = (p0.length : Int) from of_decide_eq_true hc)] at hf
      intro h162
      have S : St h none' [rowC h160.n [(.int .u8 (0 : Int)), (.str ([] : List UInt8)), (.int .i64 (0 : Int)), (.int .i64 y161)] 0, rowC h.n [(.int .i64 (0 : Int)), (.int .i64 (0 : Int)), (.int .i64 (0 : Int)), (.int .i64 (0 : Int))] 0, own (oSl (fz rTokenlex)) [l106] l110] h162 := S.pushRow [(.int .u8 (0 : Int)), (.str ([] : List UInt8)), (.int .i64 (0 : Int)), (.int .i64 y161)]
      obtain ⟨l166, hl166, hf⟩ := obind hf
      have S : St h none' [own (fz rTokenlex) [(.int .u8 (0 : Int)), (.str ([] : List UInt8)), (.int .i64 (0 : Int)), (.int .i64 y161)] (TTokenlex.mk (0 : Int) ([] : List UInt8) (0 : Int) y161), rowC h160.n [(.int .u8 (0 : Int)), (.str ([] : List UInt8)), (.int .i64 (0 : Int)), (.int .i64 y161)] 0, rowC h.n [(.int .i64 (0 : Int)), (.int .i64 (0 : Int)), (.int .i64 (0 : Int)), (.int .i64 (0 : Int))] 0, own (oSl (fz rTokenlex)) [l106] l110] h162 := S.add (r := rTokenlex) (x := (TTokenlex.mk (0 : Int) ([] : List UInt8) (0 : Int) y161)) (rTokenlex_mk (x := (TTokenlex.mk (0 : Int) ([] : List UInt8) (0 : Int) y161)))
      have S : St h none' [own (oSl (fz rTokenlex)) [l106] l110, own (fz rTokenlex) [(.int .u8 (0 : Int)), (.str ([] : List UInt8)), (.int .i64 (0 : Int)), (.int .i64 y161)] (TTokenlex.mk (0 : Int) ([] : List UInt8) (0 : Int) y161), rowC h160.n [(.int .u8 (0 : Int)), (.str ([] : List UInt8)), (.int .i64 (0 : Int)), (.int .i64 y161)] 0, rowC h.n [(.int .i64 (0 : Int)), (.int .i64 (0 : Int)), (.int .i64 (0 : Int)), (.int .i64 (0 : Int))] 0] h162 := S.sel [3, 0, 1, 2] rfl
      have ml166 := app_some hl166
      obtain ⟨v165, h164, e167, S⟩ := St.app1R (r := (fz rTokenlex)) (b := 40) S ml166.1
      have S : St h none' [own (oSl (fz rTokenlex)) [v165] l166, rowC h.n [(.int .i64 (0 : Int)), (.int .i64 (0 : Int)), (.int .i64 (0 : Int)), (.int .i64 (0 : Int))] 0] h164 := S.cast (by rw [← ml166.2] <;> rfl)
      refine ⟨v165, h164, e167, ?_⟩
      have S : St h none' [rowC h.n [(.int .i64 (0 : Int)), (.int .i64 (0 : Int)), (.int .i64 (0 : Int)), (.int .i64 (0 : Int))] 0, own (oSl (fz rTokenlex)) [v165] l166] h164 := S.sel [1, 0] rfl
      obtain ⟨h169, e170, S⟩ := S.store (off := 0) (n := 4) (x := (.agg [(.int .i64 (0 : Int)), (.int .i64 (0 : Int)), (.int .i64 (0 : Int)), (.int .i64 (0 : Int))])) (cs' := [(.int .i64 (0 : Int)), (.int .i64 (0 : Int)), (.int .i64 (0 : Int)), (.int .i64 (0 : Int))]) (Nat.le_of_ble_eq_true rfl) rfl rfl rfl
      have S : St h none' [rowC h.n [(.int .i64 (0 : Int)), (.int .i64 (0 : Int)), (.int .i64 (0 : Int)), (.int .i64 (0 : Int))] 0, own (oSl (fz rTokenlex)) [v165] l166] h169 := S
      refine ⟨h169, e170, ?_⟩
      have S : St h none' [own (oSl (fz rTokenlex)) [v165] l166, rowC h.n [(.int .i64 (0 : Int)), (.int .i64 (0 : Int)), (.int .i64 (0 : Int)), (.int .i64 (0 : Int))] 0] h169 := S.sel [1, 0] rfl
      obtain rfl := Option.some.inj hf
      obtain rfl := hk
      exact ⟨l166, (0 : Int), (0 : Int), (0 : Int), (0 : Int), rfl, S, rfl⟩
    · rw [if_neg (show ¬ (y161 = (p0.length : Int)) from of_decide_eq_false hc)] at hf
      obtain ⟨u173, hu173, hf⟩ := obind hf
      refine ⟨_, Fz.refl _, ?_⟩
      refine (r32 (x0 := p0) (x1 := y161) (f0_0 := (SlR.mono (snap_mono S.le) f0_0)) hu173).mono fun v171 h172 T => ?_
      obtain ⟨rfl, T⟩ := T
      have S : St h none' [rowC h.n [(.int .i64 (0 : Int)), (.int .i64 (0 : Int)), (.int .i64 (0 : Int)), (.int .i64 (0 : Int))] 0, own (oSl (fz rTokenlex)) [l106] l110] h172 := S.comp T
      refine oP_intro (.agg [(.int .u8 u173.1.Kind), (.str u173.1.Text), (.int .i64 u173.1.N), (.int .i64 u173.1.At)]) rfl ?_
      refine oP_intro (.int .i64 u173.2) rfl ⟨u173.2, rfl, ?_⟩
      intro h174
      have S : St h none' [rowC h172.n [(.int .u8 (0 : Int)), (.str ([] : List UInt8)), (.int .i64 (0 : Int)), (.int .i64 (0 : Int))] 0, rowC h.n [(.int .i64 (0 : Int)), (.int .i64 (0 : Int)), (.int .i64 (0 : Int)), (.int .i64 (0 : Int))] 0, own (oSl (fz rTokenlex)) [l106] l110] h174 := S.pushRow [(.int .u8 (0 : Int)), (.str ([] : List UInt8)), (.int .i64 (0 : Int)), (.int .i64 (0 : Int))]
      obtain ⟨h176, e177, S⟩ := S.store (off := 0) (n := 4) (x := (.agg [(.int .u8 u173.1.Kind), (.str u173.1.Text), (.int .i64 u173.1.N), (.int .i64 u173.1.At)])) (cs' := [(.int .u8 u173.1.Kind), (.str u173.1.Text), (.int .i64 u173.1.N), (.int .i64 u173.1.At)]) (Nat.le_of_ble_eq_true rfl) rfl rfl rfl
      have S : St h none' [rowC h172.n [(.int .u8 u173.1.Kind), (.str u173.1.Text), (.int .i64 u173.1.N), (.int .i64 u173.1.At)] 0, rowC h.n [(.int .i64 (0 : Int)), (.int .i64 (0 : Int)), (.int .i64 (0 : Int)), (.int .i64 (0 : Int))] 0, own (oSl (fz rTokenlex)) [l106] l110] h176 := S
      refine ⟨h176, e177, ?_⟩
      refine bP_intro (fun hc => ?_) (fun hc => ?_)
      · rw [if_pos (show (!decide (u173.2 = (0 : Int))) = true from hc)] at hf
        obtain ⟨y180, hy180, hf⟩ := obind hf
        refine ⟨_, Fz.refl _, ?_⟩
        refine (r22 (p0 := p0) (e1 := u173.2) (at2 := y161) (f0_0 := (SlR.mono (snap_mono S.le) f0_0)) hy180).mono fun v178 h179 T => ?_
        obtain ⟨rfl, T⟩ := T
        have S : St h none' [rowC h172.n [(.int .u8 u173.1.Kind), (.str u173.1.Text), (.int .i64 u173.1.N), (.int .i64 u173.1.At)] 0, rowC h.n [(.int .i64 (0 : Int)), (.int .i64 (0 : Int)), (.int .i64 (0 : Int)), (.int .i64 (0 : Int))] 0, own (oSl (fz rTokenlex)) [l106] l110] h179 := S.comp T
        have S : St h none' [rowC h.n [(.int .i64 (0 : Int)), (.int .i64 (0 : Int)), (.int .i64 (0 : Int)), (.int .i64 (0 : Int))] 0, rowC h172.n [(.int .u8 u173.1.Kind), (.str u173.1.Text), (.int .i64 u173.1.N), (.int .i64 u173.1.At)] 0, own (oSl (fz rTokenlex)) [l106] l110] h179 := S.sel [1, 0, 2] rfl
        obtain ⟨h181, e182, S⟩ := S.store (off := 0) (n := 4) (x := (.agg [(.int .i64 y180.Err), (.int .i64 y180.At), (.int .i64 y180.Line), (.int .i64 y180.Col)])) (cs' := [(.int .i64 y180.Err), (.int .i64 y180.At), (.int .i64 y180.Line), (.int .i64 y180.Col)]) (Nat.le_of_ble_eq_true rfl) rfl rfl rfl
        have S : St h none' [rowC h.n [(.int .i64 y180.Err), (.int .i64 y180.At), (.int .i64 y180.Line), (.int .i64 y180.Col)] 0, rowC h172.n [(.int .u8 u173.1.Kind), (.str u173.1.Text), (.int .i64 u173.1.N), (.int .i64 u173.1.At)] 0, own (oSl (fz rTokenlex)) [l106] l110] h181 := S
        refine ⟨h181, e182, ?_⟩
        have S : St h none' [own (oSl (fz rTokenlex)) [.nilSlice] [], rowC h.n [(.int .i64 y180.Err), (.int .i64 y180.At), (.int .i64 y180.Line), (.int .i64 y180.Col)] 0, rowC h172.n [(.int .u8 u173.1.Kind), (.str u173.1.Text), (.int .i64 u173.1.N), (.int .i64 u173.1.At)] 0, own (oSl (fz rTokenlex)) [l106] l110] h181 := S.addE (oSl_nil _ _)
        have S : St h none' [own (oSl (fz rTokenlex)) [.nilSlice] [], rowC h.n [(.int .i64 y180.Err), (.int .i64 y180.At), (.int .i64 y180.Line), (.int .i64 y180.Col)] 0] h181 := S.sel [0, 1] rfl
        obtain rfl := Option.some.inj hf
        obtain rfl := hk
        exact ⟨[], y180.Err, y180.At, y180.Line, y180.Col, rfl, S, rfl⟩
      · rw [if_neg (show ¬ ((!decide (u173.2 = (0 : Int))) = true) from by rw [show (!decide (u173.2 = (0 : Int))) = false from hc]; exact Bool.false_ne_true)] at hf
        refine ⟨(.int .u8 u173.1.Kind), (.str u173.1.Text), (.int .i64 u173.1.N), (.int .i64 u173.1.At), S.rdN (.head _) (Nat.le_of_ble_eq_true rfl) rfl, ?_⟩
        intro h184
        have S : St h none' [rowC h176.n [(.int .u8 u173.1.Kind), (.str u173.1.Text), (.int .i64 u173.1.N), (.int .i64 u173.1.At)] 0, rowC h172.n [(.int .u8 u173.1.Kind), (.str u173.1.Text), (.int .i64 u173.1.N), (.int .i64 u173.1.At)] 0, rowC h.n [(.int .i64 (0 : Int)), (.int .i64 (0 : Int)), (.int .i64 (0 : Int)), (.int .i64 (0 : Int))] 0, own (oSl (fz rTokenlex)) [l106] l110] h184 := S.pushRow [(.int .u8 u173.1.Kind), (.str u173.1.Text), (.int .i64 u173.1.N), (.int .i64 u173.1.At)]
        obtain ⟨l188, hl188, hf⟩ := obind hf
        have S : St h none' [own (fz rTokenlex) [(.int .u8 u173.1.Kind), (.str u173.1.Text), (.int .i64 u173.1.N), (.int .i64 u173.1.At)] u173.1, rowC h176.n [(.int .u8 u173.1.Kind), (.str u173.1.Text), (.int .i64 u173.1.N), (.int .i64 u173.1.At)] 0, rowC h172.n [(.int .u8 u173.1.Kind), (.str u173.1.Text), (.int .i64 u173.1.N), (.int .i64 u173.1.At)] 0, rowC h.n [(.int .i64 (0 : Int)), (.int .i64 (0 : Int)), (.int .i64 (0 : Int)), (.int .i64 (0 : Int))] 0, own (oSl (fz rTokenlex)) [l106] l110] h184 := S.add (r := rTokenlex) (x := u173.1) (rTokenlex_mk (x := u173.1))
        have S : St h none' [own (oSl (fz rTokenlex)) [l106] l110, own (fz rTokenlex) [(.int .u8 u173.1.Kind), (.str u173.1.Text), (.int .i64 u173.1.N), (.int .i64 u173.1.At)] u173.1, rowC h176.n [(.int .u8 u173.1.Kind), (.str u173.1.Text), (.int .i64 u173.1.N), (.int .i64 u173.1.At)] 0, rowC h172.n [(.int .u8 u173.1.Kind), (.str u173.1.Text), (.int .i64 u173.1.N), (.int .i64 u173.1.At)] 0, rowC h.n [(.int .i64 (0 : Int)), (.int .i64 (0 : Int)), (.int .i64 (0 : Int)), (.int .i64 (0 : Int))] 0] h184 := S.sel [4, 0, 1, 2, 3] rfl
        have ml188 := app_some hl188
        obtain ⟨v187, h186, e189, S⟩ := St.app1R (r := (fz rTokenlex)) (b := 40) S ml188.1
        have S : St h none' [own (oSl (fz rTokenlex)) [v187] l188, rowC h172.n [(.int .u8 u173.1.Kind), (.str u173.1.Text), (.int .i64 u173.1.N), (.int .i64 u173.1.At)] 0, rowC h.n [(.int .i64 (0 : Int)), (.int .i64 (0 : Int)), (.int .i64 (0 : Int)), (.int .i64 (0 : Int))] 0] h186 := S.cast (by rw [← ml188.2] <;> rfl)
        refine ⟨v187, h186, e189, ?_⟩
        refine ⟨u173.1.Text, S.rd1 (.tail _ (.head _)) rfl, ?_⟩
        have S : St h none' [rowC h.n [(.int .i64 (0 : Int)), (.int .i64 (0 : Int)), (.int .i64 (0 : Int)), (.int .i64 (0 : Int))] 0, own (oSl (fz rTokenlex)) [v187] l188] h186 := S.sel [2, 0] rfl
        obtain rfl := Option.some.inj hf
        exact ⟨m158, Nat.lt_succ_self _, l188, rfl, rfl, S, hk⟩
  · exact ⟨[], rfl, rfl, S, hL⟩
/-! 33: marblerun/marblerunref04.small -/
noncomputable def p33_j0 (b101 : Bool) : Option Bool := some b101
noncomputable def p33 (c0 : Int) : Option Bool := if (97 : Int) ≤ c0 then (p33_j0 (decide (c0 ≤ (122 : Int)))) else (p33_j0 false)
theorem r33 {h : Heap}  {c0 : Int} {r : Bool} (hf : p33 c0 = some r) : ZCalls F 33 [(.int .u8 c0)] h fun v h' => v = .bool r ∧ St h none' [] h' := by
  refine w33 ?_
  unfold W33
  unfold p33 at hf
  have S : St h none' [] h := St.refl _ _
  intro jjj0
  have hjj0 : ∀ (b101 : Bool) (h102 : Heap), p33_j0 b101 = some r → h = h102 → St h none' [] h → jjj0 b101 h102 := by
    rintro b101 h102 hf rfl S
    unfold p33_j0 at hf
    unfold jjj0
    obtain rfl := Option.some.inj hf
    exact ⟨rfl, S.sel [] rfl⟩
  refine bP_intro (fun hc => ?_) (fun hc => ?_)
  · rw [if_pos (show (97 : Int) ≤ c0 from of_decide_eq_true hc)] at hf
    exact hjj0 _ _  hf rfl S
  · rw [if_neg (show ¬ ((97 : Int) ≤ c0) from of_decide_eq_false hc)] at hf
    exact hjj0 _ _  hf rfl S
/-! 34: marblerun/marblerunref04.digit -/
noncomputable def p34_j0 (b101 : Bool) : Option Bool := some b101
noncomputable def p34 (c0 : Int) : Option Bool := if (48 : Int) ≤ c0 then (p34_j0 (decide (c0 ≤ (57 : Int)))) else (p34_j0 false)
theorem r34 {h : Heap}  {c0 : Int} {r : Bool} (hf : p34 c0 = some r) : ZCalls F 34 [(.int .u8 c0)] h fun v h' => v = .bool r ∧ St h none' [] h' := by
  refine w34 ?_
  unfold W34
  unfold p34 at hf
  have S : St h none' [] h := St.refl _ _
  intro jjj0
  have hjj0 : ∀ (b101 : Bool) (h102 : Heap), p34_j0 b101 = some r → h = h102 → St h none' [] h → jjj0 b101 h102 := by
    rintro b101 h102 hf rfl S
    unfold p34_j0 at hf
    unfold jjj0
    obtain rfl := Option.some.inj hf
    exact ⟨rfl, S.sel [] rfl⟩
  refine bP_intro (fun hc => ?_) (fun hc => ?_)
  · rw [if_pos (show (48 : Int) ≤ c0 from of_decide_eq_true hc)] at hf
    exact hjj0 _ _  hf rfl S
  · rw [if_neg (show ¬ ((48 : Int) ≤ c0) from of_decide_eq_false hc)] at hf
    exact hjj0 _ _  hf rfl S
/-! 20: marblerun/marblerunref04.Place -/
noncomputable def p20_j0 (i105 : Int) (line147 : Int) (col148 : Int) : Option ((Int × Int × Int) ⊕ (Int × Int)) := some (.inl (line147, col148, (IntKind.wrap .i64 (i105 + (1 : Int)))))
noncomputable def p20_j1 (p0 : List Int) (line103 : Int) (col104 : Int) (i105 : Int) (b135 : Bool) : Option ((Int × Int × Int) ⊕ (Int × Int)) := if b135 = true then ((idx p0 i105).bind fun e142 => if e142 = (10 : Int) then (p20_j0 i105 (IntKind.wrap .i64 (line103 + (1 : Int))) (1 : Int)) else (p20_j0 i105 line103 (IntKind.wrap .i64 (col104 + (1 : Int))))) else (some (.inr (line103, col104)))
noncomputable def p20_l0 (p0 : List Int) (at1 : Int) (st : Int × Int × Int) : Option ((Int × Int × Int) ⊕ (Int × Int)) := match st with | (line103, col104, i105) => if i105 < at1 then (p20_j1 p0 line103 col104 i105 (decide (i105 < (p0.length : Int)))) else (p20_j1 p0 line103 col104 i105 false)
noncomputable def p20 (p0 : List Int) (at1 : Int) : Option (Int × Int) := (loopC (p20_l0 p0 at1) ((1 : Int), (1 : Int), (0 : Int))).bind fun res131 => (match res131 with | (line127, col128) => some (line127, col128))
theorem r20 {h : Heap} {a0_0 : AV} {p0 : List Int} {at1 : Int} (f0_0 : SlR (rI .u8) (Snap h) a0_0 p0) {r : Int × Int} (hf : p20 p0 at1 = some r) : ZCalls F 20 [a0_0, (.int .i64 at1)] h fun v h' => v = .tuple [.int .i64 r.1, .int .i64 r.2] ∧ St h none' [] h' := by
  refine w20 ?_
  unfold W20
  unfold p20 at hf
  have S : St h none' [] h := St.refl _ _
  obtain ⟨res131, hL, hf⟩ := obind hf
  obtain ⟨n132, hL⟩ := loopC_iff.1 hL
  refine loopm20_0 (X0 := fun (p125 : AV) (at126 : Int) (line127 : Int) (col128 : Int) (i129 : Int) (h130 : Heap) => St h none' [] h130 ∧ (line127, col128) = res131) ?_ (loop20_0 (I := fun (m134 : Nat) (p101 : AV) (at102 : Int) (line103 : Int) (col104 : Int) (i105 : Int) (h106 : Heap) => a0_0 = p101 ∧ at1 = at102 ∧ St h none' [] h106 ∧ iter (p20_l0 p0 at1) m134 (line103, col104, i105) = some res131) ?_ (m := n132) ?_)
  · rintro p125 at126 line127 col128 i129 h130 ⟨S, rfl⟩
    try dsimp only at hf
    obtain rfl := Option.some.inj hf
    exact ⟨rfl, S.sel [] rfl⟩
  · rintro m1340 p101 at102 line103 col104 i105 h106 ⟨rfl, rfl, S, hit⟩
    obtain ⟨m134, q133, rfl, hf, hk⟩ := iter_some hit
    clear hit
    unfold B20_0
    unfold p20_l0 at hf
    try dsimp only at hf
    intro jjj1
    have hjj1 : ∀ (b135 : Bool) (h136 : Heap), p20_j1 p0 line103 col104 i105 b135 = some q133 → h106 = h136 → St h none' [] h106 → jjj1 b135 h136 := by
      rintro b135 h136 hf rfl S
      unfold p20_j1 at hf
      unfold jjj1
      refine bP_intro (fun hc => ?_) (fun hc => ?_)
      · rw [if_pos (show b135 = true from hc)] at hf
        obtain ⟨e142, he142, hf⟩ := obind hf
        obtain ⟨qe142, q0e142, q1e142⟩ := SlR.ix f0_0 he142
        have pe142 := (SlR.idx f0_0 (snap_mono S.le) he142).1
        refine ifP_iff.2 ⟨qe142, q0e142, (by first | exact q1e142 | exact (idx_lt he142).2), ?_⟩
        obtain ⟨_, cr143, Rr143, Nr143, Or143, Zr143⟩ := SlR.idx f0_0 (snap_mono S.le) he142
        obtain rfl : cr143 = [(.int .u8 e142)] := Rr143
        refine ⟨e142, Zr143 _ rfl, ?_⟩
        intro jjj0
        have hjj0 : ∀ (line147 : Int) (col148 : Int) (h144 : Heap) , p20_j0 i105 line147 col148 = some q133 → St h none' [] h144 → jjj0 line147 col148 h144 := by
          rintro line147 col148 h144 hf S
          unfold p20_j0 at hf
          unfold jjj0
          obtain rfl := Option.some.inj hf
          exact ⟨m134, Nat.lt_succ_self _, rfl, rfl, S, hk⟩
        refine bP_intro (fun hc => ?_) (fun hc => ?_)
        · rw [if_pos (show e142 = (10 : Int) from of_decide_eq_true hc)] at hf
          exact hjj0 _ _ _  hf  S
        · rw [if_neg (show ¬ (e142 = (10 : Int)) from of_decide_eq_false hc)] at hf
          exact hjj0 _ _ _  hf  S
      · rw [if_neg (show ¬ (b135 = true) from by rw [show b135 = false from hc]; exact Bool.false_ne_true)] at hf
        obtain rfl := Option.some.inj hf
        obtain rfl := hk
        exact ⟨S, rfl⟩
    refine bP_intro (fun hc => ?_) (fun hc => ?_)
    · rw [if_pos (show i105 < at1 from of_decide_eq_true hc)] at hf
      refine ifP_iff.2 ⟨(f0_0).is, ?_⟩
      try rw [(f0_0).slen]
      exact hjj1 _ _  hf rfl S
    · rw [if_neg (show ¬ (i105 < at1) from of_decide_eq_false hc)] at hf
      exact hjj1 _ _  hf rfl S
  · exact ⟨rfl, rfl, S, hL⟩
/-! 19: marblerun/marblerunref04.Tokens -/
noncomputable def p19_j0 (y1184 : Int) (b1213 : Bool) : Option (Int ⊕ Int) := if b1213 = true then (some (.inl (IntKind.wrap .i64 (y1184 + (1 : Int))))) else (some (.inr y1184))
noncomputable def p19_l0 (x0 : List Int) (y1184 : Int) : Option (Int ⊕ Int) := if y1184 < (x0.length : Int) then ((idx x0 y1184).bind fun e1222 => p19_j0 y1184 (!decide (e1222 = (10 : Int)))) else (p19_j0 y1184 false)
noncomputable def p19_j1 (x0 : List Int) (y106 : Int) (y110 : List TToken) (y111 : List TToken) (y1689 : Int) (y1690 : Int) (y1693 : Int) (c1695 : Int) (c1696 : Int) : Option ((Int × Int × Int × (List TToken) × (List TToken)) ⊕ ((Int × Int) ⊕ (List TToken))) := (slc x0 y106 y1693).bind fun y1697 => (app 40 y111 [(TToken.mk c1695 (y1697.map u8) c1696 y106)]).bind fun y1704 => some (.inl (y1689, y1690, y1693, y110, y1704))
noncomputable def p19_j2 (y1716 : Int) (b1873 : Bool) : Option (Int ⊕ Int) := if b1873 = true then (some (.inl (IntKind.wrap .i64 (y1716 + (1 : Int))))) else (some (.inr y1716))
noncomputable def p19_j3 (y1716 : Int) (b1907 : Bool) : Option (Int ⊕ Int) := p19_j2 y1716 b1907
noncomputable def p19_j4 (x0 : List Int) (y1716 : Int) (b1894 : Bool) : Option (Int ⊕ Int) := if b1894 = true then (p19_j3 y1716 true) else ((idx x0 y1716).bind fun e1919 => p19_j3 y1716 (decide (e1919 = (46 : Int))))
noncomputable def p19_l1 (x0 : List Int) (y1716 : Int) : Option (Int ⊕ Int) := if y1716 < (x0.length : Int) then ((idx x0 y1716).bind fun e1884 => (p33 e1884).bind fun y1888 => if y1888 = true then (p19_j4 x0 y1716 true) else ((idx x0 y1716).bind fun e1922 => (p34 e1922).bind fun y1926 => p19_j4 x0 y1716 y1926)) else (p19_j2 y1716 false)
noncomputable def p19_j5 (y1938 : Int) (b1981 : Bool) : Option (Int ⊕ Int) := if b1981 = true then (some (.inl (IntKind.wrap .i64 (y1938 + (1 : Int))))) else (some (.inr y1938))
noncomputable def p19_l2 (x0 : List Int) (y1938 : Int) : Option (Int ⊕ Int) := if y1938 < (x0.length : Int) then ((idx x0 y1938).bind fun e1992 => (p34 e1992).bind fun y1996 => p19_j5 y1938 y1996) else (p19_j5 y1938 false)
noncomputable def p19_l3 (x0 : List Int) (y1969 : Int) (st : Int × Int × Int × Int) : Option ((Int × Int × Int × Int) ⊕ (Unit ⊕ (Int × Int × Int))) := match st with | (y1999, y2000, y2005, c2012) => if y2005 < y1969 then ((idx x0 y2005).bind fun e2044 => if (1125899906842624 : Int) < (IntKind.wrap .i64 ((IntKind.wrap .i64 (c2012 * (10 : Int))) + (IntKind.wrap .i64 (IntKind.wrap .u8 (e2044 - (48 : Int)))))) then (some (.inr (.inl ()))) else (some (.inl (y1999, y2000, (IntKind.wrap .i64 (y2005 + (1 : Int))), (IntKind.wrap .i64 ((IntKind.wrap .i64 (c2012 * (10 : Int))) + (IntKind.wrap .i64 (IntKind.wrap .u8 (e2044 - (48 : Int)))))))))) else (some (.inr (.inr (y1999, y2000, c2012))))
noncomputable def p19_j6 (y2083 : Int) (c2155 : Int) : Option ((Int × Int) ⊕ Int) := some (.inl ((IntKind.wrap .i64 (y2083 + (1 : Int))), c2155))
noncomputable def p19_l4 (e1150 : Int) (st : Int × Int) : Option ((Int × Int) ⊕ Int) := match st with | (y2083, c2104) => if y2083 < (8 : Int) then ((idxS ([59, 58, 44, 42, 33, 126, 64, 61] : List UInt8) y2083).bind fun y2141 => if y2141 = e1150 then (p19_j6 y2083 (3 : Int)) else (p19_j6 y2083 c2104)) else (some (.inr c2104))
noncomputable def p19_j7 (x0 : List Int) (y103 : Int) (y104 : Int) (y106 : Int) (y110 : List TToken) (y111 : List TToken) (e1150 : Int) (b2061 : Bool) : Option ((Int × Int × Int × (List TToken) × (List TToken)) ⊕ ((Int × Int) ⊕ (List TToken))) := if b2061 = true then (p19_j1 x0 y106 y110 y111 y103 y104 (IntKind.wrap .i64 ((IntKind.wrap .i64 (y106 + (1 : Int))) + (1 : Int))) (3 : Int) (0 : Int)) else ((loopC (p19_l4 e1150) ((0 : Int), (0 : Int))).bind fun res2137 => ((fun (c2136 : Int) => if c2136 = (0 : Int) then (some (.inr (.inl ((6 : Int), y106)))) else (p19_j1 x0 y106 y110 y111 y103 y104 (IntKind.wrap .i64 (y106 + (1 : Int))) c2136 (0 : Int))) res2137))
noncomputable def p19_j8 (x0 : List Int) (y103 : Int) (y104 : Int) (y106 : Int) (y110 : List TToken) (y111 : List TToken) (e1150 : Int) (b2048 : Bool) : Option ((Int × Int × Int × (List TToken) × (List TToken)) ⊕ ((Int × Int) ⊕ (List TToken))) := if b2048 = true then ((idx x0 (IntKind.wrap .i64 (y106 + (1 : Int)))).bind fun e2160 => p19_j7 x0 y103 y104 y106 y110 y111 e1150 (decide (e2160 = (62 : Int)))) else (p19_j7 x0 y103 y104 y106 y110 y111 e1150 false)
noncomputable def p19_j9 (x0 : List Int) (y103 : Int) (y104 : Int) (y106 : Int) (y110 : List TToken) (y111 : List TToken) (e1150 : Int) (b1170 : Bool) : Option ((Int × Int × Int × (List TToken) × (List TToken)) ⊕ ((Int × Int) ⊕ (List TToken))) := if b1170 = true then (some (.inl (y103, y104, (IntKind.wrap .i64 (y106 + (1 : Int))), y110, y111))) else (if e1150 = (35 : Int) then ((loopC (p19_l0 x0) y106).bind fun res1207 => ((fun (y1205 : Int) => some (.inl (y103, y104, y1205, y110, y111))) res1207)) else ((p33 e1150).bind fun y1230 => if y1230 = true then ((loopC (p19_l1 x0) (IntKind.wrap .i64 (y106 + (1 : Int)))).bind fun res1826 => ((fun (y1823 : Int) => p19_j1 x0 y106 y110 y111 y103 y104 y1823 (1 : Int) (0 : Int)) res1826)) else ((p34 e1150).bind fun y1929 => if y1929 = true then ((loopC (p19_l2 x0) (IntKind.wrap .i64 (y106 + (1 : Int)))).bind fun res1972 => ((fun (y1969 : Int) => (loopC (p19_l3 x0 y1969) (y103, y104, y106, (0 : Int))).bind fun res2040 => (match res2040 with | .inl _ => some (.inr (.inl ((3 : Int), y106))) | .inr (y2031, y2032, c2039) => p19_j1 x0 y106 y110 y111 y2031 y2032 y1969 (2 : Int) c2039)) res1972)) else (if e1150 = (45 : Int) then (p19_j8 x0 y103 y104 y106 y110 y111 e1150 (decide ((IntKind.wrap .i64 (y106 + (1 : Int))) < (x0.length : Int)))) else (p19_j8 x0 y103 y104 y106 y110 y111 e1150 false)))))
noncomputable def p19_j10 (x0 : List Int) (y103 : Int) (y104 : Int) (y106 : Int) (y110 : List TToken) (y111 : List TToken) (e1150 : Int) (b1161 : Bool) : Option ((Int × Int × Int × (List TToken) × (List TToken)) ⊕ ((Int × Int) ⊕ (List TToken))) := if b1161 = true then (p19_j9 x0 y103 y104 y106 y110 y111 e1150 true) else (p19_j9 x0 y103 y104 y106 y110 y111 e1150 (decide (e1150 = (13 : Int))))
noncomputable def p19_j11 (x0 : List Int) (y103 : Int) (y104 : Int) (y106 : Int) (y110 : List TToken) (y111 : List TToken) (e1150 : Int) (b1152 : Bool) : Option ((Int × Int × Int × (List TToken) × (List TToken)) ⊕ ((Int × Int) ⊕ (List TToken))) := if b1152 = true then (p19_j10 x0 y103 y104 y106 y110 y111 e1150 true) else (p19_j10 x0 y103 y104 y106 y110 y111 e1150 (decide (e1150 = (10 : Int))))
noncomputable def p19_l5 (x0 : List Int) (st : Int × Int × Int × (List TToken) × (List TToken)) : Option ((Int × Int × Int × (List TToken) × (List TToken)) ⊕ ((Int × Int) ⊕ (List TToken))) := match st with | (y103, y104, y106, y110, y111) => if y106 < (x0.length : Int) then ((idx x0 y106).bind fun e1150 => if e1150 = (32 : Int) then (p19_j11 x0 y103 y104 y106 y110 y111 e1150 true) else (p19_j11 x0 y103 y104 y106 y110 y111 e1150 (decide (e1150 = (9 : Int))))) else (some (.inr (.inr y111)))
noncomputable def p19 (x0 : List Int) : Option ((List TToken) × Int × Int) := (loopC (p19_l5 x0) ((0 : Int), (0 : Int), (0 : Int), [], [])).bind fun res1146 => (match res1146 with | .inl (y1133, y1134) => some ([], y1133, y1134) | .inr y1145 => (app 40 y1145 [(TToken.mk (0 : Int) ([] : List UInt8) (0 : Int) (x0.length : Int))]).bind fun y2173 => some (y2173, (0 : Int), (0 : Int)))
theorem r19 {h : Heap} {a0_0 : AV} {x0 : List Int} (f0_0 : SlR (rI .u8) (Snap h) a0_0 x0) {r : (List TToken) × Int × Int} (hf : p19 x0 = some r) : ZCalls F 19 [a0_0] h fun v h' => ∃ w0, v = .tuple [w0, .int .i64 r.2.1, .int .i64 r.2.2] ∧ St h none' [own (oSl (fz rToken)) [w0] r.1] h' := by
  refine w19 ?_
  unfold W19
  unfold p19 at hf
  have S : St h none' [] h := St.refl _ _
  obtain ⟨res1146, hL, hf⟩ := obind hf
  obtain ⟨n1147, hL⟩ := loopC_iff.1 hL
  have S : St h none' [own (oSl (fz rToken)) [.nilSlice] []] h := S.addE (oSl_nil _ _)
  have S : St h none' [own (oSl (fz rToken)) [.nilSlice] [], own (oSl (fz rToken)) [.nilSlice] []] h := S.addE (oSl_nil _ _)
  have S : St h none' [own (oSl (fz rToken)) [.nilSlice] [], own (oSl (fz rToken)) [.nilSlice] []] h := S.sel [1, 0] rfl
  refine loopm19_5 (R := fun (y1131 : AV) (y1132 : AV) (y1133 : Int) (y1134 : Int) (y1135 : AV) (y1136 : Int) (h1137 : Heap) => AV.nilSlice = y1132 ∧ St h none' [] h1137 ∧ (.inl (y1133, y1134)) = res1146) (X0 := fun (y1138 : AV) (y1139 : AV) (y1140 : Int) (y1141 : Int) (y1142 : AV) (y1143 : Int) (h1144 : Heap) => ∃ (y1145 : List TToken), a0_0 = y1138 ∧ St h none' [own (oSl (fz rToken)) [y1142] y1145] h1144 ∧ (.inr y1145) = res1146) ?_ ?_ (loop19_5 (I := fun (m1149 : Nat) (y101 : AV) (y102 : AV) (y103 : Int) (y104 : Int) (y105 : AV) (y106 : Int) (h107 : Heap) => ∃ (y110 : List TToken), ∃ (y111 : List TToken), a0_0 = y101 ∧ St h none' [own (oSl (fz rToken)) [y102] y110, own (oSl (fz rToken)) [y105] y111] h107 ∧ iter (p19_l5 x0) m1149 (y103, y104, y106, y110, y111) = some res1146) ?_ (m := n1147) ?_)
  · rintro y1131 y1132 y1133 y1134 y1135 y1136 h1137 ⟨rfl, S, rfl⟩
    try dsimp only at hf
    have S : St h none' [own (oSl (fz rToken)) [.nilSlice] []] h1137 := S.addE (oSl_nil _ _)
    obtain rfl := Option.some.inj hf
    exact ⟨.nilSlice, rfl, S.sel [0] rfl⟩
  · rintro y1138 y1139 y1140 y1141 y1142 y1143 h1144 ⟨y1145, rfl, S, rfl⟩
    try dsimp only at hf
    refine ifP_iff.2 ⟨(f0_0).is, ?_⟩
    try rw [(f0_0).slen]
    intro h2169
    have S : St h none' [rowC h1144.n [(.int .u8 (0 : Int)), (.str ([] : List UInt8)), (.int .i64 (0 : Int)), (.int .i64 (x0.length : Int))] 0, own (oSl (fz rToken)) [y1142] y1145] h2169 := S.pushRow [(.int .u8 (0 : Int)), (.str ([] : List UInt8)), (.int .i64 (0 : Int)), (.int .i64 (x0.length : Int))]
    obtain ⟨y2173, hy2173, hf⟩ := obind hf
    have S : St h none' [own (fz rToken) [(.int .u8 (0 : Int)), (.str ([] : List UInt8)), (.int .i64 (0 : Int)), (.int .i64 (x0.length : Int))] (TToken.mk (0 : Int) ([] : List UInt8) (0 : Int) (x0.length : Int)), rowC h1144.n [(.int .u8 (0 : Int)), (.str ([] : List UInt8)), (.int .i64 (0 : Int)), (.int .i64 (x0.length : Int))] 0, own (oSl (fz rToken)) [y1142] y1145] h2169 := S.add (r := rToken) (x := (TToken.mk (0 : Int) ([] : List UInt8) (0 : Int) (x0.length : Int))) (rToken_mk (x := (TToken.mk (0 : Int) ([] : List UInt8) (0 : Int) (x0.length : Int))))
    have S : St h none' [own (oSl (fz rToken)) [y1142] y1145, own (fz rToken) [(.int .u8 (0 : Int)), (.str ([] : List UInt8)), (.int .i64 (0 : Int)), (.int .i64 (x0.length : Int))] (TToken.mk (0 : Int) ([] : List UInt8) (0 : Int) (x0.length : Int)), rowC h1144.n [(.int .u8 (0 : Int)), (.str ([] : List UInt8)), (.int .i64 (0 : Int)), (.int .i64 (x0.length : Int))] 0] h2169 := S.sel [2, 0, 1] rfl
    have my2173 := app_some hy2173
    obtain ⟨v2172, h2171, e2174, S⟩ := St.app1R (r := (fz rToken)) (b := 40) S my2173.1
    have S : St h none' [own (oSl (fz rToken)) [v2172] y2173] h2171 := S.cast (by rw [← my2173.2] <;> rfl)
    refine ⟨v2172, h2171, e2174, ?_⟩
    obtain rfl := Option.some.inj hf
    exact ⟨v2172, rfl, S.sel [0] rfl⟩
  · rintro m11490 y101 y102 y103 y104 y105 y106 h107 ⟨y110, y111, rfl, S, hit⟩
    obtain ⟨m1149, q1148, rfl, hf, hk⟩ := iter_some hit
    clear hit
    unfold B19_5
    unfold p19_l5 at hf
    try dsimp only at hf
    refine ifP_iff.2 ⟨(f0_0).is, ?_⟩
    try rw [(f0_0).slen]
    refine bP_intro (fun hc => ?_) (fun hc => ?_)
    · rw [if_pos (show y106 < (x0.length : Int) from of_decide_eq_true hc)] at hf
      obtain ⟨e1150, he1150, hf⟩ := obind hf
      obtain ⟨qe1150, q0e1150, q1e1150⟩ := SlR.ix f0_0 he1150
      have pe1150 := (SlR.idx f0_0 (snap_mono S.le) he1150).1
      refine ifP_iff.2 ⟨qe1150, q0e1150, (by first | exact q1e1150 | exact (idx_lt he1150).2), ?_⟩
      obtain ⟨_, cr1151, Rr1151, Nr1151, Or1151, Zr1151⟩ := SlR.idx f0_0 (snap_mono S.le) he1150
      obtain rfl : cr1151 = [(.int .u8 e1150)] := Rr1151
      refine ⟨e1150, Zr1151 _ rfl, ?_⟩
      intro jjj11
      have hjj11 : ∀ (b1152 : Bool) (h1153 : Heap), p19_j11 x0 y103 y104 y106 y110 y111 e1150 b1152 = some q1148 → h107 = h1153 → St h none' [own (oSl (fz rToken)) [y102] y110, own (oSl (fz rToken)) [y105] y111] h107 → jjj11 b1152 h1153 := by
        rintro b1152 h1153 hf rfl S
        unfold p19_j11 at hf
        unfold jjj11
        intro jjj10
        have hjj10 : ∀ (b1161 : Bool) (h1162 : Heap), p19_j10 x0 y103 y104 y106 y110 y111 e1150 b1161 = some q1148 → h107 = h1162 → St h none' [own (oSl (fz rToken)) [y102] y110, own (oSl (fz rToken)) [y105] y111] h107 → jjj10 b1161 h1162 := by
          rintro b1161 h1162 hf rfl S
          unfold p19_j10 at hf
          unfold jjj10
          intro jjj9
          have hjj9 : ∀ (b1170 : Bool) (h1171 : Heap), p19_j9 x0 y103 y104 y106 y110 y111 e1150 b1170 = some q1148 → h107 = h1171 → St h none' [own (oSl (fz rToken)) [y102] y110, own (oSl (fz rToken)) [y105] y111] h107 → jjj9 b1170 h1171 := by
            rintro b1170 h1171 hf rfl S
            unfold p19_j9 at hf
            unfold jjj9
            refine bP_intro (fun hc => ?_) (fun hc => ?_)
            · rw [if_pos (show b1170 = true from hc)] at hf
              obtain rfl := Option.some.inj hf
              exact ⟨m1149, Nat.lt_succ_self _, y110, y111, rfl, S, hk⟩
            · rw [if_neg (show ¬ (b1170 = true) from by rw [show b1170 = false from hc]; exact Bool.false_ne_true)] at hf
              refine bP_intro (fun hc => ?_) (fun hc => ?_)
              · rw [if_pos (show e1150 = (35 : Int) from of_decide_eq_true hc)] at hf
                obtain ⟨res1207, hL, hf⟩ := obind hf
                obtain ⟨n1208, hL⟩ := loopC_iff.1 hL
                refine loopm19_0 (X2 := fun (y1200 : AV) (y1201 : AV) (y1202 : Int) (y1203 : Int) (y1204 : AV) (y1205 : Int) (h1206 : Heap) => a0_0 = y1200 ∧ y102 = y1201 ∧ y103 = y1202 ∧ y104 = y1203 ∧ y105 = y1204 ∧ St h none' [own (oSl (fz rToken)) [y102] y110, own (oSl (fz rToken)) [y105] y111] h1206 ∧ y1205 = res1207) ?_ (loop19_0 (I := fun (m1210 : Nat) (y1179 : AV) (y1180 : AV) (y1181 : Int) (y1182 : Int) (y1183 : AV) (y1184 : Int) (h1185 : Heap) => a0_0 = y1179 ∧ y102 = y1180 ∧ y103 = y1181 ∧ y104 = y1182 ∧ y105 = y1183 ∧ St h none' [own (oSl (fz rToken)) [y102] y110, own (oSl (fz rToken)) [y105] y111] h1185 ∧ iter (p19_l0 x0) m1210 y1184 = some res1207) ?_ (m := n1208) ?_)
                · rintro y1200 y1201 y1202 y1203 y1204 y1205 h1206 ⟨rfl, rfl, rfl, rfl, rfl, S, rfl⟩
                  try dsimp only at hf
                  obtain rfl := Option.some.inj hf
                  exact ⟨m1149, Nat.lt_succ_self _, y110, y111, rfl, S, hk⟩
                · rintro m12100 y1179 y1180 y1181 y1182 y1183 y1184 h1185 ⟨rfl, rfl, rfl, rfl, rfl, S, hit⟩
                  obtain ⟨m1210, q1209, rfl, hf, hk⟩ := iter_some hit
                  clear hit
                  unfold B19_0
                  unfold p19_l0 at hf
                  try dsimp only at hf
                  refine ifP_iff.2 ⟨(f0_0).is, ?_⟩
                  try rw [(f0_0).slen]
                  intro jjj0
                  have hjj0 : ∀ (b1213 : Bool) (h1214 : Heap), p19_j0 y1184 b1213 = some q1209 → h1185 = h1214 → St h none' [own (oSl (fz rToken)) [y102] y110, own (oSl (fz rToken)) [y105] y111] h1185 → jjj0 b1213 h1214 := by
                    rintro b1213 h1214 hf rfl S
                    unfold p19_j0 at hf
                    unfold jjj0
                    refine bP_intro (fun hc => ?_) (fun hc => ?_)
                    · rw [if_pos (show b1213 = true from hc)] at hf
                      obtain rfl := Option.some.inj hf
                      exact ⟨m1210, Nat.lt_succ_self _, rfl, rfl, rfl, rfl, rfl, S, hk⟩
                    · rw [if_neg (show ¬ (b1213 = true) from by rw [show b1213 = false from hc]; exact Bool.false_ne_true)] at hf
                      obtain rfl := Option.some.inj hf
                      obtain rfl := hk
                      exact ⟨rfl, rfl, rfl, rfl, rfl, S, rfl⟩
                  refine bP_intro (fun hc => ?_) (fun hc => ?_)
                  · rw [if_pos (show y1184 < (x0.length : Int) from of_decide_eq_true hc)] at hf
                    obtain ⟨e1222, he1222, hf⟩ := obind hf
                    obtain ⟨qe1222, q0e1222, q1e1222⟩ := SlR.ix f0_0 he1222
                    have pe1222 := (SlR.idx f0_0 (snap_mono S.le) he1222).1
                    refine ifP_iff.2 ⟨qe1222, q0e1222, (by first | exact q1e1222 | exact (idx_lt he1222).2), ?_⟩
                    obtain ⟨_, cr1223, Rr1223, Nr1223, Or1223, Zr1223⟩ := SlR.idx f0_0 (snap_mono S.le) he1222
                    obtain rfl : cr1223 = [(.int .u8 e1222)] := Rr1223
                    refine ⟨e1222, Zr1223 _ rfl, ?_⟩
                    exact hjj0 _ _  hf rfl S
                  · rw [if_neg (show ¬ (y1184 < (x0.length : Int)) from of_decide_eq_false hc)] at hf
                    exact hjj0 _ _  hf rfl S
                · exact ⟨rfl, rfl, rfl, rfl, rfl, S, hL⟩
              · rw [if_neg (show ¬ (e1150 = (35 : Int)) from of_decide_eq_false hc)] at hf
                intro h1224
                have S : St h none' [rowC h107.n [(.int .u8 (0 : Int)), (.str ([] : List UInt8)), (.int .i64 (0 : Int)), (.int .i64 (0 : Int))] 0, own (oSl (fz rToken)) [y102] y110, own (oSl (fz rToken)) [y105] y111] h1224 := S.pushRow [(.int .u8 (0 : Int)), (.str ([] : List UInt8)), (.int .i64 (0 : Int)), (.int .i64 (0 : Int))]
                obtain ⟨h1226, e1227, S⟩ := S.store (off := 0) (n := 4) (x := (.agg [(.int .u8 (0 : Int)), (.str ([] : List UInt8)), (.int .i64 (0 : Int)), (.int .i64 y106)])) (cs' := [(.int .u8 (0 : Int)), (.str ([] : List UInt8)), (.int .i64 (0 : Int)), (.int .i64 y106)]) (Nat.le_of_ble_eq_true rfl) rfl rfl rfl
                have S : St h none' [rowC h107.n [(.int .u8 (0 : Int)), (.str ([] : List UInt8)), (.int .i64 (0 : Int)), (.int .i64 y106)] 0, own (oSl (fz rToken)) [y102] y110, own (oSl (fz rToken)) [y105] y111] h1226 := S
                refine ⟨h1226, e1227, ?_⟩
                obtain ⟨y1230, hy1230, hf⟩ := obind hf
                refine ⟨_, Fz.refl _, ?_⟩
                refine (r33 (c0 := e1150) hy1230).mono fun v1228 h1229 T => ?_
                obtain ⟨rfl, T⟩ := T
                have S : St h none' [rowC h107.n [(.int .u8 (0 : Int)), (.str ([] : List UInt8)), (.int .i64 (0 : Int)), (.int .i64 y106)] 0, own (oSl (fz rToken)) [y102] y110, own (oSl (fz rToken)) [y105] y111] h1229 := S.comp T
                refine ⟨y1230, rfl, ?_⟩
                intro jjj1
                have hjj1 : ∀ (y1687 : AV) (y1688 : AV) (y1689 : Int) (y1690 : Int) (y1691 : AV) (y1692 : Int) (y1693 : Int) (y1694 : AV) (h1686 : Heap) (c1695 : Int) (c1696 : Int), p19_j1 x0 y106 y110 y111 y1689 y1690 y1693 c1695 c1696 = some q1148 → a0_0 = y1687 → y105 = y1691 → y106 = y1692 → AV.ptr h107.n 0 0 = y1694 → St h none' [own (oSl (fz rToken)) [y1688] y110, own (oSl (fz rToken)) [y105] y111, rowC h107.n [(.int .u8 c1695), (.str ([] : List UInt8)), (.int .i64 c1696), (.int .i64 y106)] 0] h1686 → jjj1 y1687 y1688 y1689 y1690 y1691 y1692 y1693 y1694 h1686 := by
                  rintro y1687 y1688 y1689 y1690 y1691 y1692 y1693 y1694 h1686 c1695 c1696 hf rfl rfl rfl rfl S
                  unfold p19_j1 at hf
                  unfold jjj1
                  obtain ⟨y1697, hy1697, hf⟩ := obind hf
                  have ey1697 := (sliceSl_ev11 (k := .i64) (k' := .i64) f0_0 hy1697)
                  have fy1697 : SlR (rI .u8) (Snap h) (a0_0.sub 1 (y106 : Int).toNat (y1693 : Int).toNat) y1697 := slc_eq hy1697 ▸ SlR.sub f0_0 (slc_le hy1697).1 (slc_le hy1697).2
                  refine oP_intro _ ey1697 ?_
                  refine ⟨_, bytes_ev (SlR.mono (snap_mono S.le) fy1697), (y1697.map u8), rfl, ?_⟩
                  refine ifP_iff.2 ⟨rfl, ?_⟩
                  have S : St h none' [rowC h107.n [(.int .u8 c1695), (.str ([] : List UInt8)), (.int .i64 c1696), (.int .i64 y106)] 0, own (oSl (fz rToken)) [y1688] y110, own (oSl (fz rToken)) [y105] y111] h1686 := S.sel [2, 0, 1] rfl
                  obtain ⟨h1698, e1699, S⟩ := S.store (off := 1) (n := 1) (x := (.str (y1697.map u8))) (cs' := [(.int .u8 c1695), (.str (y1697.map u8)), (.int .i64 c1696), (.int .i64 y106)]) (Nat.le_of_ble_eq_true rfl) rfl rfl rfl
                  have S : St h none' [rowC h107.n [(.int .u8 c1695), (.str (y1697.map u8)), (.int .i64 c1696), (.int .i64 y106)] 0, own (oSl (fz rToken)) [y1688] y110, own (oSl (fz rToken)) [y105] y111] h1698 := S
                  refine ⟨h1698, e1699, ?_⟩
                  refine ⟨(.int .u8 c1695), (.str (y1697.map u8)), (.int .i64 c1696), (.int .i64 y106), S.rdN (.head _) (Nat.le_of_ble_eq_true rfl) rfl, ?_⟩
                  intro h1700
                  have S : St h none' [rowC h1698.n [(.int .u8 c1695), (.str (y1697.map u8)), (.int .i64 c1696), (.int .i64 y106)] 0, rowC h107.n [(.int .u8 c1695), (.str (y1697.map u8)), (.int .i64 c1696), (.int .i64 y106)] 0, own (oSl (fz rToken)) [y1688] y110, own (oSl (fz rToken)) [y105] y111] h1700 := S.pushRow [(.int .u8 c1695), (.str (y1697.map u8)), (.int .i64 c1696), (.int .i64 y106)]
                  obtain ⟨y1704, hy1704, hf⟩ := obind hf
                  have S : St h none' [own (fz rToken) [(.int .u8 c1695), (.str (y1697.map u8)), (.int .i64 c1696), (.int .i64 y106)] (TToken.mk c1695 (y1697.map u8) c1696 y106), rowC h1698.n [(.int .u8 c1695), (.str (y1697.map u8)), (.int .i64 c1696), (.int .i64 y106)] 0, rowC h107.n [(.int .u8 c1695), (.str (y1697.map u8)), (.int .i64 c1696), (.int .i64 y106)] 0, own (oSl (fz rToken)) [y1688] y110, own (oSl (fz rToken)) [y105] y111] h1700 := S.add (r := rToken) (x := (TToken.mk c1695 (y1697.map u8) c1696 y106)) (rToken_mk (x := (TToken.mk c1695 (y1697.map u8) c1696 y106)))
                  have S : St h none' [own (oSl (fz rToken)) [y105] y111, own (fz rToken) [(.int .u8 c1695), (.str (y1697.map u8)), (.int .i64 c1696), (.int .i64 y106)] (TToken.mk c1695 (y1697.map u8) c1696 y106), rowC h1698.n [(.int .u8 c1695), (.str (y1697.map u8)), (.int .i64 c1696), (.int .i64 y106)] 0, rowC h107.n [(.int .u8 c1695), (.str (y1697.map u8)), (.int .i64 c1696), (.int .i64 y106)] 0, own (oSl (fz rToken)) [y1688] y110] h1700 := S.sel [4, 0, 1, 2, 3] rfl
                  have my1704 := app_some hy1704
                  obtain ⟨v1703, h1702, e1705, S⟩ := St.app1R (r := (fz rToken)) (b := 40) S my1704.1
                  have S : St h none' [own (oSl (fz rToken)) [v1703] y1704, rowC h107.n [(.int .u8 c1695), (.str (y1697.map u8)), (.int .i64 c1696), (.int .i64 y106)] 0, own (oSl (fz rToken)) [y1688] y110] h1702 := S.cast (by rw [← my1704.2] <;> rfl)
                  refine ⟨v1703, h1702, e1705, ?_⟩
                  have S : St h none' [own (oSl (fz rToken)) [y1688] y110, own (oSl (fz rToken)) [v1703] y1704] h1702 := S.sel [2, 0] rfl
                  obtain rfl := Option.some.inj hf
                  exact ⟨m1149, Nat.lt_succ_self _, y110, y1704, rfl, S, hk⟩
                refine bP_intro (fun hc => ?_) (fun hc => ?_)
                · rw [if_pos (show y1230 = true from hc)] at hf
                  obtain ⟨h1708, e1709, S⟩ := S.store (off := 0) (n := 1) (x := (.int .u8 (1 : Int))) (cs' := [(.int .u8 (1 : Int)), (.str ([] : List UInt8)), (.int .i64 (0 : Int)), (.int .i64 y106)]) (Nat.le_of_ble_eq_true rfl) rfl rfl rfl
                  have S : St h none' [rowC h107.n [(.int .u8 (1 : Int)), (.str ([] : List UInt8)), (.int .i64 (0 : Int)), (.int .i64 y106)] 0, own (oSl (fz rToken)) [y102] y110, own (oSl (fz rToken)) [y105] y111] h1708 := S
                  refine ⟨h1708, e1709, ?_⟩
                  obtain ⟨res1826, hL, hf⟩ := obind hf
                  obtain ⟨n1827, hL⟩ := loopC_iff.1 hL
                  have S : St h none' [own (oSl (fz rToken)) [y102] y110, own (oSl (fz rToken)) [y105] y111, rowC h107.n [(.int .u8 (1 : Int)), (.str ([] : List UInt8)), (.int .i64 (0 : Int)), (.int .i64 y106)] 0] h1708 := S.sel [1, 2, 0] rfl
                  refine loopm19_1 (X4 := fun (y1817 : AV) (y1818 : AV) (y1819 : Int) (y1820 : Int) (y1821 : AV) (y1822 : Int) (y1823 : Int) (y1824 : AV) (h1825 : Heap) => a0_0 = y1817 ∧ y102 = y1818 ∧ y103 = y1819 ∧ y104 = y1820 ∧ y105 = y1821 ∧ y106 = y1822 ∧ AV.ptr h107.n 0 0 = y1824 ∧ St h none' [own (oSl (fz rToken)) [y102] y110, own (oSl (fz rToken)) [y105] y111, rowC h107.n [(.int .u8 (1 : Int)), (.str ([] : List UInt8)), (.int .i64 (0 : Int)), (.int .i64 y106)] 0] h1825 ∧ y1823 = res1826) ?_ (loop19_1 (I := fun (m1829 : Nat) (y1710 : AV) (y1711 : AV) (y1712 : Int) (y1713 : Int) (y1714 : AV) (y1715 : Int) (y1716 : Int) (y1717 : AV) (h1718 : Heap) => a0_0 = y1710 ∧ y102 = y1711 ∧ y103 = y1712 ∧ y104 = y1713 ∧ y105 = y1714 ∧ y106 = y1715 ∧ AV.ptr h107.n 0 0 = y1717 ∧ St h none' [own (oSl (fz rToken)) [y102] y110, own (oSl (fz rToken)) [y105] y111, rowC h107.n [(.int .u8 (1 : Int)), (.str ([] : List UInt8)), (.int .i64 (0 : Int)), (.int .i64 y106)] 0] h1718 ∧ iter (p19_l1 x0) m1829 y1716 = some res1826) ?_ (m := n1827) ?_)
                  · rintro y1817 y1818 y1819 y1820 y1821 y1822 y1823 y1824 h1825 ⟨rfl, rfl, rfl, rfl, rfl, rfl, rfl, S, rfl⟩
                    try dsimp only at hf
                    exact hjj1 _ _ _ _ _ _ _ _ _ (1 : Int) (0 : Int) hf rfl rfl rfl rfl S
                  · rintro m18290 y1710 y1711 y1712 y1713 y1714 y1715 y1716 y1717 h1718 ⟨rfl, rfl, rfl, rfl, rfl, rfl, rfl, S, hit⟩
                    obtain ⟨m1829, q1828, rfl, hf, hk⟩ := iter_some hit
                    clear hit
                    unfold B19_1
                    unfold p19_l1 at hf
                    try dsimp only at hf
                    refine ifP_iff.2 ⟨(f0_0).is, ?_⟩
                    try rw [(f0_0).slen]
                    intro jjj2
                    have hjj2 : ∀ (b1873 : Bool) (h1874 : Heap), p19_j2 y1716 b1873 = some q1828 → St h none' [own (oSl (fz rToken)) [y102] y110, own (oSl (fz rToken)) [y105] y111, rowC h107.n [(.int .u8 (1 : Int)), (.str ([] : List UInt8)), (.int .i64 (0 : Int)), (.int .i64 y106)] 0] h1874 → jjj2 b1873 h1874 := by
                      rintro b1873 h1874 hf S
                      unfold p19_j2 at hf
                      unfold jjj2
                      refine bP_intro (fun hc => ?_) (fun hc => ?_)
                      · rw [if_pos (show b1873 = true from hc)] at hf
                        obtain rfl := Option.some.inj hf
                        exact ⟨m1829, Nat.lt_succ_self _, rfl, rfl, rfl, rfl, rfl, rfl, rfl, S, hk⟩
                      · rw [if_neg (show ¬ (b1873 = true) from by rw [show b1873 = false from hc]; exact Bool.false_ne_true)] at hf
                        obtain rfl := Option.some.inj hf
                        obtain rfl := hk
                        exact ⟨rfl, rfl, rfl, rfl, rfl, rfl, rfl, S, rfl⟩
                    refine bP_intro (fun hc => ?_) (fun hc => ?_)
                    · rw [if_pos (show y1716 < (x0.length : Int) from of_decide_eq_true hc)] at hf
                      obtain ⟨e1884, he1884, hf⟩ := obind hf
                      obtain ⟨qe1884, q0e1884, q1e1884⟩ := SlR.ix f0_0 he1884
                      have pe1884 := (SlR.idx f0_0 (snap_mono S.le) he1884).1
                      refine ifP_iff.2 ⟨qe1884, q0e1884, (by first | exact q1e1884 | exact (idx_lt he1884).2), ?_⟩
                      obtain ⟨_, cr1885, Rr1885, Nr1885, Or1885, Zr1885⟩ := SlR.idx f0_0 (snap_mono S.le) he1884
                      obtain rfl : cr1885 = [(.int .u8 e1884)] := Rr1885
                      refine ⟨e1884, Zr1885 _ rfl, ?_⟩
                      obtain ⟨y1888, hy1888, hf⟩ := obind hf
                      refine ⟨_, Fz.refl _, ?_⟩
                      refine (r33 (c0 := e1884) hy1888).mono fun v1886 h1887 T => ?_
                      obtain ⟨rfl, T⟩ := T
                      have S : St h none' [own (oSl (fz rToken)) [y102] y110, own (oSl (fz rToken)) [y105] y111, rowC h107.n [(.int .u8 (1 : Int)), (.str ([] : List UInt8)), (.int .i64 (0 : Int)), (.int .i64 y106)] 0] h1887 := S.comp T
                      refine ⟨y1888, rfl, ?_⟩
                      intro jjj4
                      have hjj4 : ∀ (b1894 : Bool) (h1895 : Heap), p19_j4 x0 y1716 b1894 = some q1828 → St h none' [own (oSl (fz rToken)) [y102] y110, own (oSl (fz rToken)) [y105] y111, rowC h107.n [(.int .u8 (1 : Int)), (.str ([] : List UInt8)), (.int .i64 (0 : Int)), (.int .i64 y106)] 0] h1895 → jjj4 b1894 h1895 := by
                        rintro b1894 h1895 hf S
                        unfold p19_j4 at hf
                        unfold jjj4
                        intro jjj3
                        have hjj3 : ∀ (b1907 : Bool) (h1908 : Heap), p19_j3 y1716 b1907 = some q1828 → h1895 = h1908 → St h none' [own (oSl (fz rToken)) [y102] y110, own (oSl (fz rToken)) [y105] y111, rowC h107.n [(.int .u8 (1 : Int)), (.str ([] : List UInt8)), (.int .i64 (0 : Int)), (.int .i64 y106)] 0] h1895 → jjj3 b1907 h1908 := by
                          rintro b1907 h1908 hf rfl S
                          unfold p19_j3 at hf
                          unfold jjj3
                          exact hjj2 _ _  hf  S
                        refine bP_intro (fun hc => ?_) (fun hc => ?_)
                        · rw [if_pos (show b1894 = true from hc)] at hf
                          exact hjj3 _ _  hf rfl S
                        · rw [if_neg (show ¬ (b1894 = true) from by rw [show b1894 = false from hc]; exact Bool.false_ne_true)] at hf
                          obtain ⟨e1919, he1919, hf⟩ := obind hf
                          obtain ⟨qe1919, q0e1919, q1e1919⟩ := SlR.ix f0_0 he1919
                          have pe1919 := (SlR.idx f0_0 (snap_mono S.le) he1919).1
                          refine ifP_iff.2 ⟨qe1919, q0e1919, (by first | exact q1e1919 | exact (idx_lt he1919).2), ?_⟩
                          obtain ⟨_, cr1920, Rr1920, Nr1920, Or1920, Zr1920⟩ := SlR.idx f0_0 (snap_mono S.le) he1919
                          obtain rfl : cr1920 = [(.int .u8 e1919)] := Rr1920
                          refine ⟨e1919, Zr1920 _ rfl, ?_⟩
                          exact hjj3 _ _  hf rfl S
                      refine bP_intro (fun hc => ?_) (fun hc => ?_)
                      · rw [if_pos (show y1888 = true from hc)] at hf
                        exact hjj4 _ _  hf  S
                      · rw [if_neg (show ¬ (y1888 = true) from by rw [show y1888 = false from hc]; exact Bool.false_ne_true)] at hf
                        obtain ⟨e1922, he1922, hf⟩ := obind hf
                        obtain ⟨qe1922, q0e1922, q1e1922⟩ := SlR.ix f0_0 he1922
                        have pe1922 := (SlR.idx f0_0 (snap_mono S.le) he1922).1
                        refine ifP_iff.2 ⟨qe1922, q0e1922, (by first | exact q1e1922 | exact (idx_lt he1922).2), ?_⟩
                        obtain ⟨_, cr1923, Rr1923, Nr1923, Or1923, Zr1923⟩ := SlR.idx f0_0 (snap_mono S.le) he1922
                        obtain rfl : cr1923 = [(.int .u8 e1922)] := Rr1923
                        refine ⟨e1922, Zr1923 _ rfl, ?_⟩
                        obtain ⟨y1926, hy1926, hf⟩ := obind hf
                        refine ⟨_, Fz.refl _, ?_⟩
                        refine (r34 (c0 := e1922) hy1926).mono fun v1924 h1925 T => ?_
                        obtain ⟨rfl, T⟩ := T
                        have S : St h none' [own (oSl (fz rToken)) [y102] y110, own (oSl (fz rToken)) [y105] y111, rowC h107.n [(.int .u8 (1 : Int)), (.str ([] : List UInt8)), (.int .i64 (0 : Int)), (.int .i64 y106)] 0] h1925 := S.comp T
                        refine ⟨y1926, rfl, ?_⟩
                        exact hjj4 _ _  hf  S
                    · rw [if_neg (show ¬ (y1716 < (x0.length : Int)) from of_decide_eq_false hc)] at hf
                      exact hjj2 _ _  hf  S
                  · exact ⟨rfl, rfl, rfl, rfl, rfl, rfl, rfl, S, hL⟩
                · rw [if_neg (show ¬ (y1230 = true) from by rw [show y1230 = false from hc]; exact Bool.false_ne_true)] at hf
                  obtain ⟨y1929, hy1929, hf⟩ := obind hf
                  refine ⟨_, Fz.refl _, ?_⟩
                  refine (r34 (c0 := e1150) hy1929).mono fun v1927 h1928 T => ?_
                  obtain ⟨rfl, T⟩ := T
                  have S : St h none' [rowC h107.n [(.int .u8 (0 : Int)), (.str ([] : List UInt8)), (.int .i64 (0 : Int)), (.int .i64 y106)] 0, own (oSl (fz rToken)) [y102] y110, own (oSl (fz rToken)) [y105] y111] h1928 := S.comp T
                  refine ⟨y1929, rfl, ?_⟩
                  refine bP_intro (fun hc => ?_) (fun hc => ?_)
                  · rw [if_pos (show y1929 = true from hc)] at hf
                    obtain ⟨h1930, e1931, S⟩ := S.store (off := 0) (n := 1) (x := (.int .u8 (2 : Int))) (cs' := [(.int .u8 (2 : Int)), (.str ([] : List UInt8)), (.int .i64 (0 : Int)), (.int .i64 y106)]) (Nat.le_of_ble_eq_true rfl) rfl rfl rfl
                    have S : St h none' [rowC h107.n [(.int .u8 (2 : Int)), (.str ([] : List UInt8)), (.int .i64 (0 : Int)), (.int .i64 y106)] 0, own (oSl (fz rToken)) [y102] y110, own (oSl (fz rToken)) [y105] y111] h1930 := S
                    refine ⟨h1930, e1931, ?_⟩
                    obtain ⟨res1972, hL, hf⟩ := obind hf
                    obtain ⟨n1973, hL⟩ := loopC_iff.1 hL
                    have S : St h none' [own (oSl (fz rToken)) [y102] y110, own (oSl (fz rToken)) [y105] y111, rowC h107.n [(.int .u8 (2 : Int)), (.str ([] : List UInt8)), (.int .i64 (0 : Int)), (.int .i64 y106)] 0] h1930 := S.sel [1, 2, 0] rfl
                    refine loopm19_2 (X6 := fun (y1963 : AV) (y1964 : AV) (y1965 : Int) (y1966 : Int) (y1967 : AV) (y1968 : Int) (y1969 : Int) (y1970 : AV) (h1971 : Heap) => a0_0 = y1963 ∧ y102 = y1964 ∧ y103 = y1965 ∧ y104 = y1966 ∧ y105 = y1967 ∧ y106 = y1968 ∧ AV.ptr h107.n 0 0 = y1970 ∧ St h none' [own (oSl (fz rToken)) [y102] y110, own (oSl (fz rToken)) [y105] y111, rowC h107.n [(.int .u8 (2 : Int)), (.str ([] : List UInt8)), (.int .i64 (0 : Int)), (.int .i64 y106)] 0] h1971 ∧ y1969 = res1972) ?_ (loop19_2 (I := fun (m1975 : Nat) (y1932 : AV) (y1933 : AV) (y1934 : Int) (y1935 : Int) (y1936 : AV) (y1937 : Int) (y1938 : Int) (y1939 : AV) (h1940 : Heap) => a0_0 = y1932 ∧ y102 = y1933 ∧ y103 = y1934 ∧ y104 = y1935 ∧ y105 = y1936 ∧ y106 = y1937 ∧ AV.ptr h107.n 0 0 = y1939 ∧ St h none' [own (oSl (fz rToken)) [y102] y110, own (oSl (fz rToken)) [y105] y111, rowC h107.n [(.int .u8 (2 : Int)), (.str ([] : List UInt8)), (.int .i64 (0 : Int)), (.int .i64 y106)] 0] h1940 ∧ iter (p19_l2 x0) m1975 y1938 = some res1972) ?_ (m := n1973) ?_)
                    · rintro y1963 y1964 y1965 y1966 y1967 y1968 y1969 y1970 h1971 ⟨rfl, rfl, rfl, rfl, rfl, rfl, rfl, S, rfl⟩
                      try dsimp only at hf
                      obtain ⟨res2040, hL, hf⟩ := obind hf
                      obtain ⟨n2041, hL⟩ := loopC_iff.1 hL
                      refine loopm19_3 (R := fun (y2019 : AV) (y2020 : AV) (y2021 : Int) (y2022 : Int) (y2023 : AV) (y2024 : Int) (y2025 : Int) (y2026 : AV) (y2027 : Int) (h2028 : Heap) => AV.nilSlice = y2020 ∧ (3 : Int) = y2021 ∧ y106 = y2022 ∧ St h none' [] h2028 ∧ (.inl ()) = res2040) (X8 := fun (y2029 : AV) (y2030 : AV) (y2031 : Int) (y2032 : Int) (y2033 : AV) (y2034 : Int) (y2035 : Int) (y2036 : AV) (y2037 : Int) (h2038 : Heap) => ∃ (c2039 : Int), a0_0 = y2029 ∧ y105 = y2033 ∧ y106 = y2034 ∧ y1969 = y2035 ∧ AV.ptr h107.n 0 0 = y2036 ∧ St h none' [own (oSl (fz rToken)) [y2030] y110, own (oSl (fz rToken)) [y105] y111, rowC h107.n [(.int .u8 (2 : Int)), (.str ([] : List UInt8)), (.int .i64 c2039), (.int .i64 y106)] 0] h2038 ∧ (.inr (y2031, y2032, c2039)) = res2040) ?_ ?_ (loop19_3 (I := fun (m2043 : Nat) (y1997 : AV) (y1998 : AV) (y1999 : Int) (y2000 : Int) (y2001 : AV) (y2002 : Int) (y2003 : Int) (y2004 : AV) (y2005 : Int) (h2011 : Heap) => ∃ (c2012 : Int), a0_0 = y1997 ∧ y105 = y2001 ∧ y106 = y2002 ∧ y1969 = y2003 ∧ AV.ptr h107.n 0 0 = y2004 ∧ St h none' [own (oSl (fz rToken)) [y1998] y110, own (oSl (fz rToken)) [y105] y111, rowC h107.n [(.int .u8 (2 : Int)), (.str ([] : List UInt8)), (.int .i64 c2012), (.int .i64 y106)] 0] h2011 ∧ iter (p19_l3 x0 y1969) m2043 (y1999, y2000, y2005, c2012) = some res2040) ?_ (m := n2041) ?_)
                      · rintro y2019 y2020 y2021 y2022 y2023 y2024 y2025 y2026 y2027 h2028 ⟨rfl, rfl, rfl, S, rfl⟩
                        try dsimp only at hf
                        obtain rfl := Option.some.inj hf
                        obtain rfl := hk
                        exact ⟨rfl, S, rfl⟩
                      · rintro y2029 y2030 y2031 y2032 y2033 y2034 y2035 y2036 y2037 h2038 ⟨c2039, rfl, rfl, rfl, rfl, rfl, S, rfl⟩
                        try dsimp only at hf
                        exact hjj1 _ _ _ _ _ _ _ _ _ (2 : Int) c2039 hf rfl rfl rfl rfl S
                      · rintro m20430 y1997 y1998 y1999 y2000 y2001 y2002 y2003 y2004 y2005 h2011 ⟨c2012, rfl, rfl, rfl, rfl, rfl, S, hit⟩
                        obtain ⟨m2043, q2042, rfl, hf, hk⟩ := iter_some hit
                        clear hit
                        unfold B19_3
                        unfold p19_l3 at hf
                        try dsimp only at hf
                        refine bP_intro (fun hc => ?_) (fun hc => ?_)
                        · rw [if_pos (show y2005 < y1969 from of_decide_eq_true hc)] at hf
                          refine ifP_iff.2 ⟨rfl, ?_⟩
                          refine ⟨c2012, S.rd1 (.tail _ (.tail _ (.head _))) rfl, ?_⟩
                          obtain ⟨e2044, he2044, hf⟩ := obind hf
                          obtain ⟨qe2044, q0e2044, q1e2044⟩ := SlR.ix f0_0 he2044
                          have pe2044 := (SlR.idx f0_0 (snap_mono S.le) he2044).1
                          refine ifP_iff.2 ⟨qe2044, q0e2044, (by first | exact q1e2044 | exact (idx_lt he2044).2), ?_⟩
                          obtain ⟨_, cr2045, Rr2045, Nr2045, Or2045, Zr2045⟩ := SlR.idx f0_0 (snap_mono S.le) he2044
                          obtain rfl : cr2045 = [(.int .u8 e2044)] := Rr2045
                          refine ⟨e2044, Zr2045 _ rfl, ?_⟩
                          refine ifP_iff.2 ⟨rfl, ?_⟩
                          have S : St h none' [rowC h107.n [(.int .u8 (2 : Int)), (.str ([] : List UInt8)), (.int .i64 c2012), (.int .i64 y106)] 0, own (oSl (fz rToken)) [y1998] y110, own (oSl (fz rToken)) [y105] y111] h2011 := S.sel [2, 0, 1] rfl
                          obtain ⟨h2046, e2047, S⟩ := S.store (off := 2) (n := 1) (x := (.int .i64 (IntKind.wrap .i64 ((IntKind.wrap .i64 (c2012 * (10 : Int))) + (IntKind.wrap .i64 (IntKind.wrap .u8 (e2044 - (48 : Int)))))))) (cs' := [(.int .u8 (2 : Int)), (.str ([] : List UInt8)), (.int .i64 (IntKind.wrap .i64 ((IntKind.wrap .i64 (c2012 * (10 : Int))) + (IntKind.wrap .i64 (IntKind.wrap .u8 (e2044 - (48 : Int))))))), (.int .i64 y106)]) (Nat.le_of_ble_eq_true rfl) rfl rfl rfl
                          have S : St h none' [rowC h107.n [(.int .u8 (2 : Int)), (.str ([] : List UInt8)), (.int .i64 (IntKind.wrap .i64 ((IntKind.wrap .i64 (c2012 * (10 : Int))) + (IntKind.wrap .i64 (IntKind.wrap .u8 (e2044 - (48 : Int))))))), (.int .i64 y106)] 0, own (oSl (fz rToken)) [y1998] y110, own (oSl (fz rToken)) [y105] y111] h2046 := S
                          refine ⟨h2046, e2047, ?_⟩
                          refine ifP_iff.2 ⟨rfl, ?_⟩
                          refine ⟨(IntKind.wrap .i64 ((IntKind.wrap .i64 (c2012 * (10 : Int))) + (IntKind.wrap .i64 (IntKind.wrap .u8 (e2044 - (48 : Int)))))), S.rd1 (.head _) rfl, ?_⟩
                          refine bP_intro (fun hc => ?_) (fun hc => ?_)
                          · rw [if_pos (show (1125899906842624 : Int) < (IntKind.wrap .i64 ((IntKind.wrap .i64 (c2012 * (10 : Int))) + (IntKind.wrap .i64 (IntKind.wrap .u8 (e2044 - (48 : Int)))))) from of_decide_eq_true hc)] at hf
                            have S : St h none' [] h2046 := S.sel [] rfl
                            obtain rfl := Option.some.inj hf
                            obtain rfl := hk
                            exact ⟨rfl, rfl, rfl, S, rfl⟩
                          · rw [if_neg (show ¬ ((1125899906842624 : Int) < (IntKind.wrap .i64 ((IntKind.wrap .i64 (c2012 * (10 : Int))) + (IntKind.wrap .i64 (IntKind.wrap .u8 (e2044 - (48 : Int))))))) from of_decide_eq_false hc)] at hf
                            have S : St h none' [own (oSl (fz rToken)) [y1998] y110, own (oSl (fz rToken)) [y105] y111, rowC h107.n [(.int .u8 (2 : Int)), (.str ([] : List UInt8)), (.int .i64 (IntKind.wrap .i64 ((IntKind.wrap .i64 (c2012 * (10 : Int))) + (IntKind.wrap .i64 (IntKind.wrap .u8 (e2044 - (48 : Int))))))), (.int .i64 y106)] 0] h2046 := S.sel [1, 2, 0] rfl
                            obtain rfl := Option.some.inj hf
                            exact ⟨m2043, Nat.lt_succ_self _, (IntKind.wrap .i64 ((IntKind.wrap .i64 (c2012 * (10 : Int))) + (IntKind.wrap .i64 (IntKind.wrap .u8 (e2044 - (48 : Int)))))), rfl, rfl, rfl, rfl, rfl, S, hk⟩
                        · rw [if_neg (show ¬ (y2005 < y1969) from of_decide_eq_false hc)] at hf
                          obtain rfl := Option.some.inj hf
                          obtain rfl := hk
                          exact ⟨c2012, rfl, rfl, rfl, rfl, rfl, S, rfl⟩
                      · exact ⟨(0 : Int), rfl, rfl, rfl, rfl, rfl, S, hL⟩
                    · rintro m19750 y1932 y1933 y1934 y1935 y1936 y1937 y1938 y1939 h1940 ⟨rfl, rfl, rfl, rfl, rfl, rfl, rfl, S, hit⟩
                      obtain ⟨m1975, q1974, rfl, hf, hk⟩ := iter_some hit
                      clear hit
                      unfold B19_2
                      unfold p19_l2 at hf
                      try dsimp only at hf
                      refine ifP_iff.2 ⟨(f0_0).is, ?_⟩
                      try rw [(f0_0).slen]
                      intro jjj5
                      have hjj5 : ∀ (b1981 : Bool) (h1982 : Heap), p19_j5 y1938 b1981 = some q1974 → St h none' [own (oSl (fz rToken)) [y102] y110, own (oSl (fz rToken)) [y105] y111, rowC h107.n [(.int .u8 (2 : Int)), (.str ([] : List UInt8)), (.int .i64 (0 : Int)), (.int .i64 y106)] 0] h1982 → jjj5 b1981 h1982 := by
                        rintro b1981 h1982 hf S
                        unfold p19_j5 at hf
                        unfold jjj5
                        refine bP_intro (fun hc => ?_) (fun hc => ?_)
                        · rw [if_pos (show b1981 = true from hc)] at hf
                          obtain rfl := Option.some.inj hf
                          exact ⟨m1975, Nat.lt_succ_self _, rfl, rfl, rfl, rfl, rfl, rfl, rfl, S, hk⟩
                        · rw [if_neg (show ¬ (b1981 = true) from by rw [show b1981 = false from hc]; exact Bool.false_ne_true)] at hf
                          obtain rfl := Option.some.inj hf
                          obtain rfl := hk
                          exact ⟨rfl, rfl, rfl, rfl, rfl, rfl, rfl, S, rfl⟩
                      refine bP_intro (fun hc => ?_) (fun hc => ?_)
                      · rw [if_pos (show y1938 < (x0.length : Int) from of_decide_eq_true hc)] at hf
                        obtain ⟨e1992, he1992, hf⟩ := obind hf
                        obtain ⟨qe1992, q0e1992, q1e1992⟩ := SlR.ix f0_0 he1992
                        have pe1992 := (SlR.idx f0_0 (snap_mono S.le) he1992).1
                        refine ifP_iff.2 ⟨qe1992, q0e1992, (by first | exact q1e1992 | exact (idx_lt he1992).2), ?_⟩
                        obtain ⟨_, cr1993, Rr1993, Nr1993, Or1993, Zr1993⟩ := SlR.idx f0_0 (snap_mono S.le) he1992
                        obtain rfl : cr1993 = [(.int .u8 e1992)] := Rr1993
                        refine ⟨e1992, Zr1993 _ rfl, ?_⟩
                        obtain ⟨y1996, hy1996, hf⟩ := obind hf
                        refine ⟨_, Fz.refl _, ?_⟩
                        refine (r34 (c0 := e1992) hy1996).mono fun v1994 h1995 T => ?_
                        obtain ⟨rfl, T⟩ := T
                        have S : St h none' [own (oSl (fz rToken)) [y102] y110, own (oSl (fz rToken)) [y105] y111, rowC h107.n [(.int .u8 (2 : Int)), (.str ([] : List UInt8)), (.int .i64 (0 : Int)), (.int .i64 y106)] 0] h1995 := S.comp T
                        refine ⟨y1996, rfl, ?_⟩
                        exact hjj5 _ _  hf  S
                      · rw [if_neg (show ¬ (y1938 < (x0.length : Int)) from of_decide_eq_false hc)] at hf
                        exact hjj5 _ _  hf  S
                    · exact ⟨rfl, rfl, rfl, rfl, rfl, rfl, rfl, S, hL⟩
                  · rw [if_neg (show ¬ (y1929 = true) from by rw [show y1929 = false from hc]; exact Bool.false_ne_true)] at hf
                    intro jjj8
                    have hjj8 : ∀ (b2048 : Bool) (h2049 : Heap), p19_j8 x0 y103 y104 y106 y110 y111 e1150 b2048 = some q1148 → h1928 = h2049 → St h none' [own (oSl (fz rToken)) [y102] y110, own (oSl (fz rToken)) [y105] y111, rowC h107.n [(.int .u8 (0 : Int)), (.str ([] : List UInt8)), (.int .i64 (0 : Int)), (.int .i64 y106)] 0] h1928 → jjj8 b2048 h2049 := by
                      rintro b2048 h2049 hf rfl S
                      unfold p19_j8 at hf
                      unfold jjj8
                      intro jjj7
                      have hjj7 : ∀ (b2061 : Bool) (h2062 : Heap), p19_j7 x0 y103 y104 y106 y110 y111 e1150 b2061 = some q1148 → h1928 = h2062 → St h none' [own (oSl (fz rToken)) [y102] y110, own (oSl (fz rToken)) [y105] y111, rowC h107.n [(.int .u8 (0 : Int)), (.str ([] : List UInt8)), (.int .i64 (0 : Int)), (.int .i64 y106)] 0] h1928 → jjj7 b2061 h2062 := by
                        rintro b2061 h2062 hf rfl S
                        unfold p19_j7 at hf
                        unfold jjj7
                        refine bP_intro (fun hc => ?_) (fun hc => ?_)
                        · rw [if_pos (show b2061 = true from hc)] at hf
                          refine ifP_iff.2 ⟨rfl, ?_⟩
                          have S : St h none' [rowC h107.n [(.int .u8 (0 : Int)), (.str ([] : List UInt8)), (.int .i64 (0 : Int)), (.int .i64 y106)] 0, own (oSl (fz rToken)) [y102] y110, own (oSl (fz rToken)) [y105] y111] h1928 := S.sel [2, 0, 1] rfl
                          obtain ⟨h2072, e2073, S⟩ := S.store (off := 0) (n := 1) (x := (.int .u8 (3 : Int))) (cs' := [(.int .u8 (3 : Int)), (.str ([] : List UInt8)), (.int .i64 (0 : Int)), (.int .i64 y106)]) (Nat.le_of_ble_eq_true rfl) rfl rfl rfl
                          have S : St h none' [rowC h107.n [(.int .u8 (3 : Int)), (.str ([] : List UInt8)), (.int .i64 (0 : Int)), (.int .i64 y106)] 0, own (oSl (fz rToken)) [y102] y110, own (oSl (fz rToken)) [y105] y111] h2072 := S
                          refine ⟨h2072, e2073, ?_⟩
                          have S : St h none' [own (oSl (fz rToken)) [y102] y110, own (oSl (fz rToken)) [y105] y111, rowC h107.n [(.int .u8 (3 : Int)), (.str ([] : List UInt8)), (.int .i64 (0 : Int)), (.int .i64 y106)] 0] h2072 := S.sel [1, 2, 0] rfl
                          exact hjj1 _ _ _ _ _ _ _ _ _ (3 : Int) (0 : Int) hf rfl rfl rfl rfl S
                        · rw [if_neg (show ¬ (b2061 = true) from by rw [show b2061 = false from hc]; exact Bool.false_ne_true)] at hf
                          obtain ⟨res2137, hL, hf⟩ := obind hf
                          obtain ⟨n2138, hL⟩ := loopC_iff.1 hL
                          refine loopm19_4 (X10 := fun (y2125 : AV) (y2126 : AV) (y2127 : Int) (y2128 : Int) (y2129 : AV) (y2130 : Int) (y2131 : Int) (y2132 : Int) (y2133 : AV) (y2134 : Int) (h2135 : Heap) => ∃ (c2136 : Int), a0_0 = y2125 ∧ y102 = y2126 ∧ y103 = y2127 ∧ y104 = y2128 ∧ y105 = y2129 ∧ y106 = y2130 ∧ (IntKind.wrap .i64 (y106 + (1 : Int))) = y2132 ∧ AV.ptr h107.n 0 0 = y2133 ∧ St h none' [own (oSl (fz rToken)) [y102] y110, own (oSl (fz rToken)) [y105] y111, rowC h107.n [(.int .u8 c2136), (.str ([] : List UInt8)), (.int .i64 (0 : Int)), (.int .i64 y106)] 0] h2135 ∧ c2136 = res2137) ?_ (loop19_4 (I := fun (m2140 : Nat) (y2074 : AV) (y2075 : AV) (y2076 : Int) (y2077 : Int) (y2078 : AV) (y2079 : Int) (y2080 : Int) (y2081 : Int) (y2082 : AV) (y2083 : Int) (h2103 : Heap) => ∃ (c2104 : Int), a0_0 = y2074 ∧ y102 = y2075 ∧ y103 = y2076 ∧ y104 = y2077 ∧ y105 = y2078 ∧ y106 = y2079 ∧ e1150 = y2080 ∧ (IntKind.wrap .i64 (y106 + (1 : Int))) = y2081 ∧ AV.ptr h107.n 0 0 = y2082 ∧ St h none' [own (oSl (fz rToken)) [y102] y110, own (oSl (fz rToken)) [y105] y111, rowC h107.n [(.int .u8 c2104), (.str ([] : List UInt8)), (.int .i64 (0 : Int)), (.int .i64 y106)] 0] h2103 ∧ iter (p19_l4 e1150) m2140 (y2083, c2104) = some res2137) ?_ (m := n2138) ?_)
                          · rintro y2125 y2126 y2127 y2128 y2129 y2130 y2131 y2132 y2133 y2134 h2135 ⟨c2136, rfl, rfl, rfl, rfl, rfl, rfl, rfl, rfl, S, rfl⟩
                            try dsimp only at hf
                            refine ifP_iff.2 ⟨rfl, ?_⟩
                            refine ⟨c2136, S.rd1 (.tail _ (.tail _ (.head _))) rfl, ?_⟩
                            refine bP_intro (fun hc => ?_) (fun hc => ?_)
                            · rw [if_pos (show c2136 = (0 : Int) from of_decide_eq_true hc)] at hf
                              have S : St h none' [] h2135 := S.sel [] rfl
                              obtain rfl := Option.some.inj hf
                              obtain rfl := hk
                              exact ⟨rfl, S, rfl⟩
                            · rw [if_neg (show ¬ (c2136 = (0 : Int)) from of_decide_eq_false hc)] at hf
                              exact hjj1 _ _ _ _ _ _ _ _ _ c2136 (0 : Int) hf rfl rfl rfl rfl S
                          · rintro m21400 y2074 y2075 y2076 y2077 y2078 y2079 y2080 y2081 y2082 y2083 h2103 ⟨c2104, rfl, rfl, rfl, rfl, rfl, rfl, rfl, rfl, rfl, S, hit⟩
                            obtain ⟨m2140, q2139, rfl, hf, hk⟩ := iter_some hit
                            clear hit
                            unfold B19_4
                            unfold p19_l4 at hf
                            try dsimp only at hf
                            refine bP_intro (fun hc => ?_) (fun hc => ?_)
                            · rw [if_pos (show y2083 < (8 : Int) from of_decide_eq_true hc)] at hf
                              obtain ⟨y2141, hy2141, hf⟩ := obind hf
                              refine oP_intro (.int .u8 y2141) (idxS_ev hy2141) ⟨y2141, rfl, ?_⟩
                              intro jjj6
                              have hjj6 : ∀  (h2144 : Heap) (c2155 : Int), p19_j6 y2083 c2155 = some q2139 → St h none' [own (oSl (fz rToken)) [y102] y110, own (oSl (fz rToken)) [y105] y111, rowC h107.n [(.int .u8 c2155), (.str ([] : List UInt8)), (.int .i64 (0 : Int)), (.int .i64 y106)] 0] h2144 → jjj6 h2144 := by
                                rintro h2144 c2155 hf S
                                unfold p19_j6 at hf
                                unfold jjj6
                                obtain rfl := Option.some.inj hf
                                exact ⟨m2140, Nat.lt_succ_self _, c2155, rfl, rfl, rfl, rfl, rfl, rfl, rfl, rfl, rfl, S, hk⟩
                              refine bP_intro (fun hc => ?_) (fun hc => ?_)
                              · rw [if_pos (show y2141 = e1150 from of_decide_eq_true hc)] at hf
                                refine ifP_iff.2 ⟨rfl, ?_⟩
                                have S : St h none' [rowC h107.n [(.int .u8 c2104), (.str ([] : List UInt8)), (.int .i64 (0 : Int)), (.int .i64 y106)] 0, own (oSl (fz rToken)) [y102] y110, own (oSl (fz rToken)) [y105] y111] h2103 := S.sel [2, 0, 1] rfl
                                obtain ⟨h2157, e2158, S⟩ := S.store (off := 0) (n := 1) (x := (.int .u8 (3 : Int))) (cs' := [(.int .u8 (3 : Int)), (.str ([] : List UInt8)), (.int .i64 (0 : Int)), (.int .i64 y106)]) (Nat.le_of_ble_eq_true rfl) rfl rfl rfl
                                have S : St h none' [rowC h107.n [(.int .u8 (3 : Int)), (.str ([] : List UInt8)), (.int .i64 (0 : Int)), (.int .i64 y106)] 0, own (oSl (fz rToken)) [y102] y110, own (oSl (fz rToken)) [y105] y111] h2157 := S
                                refine ⟨h2157, e2158, ?_⟩
                                have S : St h none' [own (oSl (fz rToken)) [y102] y110, own (oSl (fz rToken)) [y105] y111, rowC h107.n [(.int .u8 (3 : Int)), (.str ([] : List UInt8)), (.int .i64 (0 : Int)), (.int .i64 y106)] 0] h2157 := S.sel [1, 2, 0] rfl
                                exact hjj6  _ (3 : Int) hf  S
                              · rw [if_neg (show ¬ (y2141 = e1150) from of_decide_eq_false hc)] at hf
                                exact hjj6  _ c2104 hf  S
                            · rw [if_neg (show ¬ (y2083 < (8 : Int)) from of_decide_eq_false hc)] at hf
                              obtain rfl := Option.some.inj hf
                              obtain rfl := hk
                              exact ⟨c2104, rfl, rfl, rfl, rfl, rfl, rfl, rfl, rfl, S, rfl⟩
                          · exact ⟨(0 : Int), rfl, rfl, rfl, rfl, rfl, rfl, rfl, rfl, rfl, S, hL⟩
                      refine bP_intro (fun hc => ?_) (fun hc => ?_)
                      · rw [if_pos (show b2048 = true from hc)] at hf
                        obtain ⟨e2160, he2160, hf⟩ := obind hf
                        obtain ⟨qe2160, q0e2160, q1e2160⟩ := SlR.ix f0_0 he2160
                        have pe2160 := (SlR.idx f0_0 (snap_mono S.le) he2160).1
                        refine ifP_iff.2 ⟨qe2160, q0e2160, (by first | exact q1e2160 | exact (idx_lt he2160).2), ?_⟩
                        obtain ⟨_, cr2161, Rr2161, Nr2161, Or2161, Zr2161⟩ := SlR.idx f0_0 (snap_mono S.le) he2160
                        obtain rfl : cr2161 = [(.int .u8 e2160)] := Rr2161
                        refine ⟨e2160, Zr2161 _ rfl, ?_⟩
                        exact hjj7 _ _  hf rfl S
                      · rw [if_neg (show ¬ (b2048 = true) from by rw [show b2048 = false from hc]; exact Bool.false_ne_true)] at hf
                        exact hjj7 _ _  hf rfl S
                    refine bP_intro (fun hc => ?_) (fun hc => ?_)
                    · rw [if_pos (show e1150 = (45 : Int) from of_decide_eq_true hc)] at hf
                      refine ifP_iff.2 ⟨(f0_0).is, ?_⟩
                      try rw [(f0_0).slen]
                      have S : St h none' [own (oSl (fz rToken)) [y102] y110, own (oSl (fz rToken)) [y105] y111, rowC h107.n [(.int .u8 (0 : Int)), (.str ([] : List UInt8)), (.int .i64 (0 : Int)), (.int .i64 y106)] 0] h1928 := S.sel [1, 2, 0] rfl
                      exact hjj8 _ _  hf rfl S
                    · rw [if_neg (show ¬ (e1150 = (45 : Int)) from of_decide_eq_false hc)] at hf
                      have S : St h none' [own (oSl (fz rToken)) [y102] y110, own (oSl (fz rToken)) [y105] y111, rowC h107.n [(.int .u8 (0 : Int)), (.str ([] : List UInt8)), (.int .i64 (0 : Int)), (.int .i64 y106)] 0] h1928 := S.sel [1, 2, 0] rfl
                      exact hjj8 _ _  hf rfl S
          refine bP_intro (fun hc => ?_) (fun hc => ?_)
          · rw [if_pos (show b1161 = true from hc)] at hf
            exact hjj9 _ _  hf rfl S
          · rw [if_neg (show ¬ (b1161 = true) from by rw [show b1161 = false from hc]; exact Bool.false_ne_true)] at hf
            exact hjj9 _ _  hf rfl S
        refine bP_intro (fun hc => ?_) (fun hc => ?_)
        · rw [if_pos (show b1152 = true from hc)] at hf
          exact hjj10 _ _  hf rfl S
        · rw [if_neg (show ¬ (b1152 = true) from by rw [show b1152 = false from hc]; exact Bool.false_ne_true)] at hf
          exact hjj10 _ _  hf rfl S
      refine bP_intro (fun hc => ?_) (fun hc => ?_)
      · rw [if_pos (show e1150 = (32 : Int) from of_decide_eq_true hc)] at hf
        exact hjj11 _ _  hf rfl S
      · rw [if_neg (show ¬ (e1150 = (32 : Int)) from of_decide_eq_false hc)] at hf
        exact hjj11 _ _  hf rfl S
    · rw [if_neg (show ¬ (y106 < (x0.length : Int)) from of_decide_eq_false hc)] at hf
      have S : St h none' [own (oSl (fz rToken)) [y105] y111] h107 := S.sel [1] rfl
      obtain rfl := Option.some.inj hf
      obtain rfl := hk
      exact ⟨y111, rfl, S, rfl⟩
  · exact ⟨[], [], rfl, S, hL⟩
/-! 17: marblerun/marblerunlaw04.awake -/
noncomputable def p17_j0 (b124 : Bool) : Option Bool := some b124
noncomputable def p17_j1 (u105 : (List TTokenlex) × TFault) (b118 : Bool) : Option Bool := if b118 = true then ((idx u105.1 (3 : Int)).bind fun e128 => p17_j0 (decide (e128.Kind = (0 : Int)))) else (p17_j0 false)
noncomputable def p17_j2 (u105 : (List TTokenlex) × TFault) (b112 : Bool) : Option Bool := if b112 = true then ((idx u105.1 (1 : Int)).bind fun e131 => p17_j1 u105 (e131.Text == ([45, 62] : List UInt8))) else (p17_j1 u105 false)
noncomputable def p17 : Option Bool := (p18 [(97 : Int), (45 : Int), (62 : Int), (98 : Int)]).bind fun u105 => if u105.2.Err = (0 : Int) then (p17_j2 u105 (decide ((u105.1.length : Int) = (4 : Int)))) else (p17_j2 u105 false)
theorem r17 {h : Heap}   {r : Bool} (hf : p17  = some r) : ZCalls F 17 [] h fun v h' => v = .bool r ∧ St h none' [] h' := by
  refine w17 ?_
  unfold W17
  unfold p17 at hf
  have S : St h none' [] h := St.refl _ _
  intro h101
  have S : St h none' [rowC h.n [(.int .u8 (97 : Int)), (.int .u8 (45 : Int)), (.int .u8 (62 : Int)), (.int .u8 (98 : Int))] 0] h101 := S.pushRow [(.int .u8 (97 : Int)), (.int .u8 (45 : Int)), (.int .u8 (62 : Int)), (.int .u8 (98 : Int))]
  have S : St h none' [own (oSl (fz (rI .u8))) [(.slice h.n 0 0 4 1)] [(97 : Int), (45 : Int), (62 : Int), (98 : Int)]] h101 := St.lit (r := (rI .u8)) (els := [[(.int .u8 (97 : Int))], [(.int .u8 (45 : Int))], [(.int .u8 (62 : Int))], [(.int .u8 (98 : Int))]]) (l := [(97 : Int), (45 : Int), (62 : Int), (98 : Int)]) (n := 4) S rfl (.cons rfl (.cons rfl (.cons rfl (.cons rfl (.nil))))) rfl
  refine ⟨_, _, S.byteConv (r := (fz (rI .u8))) (.head _) (by simp [AV.slen]), ?_⟩
  obtain ⟨u105, hu105, hf⟩ := obind hf
  refine ⟨_, Fz.refl _, ?_⟩
  refine (r18 (p0 := [(97 : Int), (45 : Int), (62 : Int), (98 : Int)]) (f0_0 := (S.sl (r := (fz (rI .u8))) (.head _))) hu105).mono fun v103 h104 T => ?_
  obtain ⟨w106, rfl, T⟩ := T
  have S : St h none' [own (oSl (fz rTokenlex)) [w106] u105.1, own (oSl (fz (rI .u8))) [(.slice h.n 0 0 4 1)] [(97 : Int), (45 : Int), (62 : Int), (98 : Int)]] h104 := S.comp T
  refine oP_intro w106 rfl ?_
  refine oP_intro (.agg [(.int .i64 u105.2.Err), (.int .i64 u105.2.At), (.int .i64 u105.2.Line), (.int .i64 u105.2.Col)]) rfl ?_
  intro h108
  have S : St h none' [rowC h104.n [(.int .i64 (0 : Int)), (.int .i64 (0 : Int)), (.int .i64 (0 : Int)), (.int .i64 (0 : Int))] 0, own (oSl (fz rTokenlex)) [w106] u105.1, own (oSl (fz (rI .u8))) [(.slice h.n 0 0 4 1)] [(97 : Int), (45 : Int), (62 : Int), (98 : Int)]] h108 := S.pushRow [(.int .i64 (0 : Int)), (.int .i64 (0 : Int)), (.int .i64 (0 : Int)), (.int .i64 (0 : Int))]
  obtain ⟨h110, e111, S⟩ := S.store (off := 0) (n := 4) (x := (.agg [(.int .i64 u105.2.Err), (.int .i64 u105.2.At), (.int .i64 u105.2.Line), (.int .i64 u105.2.Col)])) (cs' := [(.int .i64 u105.2.Err), (.int .i64 u105.2.At), (.int .i64 u105.2.Line), (.int .i64 u105.2.Col)]) (Nat.le_of_ble_eq_true rfl) rfl rfl rfl
  have S : St h none' [rowC h104.n [(.int .i64 u105.2.Err), (.int .i64 u105.2.At), (.int .i64 u105.2.Line), (.int .i64 u105.2.Col)] 0, own (oSl (fz rTokenlex)) [w106] u105.1, own (oSl (fz (rI .u8))) [(.slice h.n 0 0 4 1)] [(97 : Int), (45 : Int), (62 : Int), (98 : Int)]] h110 := S
  refine ⟨h110, e111, ?_⟩
  refine ⟨u105.2.Err, S.rd1 (.head _) rfl, ?_⟩
  intro jjj2
  have hjj2 : ∀ (b112 : Bool) (h113 : Heap), p17_j2 u105 b112 = some r → h110 = h113 → St h none' [own (oSl (fz rTokenlex)) [w106] u105.1] h110 → jjj2 b112 h113 := by
    rintro b112 h113 hf rfl S
    unfold p17_j2 at hf
    unfold jjj2
    intro jjj1
    have hjj1 : ∀ (b118 : Bool) (h119 : Heap), p17_j1 u105 b118 = some r → h110 = h119 → St h none' [own (oSl (fz rTokenlex)) [w106] u105.1] h110 → jjj1 b118 h119 := by
      rintro b118 h119 hf rfl S
      unfold p17_j1 at hf
      unfold jjj1
      intro jjj0
      have hjj0 : ∀ (b124 : Bool) (h125 : Heap), p17_j0 b124 = some r → h110 = h125 → St h none' [] h110 → jjj0 b124 h125 := by
        rintro b124 h125 hf rfl S
        unfold p17_j0 at hf
        unfold jjj0
        obtain rfl := Option.some.inj hf
        exact ⟨rfl, S.sel [] rfl⟩
      refine bP_intro (fun hc => ?_) (fun hc => ?_)
      · rw [if_pos (show b118 = true from hc)] at hf
        obtain ⟨e128, he128, hf⟩ := obind hf
        obtain ⟨qe128, q0e128, q1e128⟩ := SlR.ix (S.sl (r := (fz rTokenlex)) (.head _)) he128
        have pe128 := (SlR.idx (S.sl (r := (fz rTokenlex)) (.head _)) (Hp.le_refl _) he128).1
        refine ifP_iff.2 ⟨qe128, q0e128, (by first | exact q1e128 | exact (idx_lt he128).2), ?_⟩
        refine ifP_iff.2 ⟨pe128, ?_⟩
        obtain ⟨_, cr129, Rr129, Nr129, Or129, Zr129⟩ := St.idxO (r := rTokenlex) S (.head _) he128
        obtain rfl := rTokenlex_open Rr129
        refine ⟨e128.Kind, Or129 0 _ rfl, ?_⟩
        have S : St h none' [] h110 := S.sel [] rfl
        exact hjj0 _ _  hf rfl S
      · rw [if_neg (show ¬ (b118 = true) from by rw [show b118 = false from hc]; exact Bool.false_ne_true)] at hf
        have S : St h none' [] h110 := S.sel [] rfl
        exact hjj0 _ _  hf rfl S
    refine bP_intro (fun hc => ?_) (fun hc => ?_)
    · rw [if_pos (show b112 = true from hc)] at hf
      obtain ⟨e131, he131, hf⟩ := obind hf
      obtain ⟨qe131, q0e131, q1e131⟩ := SlR.ix (S.sl (r := (fz rTokenlex)) (.head _)) he131
      have pe131 := (SlR.idx (S.sl (r := (fz rTokenlex)) (.head _)) (Hp.le_refl _) he131).1
      refine ifP_iff.2 ⟨qe131, q0e131, (by first | exact q1e131 | exact (idx_lt he131).2), ?_⟩
      refine ifP_iff.2 ⟨pe131, ?_⟩
      obtain ⟨_, cr132, Rr132, Nr132, Or132, Zr132⟩ := St.idxO (r := rTokenlex) S (.head _) he131
      obtain rfl := rTokenlex_open Rr132
      refine ⟨e131.Text, Or132 1 _ rfl, ?_⟩
      exact hjj1 _ _  hf rfl S
    · rw [if_neg (show ¬ (b112 = true) from by rw [show b112 = false from hc]; exact Bool.false_ne_true)] at hf
      exact hjj1 _ _  hf rfl S
  refine bP_intro (fun hc => ?_) (fun hc => ?_)
  · rw [if_pos (show u105.2.Err = (0 : Int) from of_decide_eq_true hc)] at hf
    refine ifP_iff.2 ⟨((S.sl (r := (fz rTokenlex)) (.tail _ (.head _)))).is, ?_⟩
    try rw [((S.sl (r := (fz rTokenlex)) (.tail _ (.head _)))).slen]
    have S : St h none' [own (oSl (fz rTokenlex)) [w106] u105.1] h110 := S.sel [1] rfl
    exact hjj2 _ _  hf rfl S
  · rw [if_neg (show ¬ (u105.2.Err = (0 : Int)) from of_decide_eq_false hc)] at hf
    have S : St h none' [own (oSl (fz rTokenlex)) [w106] u105.1] h110 := S.sel [1] rfl
    exact hjj2 _ _  hf rfl S
/-! 3: marblerun/marblerunlaw04.LexTokens -/
noncomputable def p3_j0 (b128 : Bool) : Option Bool := some b128
noncomputable def p3_l0 (u113 : (List TTokenlex) × TFault) (u122 : (List TToken) × Int × Int) (y140 : Int) : Option (Int ⊕ (Unit ⊕ Unit)) := if y140 < (u113.1.length : Int) then ((idx u113.1 y140).bind fun e161 => (idx u122.1 y140).bind fun e163 => if (!((decide (e161.Kind = e163.Kind)) && ((e161.Text == e163.Text) && ((decide (e161.N = e163.N)) && ((decide (e161.At = e163.At)) && true))))) = true then (some (.inr (.inl ()))) else (some (.inl (IntKind.wrap .i64 (y140 + (1 : Int)))))) else (some (.inr (.inr ())))
noncomputable def p3_j1 (u113 : (List TTokenlex) × TFault) (u122 : (List TToken) × Int × Int) (b132 : Bool) : Option Bool := if b132 = true then (some false) else ((loopC (p3_l0 u113 u122) (0 : Int)).bind fun res157 => (match res157 with | .inl _ => some false | .inr _ => some true))
noncomputable def p3_j2 (x0 : List Int) (b104 : Bool) : Option Bool := if b104 = true then ((p17 ).bind fun y110 => some y110) else ((p18 x0).bind fun u113 => (p19 x0).bind fun u122 => if (!decide (u122.2.1 = (0 : Int))) = true then ((p20 x0 u122.2.2).bind fun u127 => if ((decide (u113.2.Err = u122.2.1)) && ((decide (u113.2.At = u122.2.2)) && ((decide (u113.2.Line = u127.1)) && ((decide (u113.2.Col = u127.2)) && true)))) = true then (p3_j0 (decide ((u113.1.length : Int) = (0 : Int)))) else (p3_j0 false)) else (if (!((decide (u113.2.Err = (0 : Int))) && ((decide (u113.2.At = (0 : Int))) && ((decide (u113.2.Line = (0 : Int))) && ((decide (u113.2.Col = (0 : Int))) && true))))) = true then (p3_j1 u113 u122 true) else (p3_j1 u113 u122 (!decide ((u113.1.length : Int) = (u122.1.length : Int))))))
noncomputable def p3 (x0 : List Int) : Option Bool := (p17 ).bind fun y103 => if (!y103) = true then (p3_j2 x0 true) else (p3_j2 x0 (decide ((300 : Int) < (x0.length : Int))))
theorem r3 {h : Heap} {a0_0 : AV} {x0 : List Int} (f0_0 : SlR (rI .u8) (Snap h) a0_0 x0) {r : Bool} (hf : p3 x0 = some r) : ZCalls F 3 [a0_0] h fun v h' => v = .bool r ∧ St h none' [] h' := by
  refine w3 ?_
  unfold W3
  unfold p3 at hf
  have S : St h none' [] h := St.refl _ _
  obtain ⟨y103, hy103, hf⟩ := obind hf
  refine ⟨_, Fz.refl _, ?_⟩
  refine (r17  hy103).mono fun v101 h102 T => ?_
  obtain ⟨rfl, T⟩ := T
  have S : St h none' [] h102 := S.comp T
  refine ⟨y103, rfl, ?_⟩
  intro jjj2
  have hjj2 : ∀ (b104 : Bool) (h105 : Heap), p3_j2 x0 b104 = some r → h102 = h105 → St h none' [] h102 → jjj2 b104 h105 := by
    rintro b104 h105 hf rfl S
    unfold p3_j2 at hf
    unfold jjj2
    refine bP_intro (fun hc => ?_) (fun hc => ?_)
    · rw [if_pos (show b104 = true from hc)] at hf
      obtain ⟨y110, hy110, hf⟩ := obind hf
      refine ⟨_, Fz.refl _, ?_⟩
      refine (r17  hy110).mono fun v108 h109 T => ?_
      obtain ⟨rfl, T⟩ := T
      have S : St h none' [] h109 := S.comp T
      refine ⟨y110, rfl, ?_⟩
      obtain rfl := Option.some.inj hf
      exact ⟨rfl, S.sel [] rfl⟩
    · rw [if_neg (show ¬ (b104 = true) from by rw [show b104 = false from hc]; exact Bool.false_ne_true)] at hf
      obtain ⟨u113, hu113, hf⟩ := obind hf
      refine ⟨_, Fz.refl _, ?_⟩
      refine (r18 (p0 := x0) (f0_0 := (SlR.mono (snap_mono S.le) f0_0)) hu113).mono fun v111 h112 T => ?_
      obtain ⟨w114, rfl, T⟩ := T
      have S : St h none' [own (oSl (fz rTokenlex)) [w114] u113.1] h112 := S.comp T
      refine oP_intro w114 rfl ?_
      refine oP_intro (.agg [(.int .i64 u113.2.Err), (.int .i64 u113.2.At), (.int .i64 u113.2.Line), (.int .i64 u113.2.Col)]) rfl ?_
      intro h116
      have S : St h none' [rowC h112.n [(.int .i64 (0 : Int)), (.int .i64 (0 : Int)), (.int .i64 (0 : Int)), (.int .i64 (0 : Int))] 0, own (oSl (fz rTokenlex)) [w114] u113.1] h116 := S.pushRow [(.int .i64 (0 : Int)), (.int .i64 (0 : Int)), (.int .i64 (0 : Int)), (.int .i64 (0 : Int))]
      obtain ⟨h118, e119, S⟩ := S.store (off := 0) (n := 4) (x := (.agg [(.int .i64 u113.2.Err), (.int .i64 u113.2.At), (.int .i64 u113.2.Line), (.int .i64 u113.2.Col)])) (cs' := [(.int .i64 u113.2.Err), (.int .i64 u113.2.At), (.int .i64 u113.2.Line), (.int .i64 u113.2.Col)]) (Nat.le_of_ble_eq_true rfl) rfl rfl rfl
      have S : St h none' [rowC h112.n [(.int .i64 u113.2.Err), (.int .i64 u113.2.At), (.int .i64 u113.2.Line), (.int .i64 u113.2.Col)] 0, own (oSl (fz rTokenlex)) [w114] u113.1] h118 := S
      refine ⟨h118, e119, ?_⟩
      obtain ⟨u122, hu122, hf⟩ := obind hf
      refine ⟨_, Fz.refl _, ?_⟩
      refine (r19 (x0 := x0) (f0_0 := (SlR.mono (snap_mono S.le) f0_0)) hu122).mono fun v120 h121 T => ?_
      obtain ⟨w123, rfl, T⟩ := T
      have S : St h none' [own (oSl (fz rToken)) [w123] u122.1, rowC h112.n [(.int .i64 u113.2.Err), (.int .i64 u113.2.At), (.int .i64 u113.2.Line), (.int .i64 u113.2.Col)] 0, own (oSl (fz rTokenlex)) [w114] u113.1] h121 := S.comp T
      refine oP_intro w123 rfl ?_
      refine oP_intro (.int .i64 u122.2.1) rfl ⟨u122.2.1, rfl, ?_⟩
      refine oP_intro (.int .i64 u122.2.2) rfl ⟨u122.2.2, rfl, ?_⟩
      refine bP_intro (fun hc => ?_) (fun hc => ?_)
      · rw [if_pos (show (!decide (u122.2.1 = (0 : Int))) = true from hc)] at hf
        obtain ⟨u127, hu127, hf⟩ := obind hf
        refine ⟨_, Fz.refl _, ?_⟩
        refine (r20 (p0 := x0) (at1 := u122.2.2) (f0_0 := (SlR.mono (snap_mono S.le) f0_0)) hu127).mono fun v125 h126 T => ?_
        obtain ⟨rfl, T⟩ := T
        have S : St h none' [own (oSl (fz rToken)) [w123] u122.1, rowC h112.n [(.int .i64 u113.2.Err), (.int .i64 u113.2.At), (.int .i64 u113.2.Line), (.int .i64 u113.2.Col)] 0, own (oSl (fz rTokenlex)) [w114] u113.1] h126 := S.comp T
        refine oP_intro (.int .i64 u127.1) rfl ⟨u127.1, rfl, ?_⟩
        refine oP_intro (.int .i64 u127.2) rfl ⟨u127.2, rfl, ?_⟩
        refine ⟨(.int .i64 u113.2.Err), (.int .i64 u113.2.At), (.int .i64 u113.2.Line), (.int .i64 u113.2.Col), S.rdN (.tail _ (.head _)) (Nat.le_of_ble_eq_true rfl) rfl, ?_⟩
        refine oP_intro (.bool ((decide (u113.2.Err = u122.2.1)) && ((decide (u113.2.At = u122.2.2)) && ((decide (u113.2.Line = u127.1)) && ((decide (u113.2.Col = u127.2)) && true))))) rfl ⟨((decide (u113.2.Err = u122.2.1)) && ((decide (u113.2.At = u122.2.2)) && ((decide (u113.2.Line = u127.1)) && ((decide (u113.2.Col = u127.2)) && true)))), rfl, ?_⟩
        intro jjj0
        have hjj0 : ∀ (b128 : Bool) (h129 : Heap), p3_j0 b128 = some r → h126 = h129 → St h none' [] h126 → jjj0 b128 h129 := by
          rintro b128 h129 hf rfl S
          unfold p3_j0 at hf
          unfold jjj0
          obtain rfl := Option.some.inj hf
          exact ⟨rfl, S.sel [] rfl⟩
        refine bP_intro (fun hc => ?_) (fun hc => ?_)
        · rw [if_pos (show ((decide (u113.2.Err = u122.2.1)) && ((decide (u113.2.At = u122.2.2)) && ((decide (u113.2.Line = u127.1)) && ((decide (u113.2.Col = u127.2)) && true)))) = true from hc)] at hf
          refine ifP_iff.2 ⟨((S.sl (r := (fz rTokenlex)) (.tail _ (.tail _ (.head _))))).is, ?_⟩
          try rw [((S.sl (r := (fz rTokenlex)) (.tail _ (.tail _ (.head _))))).slen]
          have S : St h none' [] h126 := S.sel [] rfl
          exact hjj0 _ _  hf rfl S
        · rw [if_neg (show ¬ (((decide (u113.2.Err = u122.2.1)) && ((decide (u113.2.At = u122.2.2)) && ((decide (u113.2.Line = u127.1)) && ((decide (u113.2.Col = u127.2)) && true)))) = true) from by rw [show ((decide (u113.2.Err = u122.2.1)) && ((decide (u113.2.At = u122.2.2)) && ((decide (u113.2.Line = u127.1)) && ((decide (u113.2.Col = u127.2)) && true)))) = false from hc]; exact Bool.false_ne_true)] at hf
          have S : St h none' [] h126 := S.sel [] rfl
          exact hjj0 _ _  hf rfl S
      · rw [if_neg (show ¬ ((!decide (u122.2.1 = (0 : Int))) = true) from by rw [show (!decide (u122.2.1 = (0 : Int))) = false from hc]; exact Bool.false_ne_true)] at hf
        refine ⟨(.int .i64 u113.2.Err), (.int .i64 u113.2.At), (.int .i64 u113.2.Line), (.int .i64 u113.2.Col), S.rdN (.tail _ (.head _)) (Nat.le_of_ble_eq_true rfl) rfl, ?_⟩
        refine oP_intro (.bool (!((decide (u113.2.Err = (0 : Int))) && ((decide (u113.2.At = (0 : Int))) && ((decide (u113.2.Line = (0 : Int))) && ((decide (u113.2.Col = (0 : Int))) && true)))))) rfl ⟨(!((decide (u113.2.Err = (0 : Int))) && ((decide (u113.2.At = (0 : Int))) && ((decide (u113.2.Line = (0 : Int))) && ((decide (u113.2.Col = (0 : Int))) && true))))), rfl, ?_⟩
        intro jjj1
        have hjj1 : ∀ (b132 : Bool) (h133 : Heap), p3_j1 u113 u122 b132 = some r → h121 = h133 → St h none' [own (oSl (fz rTokenlex)) [w114] u113.1, own (oSl (fz rToken)) [w123] u122.1] h121 → jjj1 b132 h133 := by
          rintro b132 h133 hf rfl S
          unfold p3_j1 at hf
          unfold jjj1
          refine bP_intro (fun hc => ?_) (fun hc => ?_)
          · rw [if_pos (show b132 = true from hc)] at hf
            obtain rfl := Option.some.inj hf
            exact ⟨rfl, S.sel [] rfl⟩
          · rw [if_neg (show ¬ (b132 = true) from by rw [show b132 = false from hc]; exact Bool.false_ne_true)] at hf
            obtain ⟨res157, hL, hf⟩ := obind hf
            obtain ⟨n158, hL⟩ := loopC_iff.1 hL
            refine loopm3_0 (R := fun (y147 : Bool) (y148 : AV) (y149 : AV) (y150 : Int) (h151 : Heap) => false = y147 ∧ St h none' [] h151 ∧ (.inl ()) = res157) (X0 := fun (y152 : Bool) (y153 : AV) (y154 : AV) (y155 : Int) (h156 : Heap) => St h none' [] h156 ∧ (.inr ()) = res157) ?_ ?_ (loop3_0 (I := fun (m160 : Nat) (y137 : Bool) (y138 : AV) (y139 : AV) (y140 : Int) (h141 : Heap) => w114 = y138 ∧ w123 = y139 ∧ St h none' [own (oSl (fz rTokenlex)) [w114] u113.1, own (oSl (fz rToken)) [w123] u122.1] h141 ∧ iter (p3_l0 u113 u122) m160 y140 = some res157) ?_ (m := n158) ?_)
            · rintro y147 y148 y149 y150 h151 ⟨rfl, S, rfl⟩
              try dsimp only at hf
              obtain rfl := Option.some.inj hf
              exact ⟨rfl, S.sel [] rfl⟩
            · rintro y152 y153 y154 y155 h156 ⟨S, rfl⟩
              try dsimp only at hf
              obtain rfl := Option.some.inj hf
              exact ⟨rfl, S.sel [] rfl⟩
            · rintro m1600 y137 y138 y139 y140 h141 ⟨rfl, rfl, S, hit⟩
              obtain ⟨m160, q159, rfl, hf, hk⟩ := iter_some hit
              clear hit
              unfold B3_0
              unfold p3_l0 at hf
              try dsimp only at hf
              refine ifP_iff.2 ⟨((S.sl (r := (fz rTokenlex)) (.head _))).is, ?_⟩
              try rw [((S.sl (r := (fz rTokenlex)) (.head _))).slen]
              refine bP_intro (fun hc => ?_) (fun hc => ?_)
              · rw [if_pos (show y140 < (u113.1.length : Int) from of_decide_eq_true hc)] at hf
                obtain ⟨e161, he161, hf⟩ := obind hf
                obtain ⟨qe161, q0e161, q1e161⟩ := SlR.ix (S.sl (r := (fz rTokenlex)) (.head _)) he161
                have pe161 := (SlR.idx (S.sl (r := (fz rTokenlex)) (.head _)) (Hp.le_refl _) he161).1
                refine ifP_iff.2 ⟨qe161, q0e161, (by first | exact q1e161 | exact (idx_lt he161).2), ?_⟩
                obtain ⟨_, cr162, Rr162, Nr162, Or162, Zr162⟩ := St.idxO (r := rTokenlex) S (.head _) he161
                obtain rfl := rTokenlex_open Rr162
                refine ⟨(.int .u8 e161.Kind), (.str e161.Text), (.int .i64 e161.N), (.int .i64 e161.At), Nr162, ?_⟩
                obtain ⟨e163, he163, hf⟩ := obind hf
                obtain ⟨qe163, q0e163, q1e163⟩ := SlR.ix (S.sl (r := (fz rToken)) (.tail _ (.head _))) he163
                have pe163 := (SlR.idx (S.sl (r := (fz rToken)) (.tail _ (.head _))) (Hp.le_refl _) he163).1
                refine ifP_iff.2 ⟨qe163, q0e163, (by first | exact q1e163 | exact (idx_lt he163).2), ?_⟩
                obtain ⟨_, cr164, Rr164, Nr164, Or164, Zr164⟩ := St.idxO (r := rToken) S (.tail _ (.head _)) he163
                obtain rfl := rToken_open Rr164
                refine ⟨(.int .u8 e163.Kind), (.str e163.Text), (.int .i64 e163.N), (.int .i64 e163.At), Nr164, ?_⟩
                refine oP_intro (.bool (!((decide (e161.Kind = e163.Kind)) && ((e161.Text == e163.Text) && ((decide (e161.N = e163.N)) && ((decide (e161.At = e163.At)) && true)))))) rfl ⟨(!((decide (e161.Kind = e163.Kind)) && ((e161.Text == e163.Text) && ((decide (e161.N = e163.N)) && ((decide (e161.At = e163.At)) && true))))), rfl, ?_⟩
                refine bP_intro (fun hc => ?_) (fun hc => ?_)
                · rw [if_pos (show (!((decide (e161.Kind = e163.Kind)) && ((e161.Text == e163.Text) && ((decide (e161.N = e163.N)) && ((decide (e161.At = e163.At)) && true))))) = true from hc)] at hf
                  have S : St h none' [] h141 := S.sel [] rfl
                  obtain rfl := Option.some.inj hf
                  obtain rfl := hk
                  exact ⟨rfl, S, rfl⟩
                · rw [if_neg (show ¬ ((!((decide (e161.Kind = e163.Kind)) && ((e161.Text == e163.Text) && ((decide (e161.N = e163.N)) && ((decide (e161.At = e163.At)) && true))))) = true) from by rw [show (!((decide (e161.Kind = e163.Kind)) && ((e161.Text == e163.Text) && ((decide (e161.N = e163.N)) && ((decide (e161.At = e163.At)) && true))))) = false from hc]; exact Bool.false_ne_true)] at hf
                  obtain rfl := Option.some.inj hf
                  exact ⟨m160, Nat.lt_succ_self _, rfl, rfl, S, hk⟩
              · rw [if_neg (show ¬ (y140 < (u113.1.length : Int)) from of_decide_eq_false hc)] at hf
                have S : St h none' [] h141 := S.sel [] rfl
                obtain rfl := Option.some.inj hf
                obtain rfl := hk
                exact ⟨S, rfl⟩
            · exact ⟨rfl, rfl, S, hL⟩
        refine bP_intro (fun hc => ?_) (fun hc => ?_)
        · rw [if_pos (show (!((decide (u113.2.Err = (0 : Int))) && ((decide (u113.2.At = (0 : Int))) && ((decide (u113.2.Line = (0 : Int))) && ((decide (u113.2.Col = (0 : Int))) && true))))) = true from hc)] at hf
          have S : St h none' [own (oSl (fz rTokenlex)) [w114] u113.1, own (oSl (fz rToken)) [w123] u122.1] h121 := S.sel [2, 0] rfl
          exact hjj1 _ _  hf rfl S
        · rw [if_neg (show ¬ ((!((decide (u113.2.Err = (0 : Int))) && ((decide (u113.2.At = (0 : Int))) && ((decide (u113.2.Line = (0 : Int))) && ((decide (u113.2.Col = (0 : Int))) && true))))) = true) from by rw [show (!((decide (u113.2.Err = (0 : Int))) && ((decide (u113.2.At = (0 : Int))) && ((decide (u113.2.Line = (0 : Int))) && ((decide (u113.2.Col = (0 : Int))) && true))))) = false from hc]; exact Bool.false_ne_true)] at hf
          refine ifP_iff.2 ⟨((S.sl (r := (fz rTokenlex)) (.tail _ (.tail _ (.head _))))).is, ?_⟩
          try rw [((S.sl (r := (fz rTokenlex)) (.tail _ (.tail _ (.head _))))).slen]
          refine ifP_iff.2 ⟨((S.sl (r := (fz rToken)) (.head _))).is, ?_⟩
          try rw [((S.sl (r := (fz rToken)) (.head _))).slen]
          have S : St h none' [own (oSl (fz rTokenlex)) [w114] u113.1, own (oSl (fz rToken)) [w123] u122.1] h121 := S.sel [2, 0] rfl
          exact hjj1 _ _  hf rfl S
  refine bP_intro (fun hc => ?_) (fun hc => ?_)
  · rw [if_pos (show (!y103) = true from hc)] at hf
    exact hjj2 _ _  hf rfl S
  · rw [if_neg (show ¬ ((!y103) = true) from by rw [show (!y103) = false from hc]; exact Bool.false_ne_true)] at hf
    refine ifP_iff.2 ⟨(f0_0).is, ?_⟩
    try rw [(f0_0).slen]
    exact hjj2 _ _  hf rfl S
/-! 4: marblerun/marblerunlaw04.LexPlaces -/
noncomputable def p4_j0 (b128 : Bool) : Option Bool := some b128
noncomputable def p4_j1 (p0 : List Int) (at1 : Int) (e2 : Int) (u117 : Int × Int) (b118 : Bool) : Option Bool := if b118 = true then ((p22 p0 (IntKind.wrap .i64 e2) (if (p0.length : Int) < (if at1 < (0 : Int) then (0 : Int) else at1) then (p0.length : Int) else (if at1 < (0 : Int) then (0 : Int) else at1))).bind fun y133 => p4_j0 ((decide (y133.Err = (IntKind.wrap .i64 e2))) && ((decide (y133.At = (if (p0.length : Int) < (if at1 < (0 : Int) then (0 : Int) else at1) then (p0.length : Int) else (if at1 < (0 : Int) then (0 : Int) else at1)))) && ((decide (y133.Line = u117.1)) && ((decide (y133.Col = u117.2)) && true))))) else (p4_j0 false)
noncomputable def p4_j2 (p0 : List Int) (at1 : Int) (e2 : Int) (b104 : Bool) : Option Bool := if b104 = true then ((p17 ).bind fun y111 => some y111) else ((p21 p0 at1).bind fun u114 => (p20 p0 (if (p0.length : Int) < (if at1 < (0 : Int) then (0 : Int) else at1) then (p0.length : Int) else (if at1 < (0 : Int) then (0 : Int) else at1))).bind fun u117 => if u114.1 = u117.1 then (p4_j1 p0 at1 e2 u117 (decide (u114.2 = u117.2))) else (p4_j1 p0 at1 e2 u117 false))
noncomputable def p4 (p0 : List Int) (at1 : Int) (e2 : Int) : Option Bool := (p17 ).bind fun y103 => if (!y103) = true then (p4_j2 p0 at1 e2 true) else (p4_j2 p0 at1 e2 (decide ((200 : Int) < (p0.length : Int))))
theorem r4 {h : Heap} {a0_0 : AV} {p0 : List Int} {at1 : Int} {e2 : Int} (f0_0 : SlR (rI .u8) (Snap h) a0_0 p0) {r : Bool} (hf : p4 p0 at1 e2 = some r) : ZCalls F 4 [a0_0, (.int .i64 at1), (.int .i8 e2)] h fun v h' => v = .bool r ∧ St h none' [] h' := by
  refine w4 ?_
  unfold W4
  unfold p4 at hf
  have S : St h none' [] h := St.refl _ _
  obtain ⟨y103, hy103, hf⟩ := obind hf
  refine ⟨_, Fz.refl _, ?_⟩
  refine (r17  hy103).mono fun v101 h102 T => ?_
  obtain ⟨rfl, T⟩ := T
  have S : St h none' [] h102 := S.comp T
  refine ⟨y103, rfl, ?_⟩
  intro jjj2
  have hjj2 : ∀ (b104 : Bool) (h105 : Heap), p4_j2 p0 at1 e2 b104 = some r → h102 = h105 → St h none' [] h102 → jjj2 b104 h105 := by
    rintro b104 h105 hf rfl S
    unfold p4_j2 at hf
    unfold jjj2
    refine bP_intro (fun hc => ?_) (fun hc => ?_)
    · rw [if_pos (show b104 = true from hc)] at hf
      obtain ⟨y111, hy111, hf⟩ := obind hf
      refine ⟨_, Fz.refl _, ?_⟩
      refine (r17  hy111).mono fun v109 h110 T => ?_
      obtain ⟨rfl, T⟩ := T
      have S : St h none' [] h110 := S.comp T
      refine ⟨y111, rfl, ?_⟩
      obtain rfl := Option.some.inj hf
      exact ⟨rfl, S.sel [] rfl⟩
    · rw [if_neg (show ¬ (b104 = true) from by rw [show b104 = false from hc]; exact Bool.false_ne_true)] at hf
      refine ifP_iff.2 ⟨(f0_0).is, ?_⟩
      try rw [(f0_0).slen]
      obtain ⟨u114, hu114, hf⟩ := obind hf
      refine ⟨_, Fz.refl _, ?_⟩
      refine (r21 (p0 := p0) (at1 := at1) (f0_0 := (SlR.mono (snap_mono S.le) f0_0)) hu114).mono fun v112 h113 T => ?_
      obtain ⟨rfl, T⟩ := T
      have S : St h none' [] h113 := S.comp T
      refine oP_intro (.int .i64 u114.1) rfl ⟨u114.1, rfl, ?_⟩
      refine oP_intro (.int .i64 u114.2) rfl ⟨u114.2, rfl, ?_⟩
      obtain ⟨u117, hu117, hf⟩ := obind hf
      refine ⟨_, Fz.refl _, ?_⟩
      refine (r20 (p0 := p0) (at1 := (if (p0.length : Int) < (if at1 < (0 : Int) then (0 : Int) else at1) then (p0.length : Int) else (if at1 < (0 : Int) then (0 : Int) else at1))) (f0_0 := (SlR.mono (snap_mono S.le) f0_0)) hu117).mono fun v115 h116 T => ?_
      obtain ⟨rfl, T⟩ := T
      have S : St h none' [] h116 := S.comp T
      refine oP_intro (.int .i64 u117.1) rfl ⟨u117.1, rfl, ?_⟩
      refine oP_intro (.int .i64 u117.2) rfl ⟨u117.2, rfl, ?_⟩
      intro jjj1
      have hjj1 : ∀ (b118 : Bool) (h119 : Heap), p4_j1 p0 at1 e2 u117 b118 = some r → h116 = h119 → St h none' [] h116 → jjj1 b118 h119 := by
        rintro b118 h119 hf rfl S
        unfold p4_j1 at hf
        unfold jjj1
        intro jjj0
        have hjj0 : ∀ (b128 : Bool) (h129 : Heap), p4_j0 b128 = some r → St h none' [] h129 → jjj0 b128 h129 := by
          rintro b128 h129 hf S
          unfold p4_j0 at hf
          unfold jjj0
          obtain rfl := Option.some.inj hf
          exact ⟨rfl, S.sel [] rfl⟩
        refine bP_intro (fun hc => ?_) (fun hc => ?_)
        · rw [if_pos (show b118 = true from hc)] at hf
          obtain ⟨y133, hy133, hf⟩ := obind hf
          refine ⟨_, Fz.refl _, ?_⟩
          refine (r22 (p0 := p0) (e1 := (IntKind.wrap .i64 e2)) (at2 := (if (p0.length : Int) < (if at1 < (0 : Int) then (0 : Int) else at1) then (p0.length : Int) else (if at1 < (0 : Int) then (0 : Int) else at1))) (f0_0 := (SlR.mono (snap_mono S.le) f0_0)) hy133).mono fun v131 h132 T => ?_
          obtain ⟨rfl, T⟩ := T
          have S : St h none' [] h132 := S.comp T
          refine oP_intro (.bool ((decide (y133.Err = (IntKind.wrap .i64 e2))) && ((decide (y133.At = (if (p0.length : Int) < (if at1 < (0 : Int) then (0 : Int) else at1) then (p0.length : Int) else (if at1 < (0 : Int) then (0 : Int) else at1)))) && ((decide (y133.Line = u117.1)) && ((decide (y133.Col = u117.2)) && true))))) rfl ⟨((decide (y133.Err = (IntKind.wrap .i64 e2))) && ((decide (y133.At = (if (p0.length : Int) < (if at1 < (0 : Int) then (0 : Int) else at1) then (p0.length : Int) else (if at1 < (0 : Int) then (0 : Int) else at1)))) && ((decide (y133.Line = u117.1)) && ((decide (y133.Col = u117.2)) && true)))), rfl, ?_⟩
          exact hjj0 _ _  hf  S
        · rw [if_neg (show ¬ (b118 = true) from by rw [show b118 = false from hc]; exact Bool.false_ne_true)] at hf
          exact hjj0 _ _  hf  S
      refine bP_intro (fun hc => ?_) (fun hc => ?_)
      · rw [if_pos (show u114.1 = u117.1 from of_decide_eq_true hc)] at hf
        exact hjj1 _ _  hf rfl S
      · rw [if_neg (show ¬ (u114.1 = u117.1) from of_decide_eq_false hc)] at hf
        exact hjj1 _ _  hf rfl S
  refine bP_intro (fun hc => ?_) (fun hc => ?_)
  · rw [if_pos (show (!y103) = true from hc)] at hf
    exact hjj2 _ _  hf rfl S
  · rw [if_neg (show ¬ ((!y103) = true) from by rw [show (!y103) = false from hc]; exact Bool.false_ne_true)] at hf
    refine ifP_iff.2 ⟨(f0_0).is, ?_⟩
    try rw [(f0_0).slen]
    exact hjj2 _ _  hf rfl S
/-! 5: marblerun/marblerunlaw04.LexNumbers -/
noncomputable def p5_j0 (y103 : List UInt8) (y104 : Int) (b126 : Bool) : Option (((List UInt8) × Int) ⊕ (List UInt8)) := if b126 = true then ((catS ([(IntKind.wrap .u8 (IntKind.wrap .i64 ((48 : Int) + (Int.tmod y104 (10 : Int)))))].map u8) y103).bind fun s134 => some (.inl (s134, (IntKind.wrap .i64 (Int.tdiv y104 (10 : Int)))))) else (some (.inr y103))
noncomputable def p5_l0 (st : (List UInt8) × Int) : Option (((List UInt8) × Int) ⊕ (List UInt8)) := match st with | (y103, y104) => if (0 : Int) < y104 then (p5_j0 y103 y104 true) else (p5_j0 y103 y104 (y103 == ([] : List UInt8)))
noncomputable def p5_l1 (x1 : Int) (st : (List UInt8) × Int) : Option (((List UInt8) × Int) ⊕ (List UInt8)) := match st with | (y138, y139) => if y139 < (IntKind.wrap .i64 (Int.tmod x1 (4 : Int))) then ((catS ([48] : List UInt8) y138).bind fun s152 => some (.inl (s152, (IntKind.wrap .i64 (y139 + (1 : Int)))))) else (some (.inr y138))
noncomputable def p5_j1 (b176 : Bool) : Option Bool := some b176
noncomputable def p5_j2 (u159 : (List TTokenlex) × TFault) (b173 : Bool) : Option Bool := if b173 = true then (p5_j1 (decide ((u159.1.length : Int) = (0 : Int)))) else (p5_j1 false)
noncomputable def p5_j3 (u159 : (List TTokenlex) × TFault) (b169 : Bool) : Option Bool := if b169 = true then (p5_j2 u159 (decide (u159.2.At = (1 : Int)))) else (p5_j2 u159 false)
noncomputable def p5_j4 (b196 : Bool) : Option Bool := some b196
noncomputable def p5_j5 (x0 : Int) (y145 : List UInt8) (u159 : (List TTokenlex) × TFault) (b189 : Bool) : Option Bool := if b189 = true then ((idx u159.1 (0 : Int)).bind fun e199 => p5_j4 ((decide (e199.Kind = (2 : Int))) && ((e199.Text == y145) && ((decide (e199.N = (IntKind.wrap .i64 (Int.tmod (IntKind.wrap .u64 x0) (1125899906842627 : Int))))) && ((decide (e199.At = (1 : Int))) && true))))) else (p5_j4 false)
noncomputable def p5_j6 (x0 : Int) (y145 : List UInt8) (u159 : (List TTokenlex) × TFault) (b184 : Bool) : Option Bool := if b184 = true then (p5_j5 x0 y145 u159 (decide ((u159.1.length : Int) = (2 : Int)))) else (p5_j5 x0 y145 u159 false)
noncomputable def p5 (x0 : Int) (x1 : Int) : Option Bool := (loopC p5_l0 (([] : List UInt8), (IntKind.wrap .i64 (Int.tmod (IntKind.wrap .u64 x0) (1125899906842627 : Int))))).bind fun res122 => ((fun (y119 : List UInt8) => (loopC (p5_l1 x1) (y119, (0 : Int))).bind fun res148 => ((fun (y145 : List UInt8) => (catS ([32] : List UInt8) y145).bind fun s153 => (bytesI s153).bind fun y154 => (p18 y154).bind fun u159 => if (1125899906842624 : Int) < (IntKind.wrap .i64 (Int.tmod (IntKind.wrap .u64 x0) (1125899906842627 : Int))) then ((p17 ).bind fun y168 => if y168 = true then (p5_j3 u159 (decide (u159.2.Err = (3 : Int)))) else (p5_j3 u159 false)) else ((p17 ).bind fun y183 => if y183 = true then (p5_j6 x0 y145 u159 (decide (u159.2.Err = (0 : Int)))) else (p5_j6 x0 y145 u159 false))) res148)) res122)
theorem r5 {h : Heap}  {x0 : Int} {x1 : Int} {r : Bool} (hf : p5 x0 x1 = some r) : ZCalls F 5 [(.int .i64 x0), (.int .u8 x1)] h fun v h' => v = .bool r ∧ St h none' [] h' := by
  refine w5 ?_
  unfold W5
  unfold p5 at hf
  have S : St h none' [] h := St.refl _ _
  obtain ⟨res122, hL, hf⟩ := obind hf
  obtain ⟨n123, hL⟩ := loopC_iff.1 hL
  refine loopm5_0 (X0 := fun (y117 : Int) (y118 : Int) (y119 : List UInt8) (y120 : Int) (h121 : Heap) => x1 = y117 ∧ (IntKind.wrap .i64 (Int.tmod (IntKind.wrap .u64 x0) (1125899906842627 : Int))) = y118 ∧ St h none' [] h121 ∧ y119 = res122) ?_ (loop5_0 (I := fun (m125 : Nat) (y101 : Int) (y102 : Int) (y103 : List UInt8) (y104 : Int) (h105 : Heap) => x1 = y101 ∧ (IntKind.wrap .i64 (Int.tmod (IntKind.wrap .u64 x0) (1125899906842627 : Int))) = y102 ∧ St h none' [] h105 ∧ iter p5_l0 m125 (y103, y104) = some res122) ?_ (m := n123) ?_)
  · rintro y117 y118 y119 y120 h121 ⟨rfl, rfl, S, rfl⟩
    try dsimp only at hf
    obtain ⟨res148, hL, hf⟩ := obind hf
    obtain ⟨n149, hL⟩ := loopC_iff.1 hL
    refine loopm5_1 (X2 := fun (y143 : Int) (y144 : Int) (y145 : List UInt8) (y146 : Int) (h147 : Heap) => (IntKind.wrap .i64 (Int.tmod (IntKind.wrap .u64 x0) (1125899906842627 : Int))) = y144 ∧ St h none' [] h147 ∧ y145 = res148) ?_ (loop5_1 (I := fun (m151 : Nat) (y136 : Int) (y137 : Int) (y138 : List UInt8) (y139 : Int) (h140 : Heap) => x1 = y136 ∧ (IntKind.wrap .i64 (Int.tmod (IntKind.wrap .u64 x0) (1125899906842627 : Int))) = y137 ∧ St h none' [] h140 ∧ iter (p5_l1 x1) m151 (y138, y139) = some res148) ?_ (m := n149) ?_)
    · rintro y143 y144 y145 y146 h147 ⟨rfl, S, rfl⟩
      try dsimp only at hf
      obtain ⟨s153, hs153, hf⟩ := obind hf
      refine oP_intro (.str s153) (catS_ev hs153) ⟨s153, rfl, ?_⟩
      obtain ⟨y154, hy154, hf⟩ := obind hf
      refine oP_intro _ (bytesI_ob hy154) ?_
      intro h155
      have S : St h none' [own (oSl (fz (rI .u8))) [(NOp.mk .strToBytes [(.str s153)] h147.n)] y154] h155 := (S.ofStr s153).cast (by rw [(bytesI_some hy154).2])
      obtain ⟨u159, hu159, hf⟩ := obind hf
      refine ⟨_, Fz.refl _, ?_⟩
      refine (r18 (p0 := y154) (f0_0 := (S.sl (r := (fz (rI .u8))) (.head _))) hu159).mono fun v157 h158 T => ?_
      obtain ⟨w160, rfl, T⟩ := T
      have S : St h none' [own (oSl (fz rTokenlex)) [w160] u159.1, own (oSl (fz (rI .u8))) [(NOp.mk .strToBytes [(.str s153)] h147.n)] y154] h158 := S.comp T
      refine oP_intro w160 rfl ?_
      refine oP_intro (.agg [(.int .i64 u159.2.Err), (.int .i64 u159.2.At), (.int .i64 u159.2.Line), (.int .i64 u159.2.Col)]) rfl ?_
      intro h162
      have S : St h none' [rowC h158.n [(.int .i64 (0 : Int)), (.int .i64 (0 : Int)), (.int .i64 (0 : Int)), (.int .i64 (0 : Int))] 0, own (oSl (fz rTokenlex)) [w160] u159.1, own (oSl (fz (rI .u8))) [(NOp.mk .strToBytes [(.str s153)] h147.n)] y154] h162 := S.pushRow [(.int .i64 (0 : Int)), (.int .i64 (0 : Int)), (.int .i64 (0 : Int)), (.int .i64 (0 : Int))]
      obtain ⟨h164, e165, S⟩ := S.store (off := 0) (n := 4) (x := (.agg [(.int .i64 u159.2.Err), (.int .i64 u159.2.At), (.int .i64 u159.2.Line), (.int .i64 u159.2.Col)])) (cs' := [(.int .i64 u159.2.Err), (.int .i64 u159.2.At), (.int .i64 u159.2.Line), (.int .i64 u159.2.Col)]) (Nat.le_of_ble_eq_true rfl) rfl rfl rfl
      have S : St h none' [rowC h158.n [(.int .i64 u159.2.Err), (.int .i64 u159.2.At), (.int .i64 u159.2.Line), (.int .i64 u159.2.Col)] 0, own (oSl (fz rTokenlex)) [w160] u159.1, own (oSl (fz (rI .u8))) [(NOp.mk .strToBytes [(.str s153)] h147.n)] y154] h164 := S
      refine ⟨h164, e165, ?_⟩
      refine bP_intro (fun hc => ?_) (fun hc => ?_)
      · rw [if_pos (show (1125899906842624 : Int) < (IntKind.wrap .i64 (Int.tmod (IntKind.wrap .u64 x0) (1125899906842627 : Int))) from of_decide_eq_true hc)] at hf
        obtain ⟨y168, hy168, hf⟩ := obind hf
        refine ⟨_, Fz.refl _, ?_⟩
        refine (r17  hy168).mono fun v166 h167 T => ?_
        obtain ⟨rfl, T⟩ := T
        have S : St h none' [rowC h158.n [(.int .i64 u159.2.Err), (.int .i64 u159.2.At), (.int .i64 u159.2.Line), (.int .i64 u159.2.Col)] 0, own (oSl (fz rTokenlex)) [w160] u159.1, own (oSl (fz (rI .u8))) [(NOp.mk .strToBytes [(.str s153)] h147.n)] y154] h167 := S.comp T
        refine ⟨y168, rfl, ?_⟩
        intro jjj3
        have hjj3 : ∀ (b169 : Bool) (h170 : Heap), p5_j3 u159 b169 = some r → h167 = h170 → St h none' [own (oSl (fz rTokenlex)) [w160] u159.1, rowC h158.n [(.int .i64 u159.2.Err), (.int .i64 u159.2.At), (.int .i64 u159.2.Line), (.int .i64 u159.2.Col)] 0] h167 → jjj3 b169 h170 := by
          rintro b169 h170 hf rfl S
          unfold p5_j3 at hf
          unfold jjj3
          intro jjj2
          have hjj2 : ∀ (b173 : Bool) (h174 : Heap), p5_j2 u159 b173 = some r → h167 = h174 → St h none' [own (oSl (fz rTokenlex)) [w160] u159.1] h167 → jjj2 b173 h174 := by
            rintro b173 h174 hf rfl S
            unfold p5_j2 at hf
            unfold jjj2
            intro jjj1
            have hjj1 : ∀ (b176 : Bool) (h177 : Heap), p5_j1 b176 = some r → h167 = h177 → St h none' [] h167 → jjj1 b176 h177 := by
              rintro b176 h177 hf rfl S
              unfold p5_j1 at hf
              unfold jjj1
              obtain rfl := Option.some.inj hf
              exact ⟨rfl, S.sel [] rfl⟩
            refine bP_intro (fun hc => ?_) (fun hc => ?_)
            · rw [if_pos (show b173 = true from hc)] at hf
              refine ifP_iff.2 ⟨((S.sl (r := (fz rTokenlex)) (.head _))).is, ?_⟩
              try rw [((S.sl (r := (fz rTokenlex)) (.head _))).slen]
              have S : St h none' [] h167 := S.sel [] rfl
              exact hjj1 _ _  hf rfl S
            · rw [if_neg (show ¬ (b173 = true) from by rw [show b173 = false from hc]; exact Bool.false_ne_true)] at hf
              have S : St h none' [] h167 := S.sel [] rfl
              exact hjj1 _ _  hf rfl S
          refine bP_intro (fun hc => ?_) (fun hc => ?_)
          · rw [if_pos (show b169 = true from hc)] at hf
            refine ifP_iff.2 ⟨rfl, ?_⟩
            refine ⟨u159.2.At, S.rd1 (.tail _ (.head _)) rfl, ?_⟩
            have S : St h none' [own (oSl (fz rTokenlex)) [w160] u159.1] h167 := S.sel [0] rfl
            exact hjj2 _ _  hf rfl S
          · rw [if_neg (show ¬ (b169 = true) from by rw [show b169 = false from hc]; exact Bool.false_ne_true)] at hf
            have S : St h none' [own (oSl (fz rTokenlex)) [w160] u159.1] h167 := S.sel [0] rfl
            exact hjj2 _ _  hf rfl S
        refine bP_intro (fun hc => ?_) (fun hc => ?_)
        · rw [if_pos (show y168 = true from hc)] at hf
          refine ⟨u159.2.Err, S.rd1 (.head _) rfl, ?_⟩
          have S : St h none' [own (oSl (fz rTokenlex)) [w160] u159.1, rowC h158.n [(.int .i64 u159.2.Err), (.int .i64 u159.2.At), (.int .i64 u159.2.Line), (.int .i64 u159.2.Col)] 0] h167 := S.sel [1, 0] rfl
          exact hjj3 _ _  hf rfl S
        · rw [if_neg (show ¬ (y168 = true) from by rw [show y168 = false from hc]; exact Bool.false_ne_true)] at hf
          have S : St h none' [own (oSl (fz rTokenlex)) [w160] u159.1, rowC h158.n [(.int .i64 u159.2.Err), (.int .i64 u159.2.At), (.int .i64 u159.2.Line), (.int .i64 u159.2.Col)] 0] h167 := S.sel [1, 0] rfl
          exact hjj3 _ _  hf rfl S
      · rw [if_neg (show ¬ ((1125899906842624 : Int) < (IntKind.wrap .i64 (Int.tmod (IntKind.wrap .u64 x0) (1125899906842627 : Int)))) from of_decide_eq_false hc)] at hf
        obtain ⟨y183, hy183, hf⟩ := obind hf
        refine ⟨_, Fz.refl _, ?_⟩
        refine (r17  hy183).mono fun v181 h182 T => ?_
        obtain ⟨rfl, T⟩ := T
        have S : St h none' [rowC h158.n [(.int .i64 u159.2.Err), (.int .i64 u159.2.At), (.int .i64 u159.2.Line), (.int .i64 u159.2.Col)] 0, own (oSl (fz rTokenlex)) [w160] u159.1, own (oSl (fz (rI .u8))) [(NOp.mk .strToBytes [(.str s153)] h147.n)] y154] h182 := S.comp T
        refine ⟨y183, rfl, ?_⟩
        intro jjj6
        have hjj6 : ∀ (b184 : Bool) (h185 : Heap), p5_j6 x0 y145 u159 b184 = some r → h182 = h185 → St h none' [own (oSl (fz rTokenlex)) [w160] u159.1] h182 → jjj6 b184 h185 := by
          rintro b184 h185 hf rfl S
          unfold p5_j6 at hf
          unfold jjj6
          intro jjj5
          have hjj5 : ∀ (b189 : Bool) (h190 : Heap), p5_j5 x0 y145 u159 b189 = some r → h182 = h190 → St h none' [own (oSl (fz rTokenlex)) [w160] u159.1] h182 → jjj5 b189 h190 := by
            rintro b189 h190 hf rfl S
            unfold p5_j5 at hf
            unfold jjj5
            intro jjj4
            have hjj4 : ∀ (b196 : Bool) (h197 : Heap), p5_j4 b196 = some r → h182 = h197 → St h none' [] h182 → jjj4 b196 h197 := by
              rintro b196 h197 hf rfl S
              unfold p5_j4 at hf
              unfold jjj4
              obtain rfl := Option.some.inj hf
              exact ⟨rfl, S.sel [] rfl⟩
            refine bP_intro (fun hc => ?_) (fun hc => ?_)
            · rw [if_pos (show b189 = true from hc)] at hf
              obtain ⟨e199, he199, hf⟩ := obind hf
              obtain ⟨qe199, q0e199, q1e199⟩ := SlR.ix (S.sl (r := (fz rTokenlex)) (.head _)) he199
              have pe199 := (SlR.idx (S.sl (r := (fz rTokenlex)) (.head _)) (Hp.le_refl _) he199).1
              refine ifP_iff.2 ⟨qe199, q0e199, (by first | exact q1e199 | exact (idx_lt he199).2), ?_⟩
              obtain ⟨_, cr200, Rr200, Nr200, Or200, Zr200⟩ := St.idxO (r := rTokenlex) S (.head _) he199
              obtain rfl := rTokenlex_open Rr200
              refine ⟨(.int .u8 e199.Kind), (.str e199.Text), (.int .i64 e199.N), (.int .i64 e199.At), Nr200, ?_⟩
              refine oP_intro (.bool ((decide (e199.Kind = (2 : Int))) && ((e199.Text == y145) && ((decide (e199.N = (IntKind.wrap .i64 (Int.tmod (IntKind.wrap .u64 x0) (1125899906842627 : Int))))) && ((decide (e199.At = (1 : Int))) && true))))) rfl ⟨((decide (e199.Kind = (2 : Int))) && ((e199.Text == y145) && ((decide (e199.N = (IntKind.wrap .i64 (Int.tmod (IntKind.wrap .u64 x0) (1125899906842627 : Int))))) && ((decide (e199.At = (1 : Int))) && true)))), rfl, ?_⟩
              have S : St h none' [] h182 := S.sel [] rfl
              exact hjj4 _ _  hf rfl S
            · rw [if_neg (show ¬ (b189 = true) from by rw [show b189 = false from hc]; exact Bool.false_ne_true)] at hf
              have S : St h none' [] h182 := S.sel [] rfl
              exact hjj4 _ _  hf rfl S
          refine bP_intro (fun hc => ?_) (fun hc => ?_)
          · rw [if_pos (show b184 = true from hc)] at hf
            refine ifP_iff.2 ⟨((S.sl (r := (fz rTokenlex)) (.head _))).is, ?_⟩
            try rw [((S.sl (r := (fz rTokenlex)) (.head _))).slen]
            exact hjj5 _ _  hf rfl S
          · rw [if_neg (show ¬ (b184 = true) from by rw [show b184 = false from hc]; exact Bool.false_ne_true)] at hf
            exact hjj5 _ _  hf rfl S
        refine bP_intro (fun hc => ?_) (fun hc => ?_)
        · rw [if_pos (show y183 = true from hc)] at hf
          refine ⟨u159.2.Err, S.rd1 (.head _) rfl, ?_⟩
          have S : St h none' [own (oSl (fz rTokenlex)) [w160] u159.1] h182 := S.sel [1] rfl
          exact hjj6 _ _  hf rfl S
        · rw [if_neg (show ¬ (y183 = true) from by rw [show y183 = false from hc]; exact Bool.false_ne_true)] at hf
          have S : St h none' [own (oSl (fz rTokenlex)) [w160] u159.1] h182 := S.sel [1] rfl
          exact hjj6 _ _  hf rfl S
    · rintro m1510 y136 y137 y138 y139 h140 ⟨rfl, rfl, S, hit⟩
      obtain ⟨m151, q150, rfl, hf, hk⟩ := iter_some hit
      clear hit
      unfold B5_1
      unfold p5_l1 at hf
      try dsimp only at hf
      refine bP_intro (fun hc => ?_) (fun hc => ?_)
      · rw [if_pos (show y139 < (IntKind.wrap .i64 (Int.tmod x1 (4 : Int))) from of_decide_eq_true hc)] at hf
        obtain ⟨s152, hs152, hf⟩ := obind hf
        refine oP_intro (.str s152) (catS_ev hs152) ⟨s152, rfl, ?_⟩
        obtain rfl := Option.some.inj hf
        exact ⟨m151, Nat.lt_succ_self _, rfl, rfl, S, hk⟩
      · rw [if_neg (show ¬ (y139 < (IntKind.wrap .i64 (Int.tmod x1 (4 : Int)))) from of_decide_eq_false hc)] at hf
        obtain rfl := Option.some.inj hf
        obtain rfl := hk
        exact ⟨rfl, S, rfl⟩
    · exact ⟨rfl, rfl, S, hL⟩
  · rintro m1250 y101 y102 y103 y104 h105 ⟨rfl, rfl, S, hit⟩
    obtain ⟨m125, q124, rfl, hf, hk⟩ := iter_some hit
    clear hit
    unfold B5_0
    unfold p5_l0 at hf
    try dsimp only at hf
    intro jjj0
    have hjj0 : ∀ (b126 : Bool) (h127 : Heap), p5_j0 y103 y104 b126 = some q124 → h105 = h127 → St h none' [] h105 → jjj0 b126 h127 := by
      rintro b126 h127 hf rfl S
      unfold p5_j0 at hf
      unfold jjj0
      refine bP_intro (fun hc => ?_) (fun hc => ?_)
      · rw [if_pos (show b126 = true from hc)] at hf
        intro h132
        have S : St h none' [rowC h105.n [(.int .u8 (IntKind.wrap .u8 (IntKind.wrap .i64 ((48 : Int) + (Int.tmod y104 (10 : Int))))))] 0] h132 := S.pushRow [(.int .u8 (IntKind.wrap .u8 (IntKind.wrap .i64 ((48 : Int) + (Int.tmod y104 (10 : Int))))))]
        have S : St h none' [own (oSl (fz (rI .u8))) [(.slice h105.n 0 0 1 1)] [(IntKind.wrap .u8 (IntKind.wrap .i64 ((48 : Int) + (Int.tmod y104 (10 : Int)))))]] h132 := St.lit (r := (rI .u8)) (els := [[(.int .u8 (IntKind.wrap .u8 (IntKind.wrap .i64 ((48 : Int) + (Int.tmod y104 (10 : Int))))))]]) (l := [(IntKind.wrap .u8 (IntKind.wrap .i64 ((48 : Int) + (Int.tmod y104 (10 : Int)))))]) (n := 1) S rfl (.cons rfl (.nil)) rfl
        refine ⟨_, bytes_ev (S.sl (r := (fz (rI .u8))) (.head _)), ([(IntKind.wrap .u8 (IntKind.wrap .i64 ((48 : Int) + (Int.tmod y104 (10 : Int)))))].map u8), rfl, ?_⟩
        obtain ⟨s134, hs134, hf⟩ := obind hf
        refine oP_intro (.str s134) (catS_ev hs134) ⟨s134, rfl, ?_⟩
        have S : St h none' [] h132 := S.sel [] rfl
        obtain rfl := Option.some.inj hf
        exact ⟨m125, Nat.lt_succ_self _, rfl, rfl, S, hk⟩
      · rw [if_neg (show ¬ (b126 = true) from by rw [show b126 = false from hc]; exact Bool.false_ne_true)] at hf
        obtain rfl := Option.some.inj hf
        obtain rfl := hk
        exact ⟨rfl, rfl, S, rfl⟩
    refine bP_intro (fun hc => ?_) (fun hc => ?_)
    · rw [if_pos (show (0 : Int) < y104 from of_decide_eq_true hc)] at hf
      exact hjj0 _ _  hf rfl S
    · rw [if_neg (show ¬ ((0 : Int) < y104) from of_decide_eq_false hc)] at hf
      exact hjj0 _ _  hf rfl S
  · exact ⟨rfl, rfl, S, hL⟩
/-! 6: marblerun/marblerunlaw04.LexBlanks -/
noncomputable def p6_j0 (y125 : Int) (y128 : List (List UInt8)) (s181 : List UInt8) (s182 : List UInt8) (y197 : List UInt8) : Option (((List UInt8) × (List UInt8) × Int × (List (List UInt8))) ⊕ ((List UInt8) × (List UInt8) × (List (List UInt8)))) := (catS s182 y197).bind fun s198 => some (.inl (s181, s198, (IntKind.wrap .i64 (y125 + (1 : Int))), y128))
noncomputable def p6_l0 (x0 : List Int) (x1 : List Int) (st : (List UInt8) × (List UInt8) × Int × (List (List UInt8))) : Option (((List UInt8) × (List UInt8) × Int × (List (List UInt8))) ⊕ ((List UInt8) × (List UInt8) × (List (List UInt8)))) := match st with | (y123, y124, y125, y128) => if y125 < (x0.length : Int) then ((idx x0 y125).bind fun e175 => (remI .i64 (IntKind.wrap .i64 e175) (y128.length : Int)).bind fun d177 => (idx y128 d177).bind fun e178 => (catS e178 ([32] : List UInt8)).bind fun s180 => (catS y123 s180).bind fun s181 => (catS y124 e178).bind fun s182 => if y125 < (x1.length : Int) then ((idx x1 y125).bind fun e202 => (idx [([32] : List UInt8), ([10] : List UInt8), ([35, 32, 97, 32, 45, 62, 32, 98, 10] : List UInt8), ([9, 32, 13, 10] : List UInt8), ([35, 10, 35, 10] : List UInt8)] (Int.tmod e202 (5 : Int))).bind fun e204 => p6_j0 y125 y128 s181 s182 e204) else (p6_j0 y125 y128 s181 s182 ([32] : List UInt8))) else (some (.inr (y123, y124, y128)))
noncomputable def p6_j1 (y256 : Int) (b416 : Bool) : Option (Int ⊕ (Unit ⊕ Unit)) := if b416 = true then (some (.inr (.inl ()))) else (some (.inl (IntKind.wrap .i64 (y256 + (1 : Int)))))
noncomputable def p6_j2 (y256 : Int) (b431 : Bool) : Option (Int ⊕ (Unit ⊕ Unit)) := p6_j1 y256 b431
noncomputable def p6_j3 (x0 : List Int) (y170 : List (List UInt8)) (u211 : (List TTokenlex) × TFault) (y256 : Int) (b386 : Bool) : Option (Int ⊕ (Unit ⊕ Unit)) := if b386 = true then (p6_j1 y256 true) else (if y256 < (x0.length : Int) then ((idx u211.1 y256).bind fun e440 => (idx x0 y256).bind fun e442 => (remI .i64 (IntKind.wrap .i64 e442) (y170.length : Int)).bind fun d444 => (idx y170 d444).bind fun e445 => p6_j2 y256 (!(e440.Text == e445))) else (p6_j2 y256 false))
noncomputable def p6_j4 (x0 : List Int) (y170 : List (List UInt8)) (u211 : (List TTokenlex) × TFault) (u223 : (List TTokenlex) × TFault) (y256 : Int) (b375 : Bool) : Option (Int ⊕ (Unit ⊕ Unit)) := if b375 = true then (p6_j3 x0 y170 u211 y256 true) else ((idx u211.1 y256).bind fun e448 => (idx u223.1 y256).bind fun e450 => p6_j3 x0 y170 u211 y256 (!decide (e448.N = e450.N)))
noncomputable def p6_l1 (x0 : List Int) (y170 : List (List UInt8)) (u211 : (List TTokenlex) × TFault) (u223 : (List TTokenlex) × TFault) (y256 : Int) : Option (Int ⊕ (Unit ⊕ Unit)) := if y256 < (u211.1.length : Int) then ((idx u211.1 y256).bind fun e367 => (idx u223.1 y256).bind fun e369 => if (!decide (e367.Kind = e369.Kind)) = true then (p6_j4 x0 y170 u211 u223 y256 true) else ((idx u211.1 y256).bind fun e453 => (idx u223.1 y256).bind fun e455 => p6_j4 x0 y170 u211 u223 y256 (!(e453.Text == e455.Text)))) else (some (.inr (.inr ())))
noncomputable def p6_j5 (x0 : List Int) (y170 : List (List UInt8)) (u211 : (List TTokenlex) × TFault) (u223 : (List TTokenlex) × TFault) (b244 : Bool) : Option Bool := if b244 = true then (some false) else ((loopC (p6_l1 x0 y170 u211 u223) (0 : Int)).bind fun res363 => (match res363 with | .inl _ => some false | .inr _ => some true))
noncomputable def p6_j6 (x0 : List Int) (y170 : List (List UInt8)) (u211 : (List TTokenlex) × TFault) (u223 : (List TTokenlex) × TFault) (b237 : Bool) : Option Bool := if b237 = true then (p6_j5 x0 y170 u211 u223 true) else (p6_j5 x0 y170 u211 u223 (!decide ((u211.1.length : Int) = (IntKind.wrap .i64 ((x0.length : Int) + (1 : Int))))))
noncomputable def p6_j7 (x0 : List Int) (y170 : List (List UInt8)) (u211 : (List TTokenlex) × TFault) (u223 : (List TTokenlex) × TFault) (b230 : Bool) : Option Bool := if b230 = true then (p6_j6 x0 y170 u211 u223 true) else (p6_j6 x0 y170 u211 u223 (!decide ((u211.1.length : Int) = (u223.1.length : Int))))
noncomputable def p6_j8 (x0 : List Int) (x1 : List Int) (b109 : Bool) : Option Bool := if b109 = true then ((p17 ).bind fun y116 => some y116) else ((loopC (p6_l0 x0 x1) (([] : List UInt8), ([] : List UInt8), (0 : Int), [([112, 108, 97, 99, 101] : List UInt8), ([112, 46, 49] : List UInt8), ([49, 55] : List UInt8), ([59] : List UInt8), ([58] : List UInt8), ([44] : List UInt8), ([42] : List UInt8), ([33] : List UInt8), ([126] : List UInt8), ([64] : List UInt8), ([61] : List UInt8), ([45, 62] : List UInt8)])).bind fun res171 => (match res171 with | (y166, y167, y170) => (bytesI y166).bind fun y206 => (p18 y206).bind fun u211 => (bytesI y167).bind fun y218 => (p18 y218).bind fun u223 => if (!decide (u211.2.Err = (0 : Int))) = true then (p6_j7 x0 y170 u211 u223 true) else (p6_j7 x0 y170 u211 u223 (!decide (u223.2.Err = (0 : Int))))))
noncomputable def p6_j9 (x0 : List Int) (x1 : List Int) (b104 : Bool) : Option Bool := if b104 = true then (p6_j8 x0 x1 true) else (p6_j8 x0 x1 (decide ((60 : Int) < (x1.length : Int))))
noncomputable def p6 (x0 : List Int) (x1 : List Int) : Option Bool := (p17 ).bind fun y103 => if (!y103) = true then (p6_j9 x0 x1 true) else (p6_j9 x0 x1 (decide ((30 : Int) < (x0.length : Int))))
theorem r6 {h : Heap} {a0_0 : AV} {a1_0 : AV} {x0 : List Int} {x1 : List Int} (f0_0 : SlR (rI .u8) (Snap h) a0_0 x0) (f1_0 : SlR (rI .u8) (Snap h) a1_0 x1) {r : Bool} (hf : p6 x0 x1 = some r) : ZCalls F 6 [a0_0, a1_0] h fun v h' => v = .bool r ∧ St h none' [] h' := by
  refine w6 ?_
  unfold W6
  unfold p6 at hf
  have S : St h none' [] h := St.refl _ _
  obtain ⟨y103, hy103, hf⟩ := obind hf
  refine ⟨_, Fz.refl _, ?_⟩
  refine (r17  hy103).mono fun v101 h102 T => ?_
  obtain ⟨rfl, T⟩ := T
  have S : St h none' [] h102 := S.comp T
  refine ⟨y103, rfl, ?_⟩
  intro jjj9
  have hjj9 : ∀ (b104 : Bool) (h105 : Heap), p6_j9 x0 x1 b104 = some r → h102 = h105 → St h none' [] h102 → jjj9 b104 h105 := by
    rintro b104 h105 hf rfl S
    unfold p6_j9 at hf
    unfold jjj9
    intro jjj8
    have hjj8 : ∀ (b109 : Bool) (h110 : Heap), p6_j8 x0 x1 b109 = some r → h102 = h110 → St h none' [] h102 → jjj8 b109 h110 := by
      rintro b109 h110 hf rfl S
      unfold p6_j8 at hf
      unfold jjj8
      refine bP_intro (fun hc => ?_) (fun hc => ?_)
      · rw [if_pos (show b109 = true from hc)] at hf
        obtain ⟨y116, hy116, hf⟩ := obind hf
        refine ⟨_, Fz.refl _, ?_⟩
        refine (r17  hy116).mono fun v114 h115 T => ?_
        obtain ⟨rfl, T⟩ := T
        have S : St h none' [] h115 := S.comp T
        refine ⟨y116, rfl, ?_⟩
        obtain rfl := Option.some.inj hf
        exact ⟨rfl, S.sel [] rfl⟩
      · rw [if_neg (show ¬ (b109 = true) from by rw [show b109 = false from hc]; exact Bool.false_ne_true)] at hf
        intro h117
        have S : St h none' [rowC h102.n [(.str ([112, 108, 97, 99, 101] : List UInt8)), (.str ([112, 46, 49] : List UInt8)), (.str ([49, 55] : List UInt8)), (.str ([59] : List UInt8)), (.str ([58] : List UInt8)), (.str ([44] : List UInt8)), (.str ([42] : List UInt8)), (.str ([33] : List UInt8)), (.str ([126] : List UInt8)), (.str ([64] : List UInt8)), (.str ([61] : List UInt8)), (.str ([45, 62] : List UInt8))] 0] h117 := S.pushRow [(.str ([112, 108, 97, 99, 101] : List UInt8)), (.str ([112, 46, 49] : List UInt8)), (.str ([49, 55] : List UInt8)), (.str ([59] : List UInt8)), (.str ([58] : List UInt8)), (.str ([44] : List UInt8)), (.str ([42] : List UInt8)), (.str ([33] : List UInt8)), (.str ([126] : List UInt8)), (.str ([64] : List UInt8)), (.str ([61] : List UInt8)), (.str ([45, 62] : List UInt8))]
        obtain ⟨res171, hL, hf⟩ := obind hf
        obtain ⟨n172, hL⟩ := loopC_iff.1 hL
        have S : St h none' [own (oSl (fz rS)) [(.slice h102.n 0 0 12 1)] [([112, 108, 97, 99, 101] : List UInt8), ([112, 46, 49] : List UInt8), ([49, 55] : List UInt8), ([59] : List UInt8), ([58] : List UInt8), ([44] : List UInt8), ([42] : List UInt8), ([33] : List UInt8), ([126] : List UInt8), ([64] : List UInt8), ([61] : List UInt8), ([45, 62] : List UInt8)]] h117 := St.lit (r := rS) (els := [[(.str ([112, 108, 97, 99, 101] : List UInt8))], [(.str ([112, 46, 49] : List UInt8))], [(.str ([49, 55] : List UInt8))], [(.str ([59] : List UInt8))], [(.str ([58] : List UInt8))], [(.str ([44] : List UInt8))], [(.str ([42] : List UInt8))], [(.str ([33] : List UInt8))], [(.str ([126] : List UInt8))], [(.str ([64] : List UInt8))], [(.str ([61] : List UInt8))], [(.str ([45, 62] : List UInt8))]]) (l := [([112, 108, 97, 99, 101] : List UInt8), ([112, 46, 49] : List UInt8), ([49, 55] : List UInt8), ([59] : List UInt8), ([58] : List UInt8), ([44] : List UInt8), ([42] : List UInt8), ([33] : List UInt8), ([126] : List UInt8), ([64] : List UInt8), ([61] : List UInt8), ([45, 62] : List UInt8)]) (n := 12) S rfl (.cons rfl (.cons rfl (.cons rfl (.cons rfl (.cons rfl (.cons rfl (.cons rfl (.cons rfl (.cons rfl (.cons rfl (.cons rfl (.cons rfl (.nil))))))))))))) rfl
        refine loopm6_0 (X0 := fun (y162 : AV) (y163 : AV) (y164 : Bool) (y165 : AV) (y166 : List UInt8) (y167 : List UInt8) (y168 : Int) (h169 : Heap) => ∃ (y170 : List (List UInt8)), a0_0 = y162 ∧ false = y164 ∧ St h none' [own (oSl (fz rS)) [y165] y170] h169 ∧ (y166, y167, y170) = res171) ?_ (loop6_0 (I := fun (m174 : Nat) (y119 : AV) (y120 : AV) (y121 : Bool) (y122 : AV) (y123 : List UInt8) (y124 : List UInt8) (y125 : Int) (h126 : Heap) => ∃ (y128 : List (List UInt8)), a0_0 = y119 ∧ a1_0 = y120 ∧ false = y121 ∧ St h none' [own (oSl (fz rS)) [y122] y128] h126 ∧ iter (p6_l0 x0 x1) m174 (y123, y124, y125, y128) = some res171) ?_ (m := n172) ?_)
        · rintro y162 y163 y164 y165 y166 y167 y168 h169 ⟨y170, rfl, rfl, S, rfl⟩
          try dsimp only at hf
          obtain ⟨y206, hy206, hf⟩ := obind hf
          refine oP_intro _ (bytesI_ob hy206) ?_
          intro h207
          have S : St h none' [own (oSl (fz (rI .u8))) [(NOp.mk .strToBytes [(.str y166)] h169.n)] y206, own (oSl (fz rS)) [y165] y170] h207 := (S.ofStr y166).cast (by rw [(bytesI_some hy206).2])
          obtain ⟨u211, hu211, hf⟩ := obind hf
          refine ⟨_, Fz.refl _, ?_⟩
          refine (r18 (p0 := y206) (f0_0 := (S.sl (r := (fz (rI .u8))) (.head _))) hu211).mono fun v209 h210 T => ?_
          obtain ⟨w212, rfl, T⟩ := T
          have S : St h none' [own (oSl (fz rTokenlex)) [w212] u211.1, own (oSl (fz (rI .u8))) [(NOp.mk .strToBytes [(.str y166)] h169.n)] y206, own (oSl (fz rS)) [y165] y170] h210 := S.comp T
          refine oP_intro w212 rfl ?_
          refine oP_intro (.agg [(.int .i64 u211.2.Err), (.int .i64 u211.2.At), (.int .i64 u211.2.Line), (.int .i64 u211.2.Col)]) rfl ?_
          intro h214
          have S : St h none' [rowC h210.n [(.int .i64 (0 : Int)), (.int .i64 (0 : Int)), (.int .i64 (0 : Int)), (.int .i64 (0 : Int))] 0, own (oSl (fz rTokenlex)) [w212] u211.1, own (oSl (fz (rI .u8))) [(NOp.mk .strToBytes [(.str y166)] h169.n)] y206, own (oSl (fz rS)) [y165] y170] h214 := S.pushRow [(.int .i64 (0 : Int)), (.int .i64 (0 : Int)), (.int .i64 (0 : Int)), (.int .i64 (0 : Int))]
          obtain ⟨h216, e217, S⟩ := S.store (off := 0) (n := 4) (x := (.agg [(.int .i64 u211.2.Err), (.int .i64 u211.2.At), (.int .i64 u211.2.Line), (.int .i64 u211.2.Col)])) (cs' := [(.int .i64 u211.2.Err), (.int .i64 u211.2.At), (.int .i64 u211.2.Line), (.int .i64 u211.2.Col)]) (Nat.le_of_ble_eq_true rfl) rfl rfl rfl
          have S : St h none' [rowC h210.n [(.int .i64 u211.2.Err), (.int .i64 u211.2.At), (.int .i64 u211.2.Line), (.int .i64 u211.2.Col)] 0, own (oSl (fz rTokenlex)) [w212] u211.1, own (oSl (fz (rI .u8))) [(NOp.mk .strToBytes [(.str y166)] h169.n)] y206, own (oSl (fz rS)) [y165] y170] h216 := S
          refine ⟨h216, e217, ?_⟩
          obtain ⟨y218, hy218, hf⟩ := obind hf
          refine oP_intro _ (bytesI_ob hy218) ?_
          intro h219
          have S : St h none' [own (oSl (fz (rI .u8))) [(NOp.mk .strToBytes [(.str y167)] h216.n)] y218, rowC h210.n [(.int .i64 u211.2.Err), (.int .i64 u211.2.At), (.int .i64 u211.2.Line), (.int .i64 u211.2.Col)] 0, own (oSl (fz rTokenlex)) [w212] u211.1, own (oSl (fz (rI .u8))) [(NOp.mk .strToBytes [(.str y166)] h169.n)] y206, own (oSl (fz rS)) [y165] y170] h219 := (S.ofStr y167).cast (by rw [(bytesI_some hy218).2])
          obtain ⟨u223, hu223, hf⟩ := obind hf
          refine ⟨_, Fz.refl _, ?_⟩
          refine (r18 (p0 := y218) (f0_0 := (S.sl (r := (fz (rI .u8))) (.head _))) hu223).mono fun v221 h222 T => ?_
          obtain ⟨w224, rfl, T⟩ := T
          have S : St h none' [own (oSl (fz rTokenlex)) [w224] u223.1, own (oSl (fz (rI .u8))) [(NOp.mk .strToBytes [(.str y167)] h216.n)] y218, rowC h210.n [(.int .i64 u211.2.Err), (.int .i64 u211.2.At), (.int .i64 u211.2.Line), (.int .i64 u211.2.Col)] 0, own (oSl (fz rTokenlex)) [w212] u211.1, own (oSl (fz (rI .u8))) [(NOp.mk .strToBytes [(.str y166)] h169.n)] y206, own (oSl (fz rS)) [y165] y170] h222 := S.comp T
          refine oP_intro w224 rfl ?_
          refine oP_intro (.agg [(.int .i64 u223.2.Err), (.int .i64 u223.2.At), (.int .i64 u223.2.Line), (.int .i64 u223.2.Col)]) rfl ?_
          intro h226
          have S : St h none' [rowC h222.n [(.int .i64 (0 : Int)), (.int .i64 (0 : Int)), (.int .i64 (0 : Int)), (.int .i64 (0 : Int))] 0, own (oSl (fz rTokenlex)) [w224] u223.1, own (oSl (fz (rI .u8))) [(NOp.mk .strToBytes [(.str y167)] h216.n)] y218, rowC h210.n [(.int .i64 u211.2.Err), (.int .i64 u211.2.At), (.int .i64 u211.2.Line), (.int .i64 u211.2.Col)] 0, own (oSl (fz rTokenlex)) [w212] u211.1, own (oSl (fz (rI .u8))) [(NOp.mk .strToBytes [(.str y166)] h169.n)] y206, own (oSl (fz rS)) [y165] y170] h226 := S.pushRow [(.int .i64 (0 : Int)), (.int .i64 (0 : Int)), (.int .i64 (0 : Int)), (.int .i64 (0 : Int))]
          obtain ⟨h228, e229, S⟩ := S.store (off := 0) (n := 4) (x := (.agg [(.int .i64 u223.2.Err), (.int .i64 u223.2.At), (.int .i64 u223.2.Line), (.int .i64 u223.2.Col)])) (cs' := [(.int .i64 u223.2.Err), (.int .i64 u223.2.At), (.int .i64 u223.2.Line), (.int .i64 u223.2.Col)]) (Nat.le_of_ble_eq_true rfl) rfl rfl rfl
          have S : St h none' [rowC h222.n [(.int .i64 u223.2.Err), (.int .i64 u223.2.At), (.int .i64 u223.2.Line), (.int .i64 u223.2.Col)] 0, own (oSl (fz rTokenlex)) [w224] u223.1, own (oSl (fz (rI .u8))) [(NOp.mk .strToBytes [(.str y167)] h216.n)] y218, rowC h210.n [(.int .i64 u211.2.Err), (.int .i64 u211.2.At), (.int .i64 u211.2.Line), (.int .i64 u211.2.Col)] 0, own (oSl (fz rTokenlex)) [w212] u211.1, own (oSl (fz (rI .u8))) [(NOp.mk .strToBytes [(.str y166)] h169.n)] y206, own (oSl (fz rS)) [y165] y170] h228 := S
          refine ⟨h228, e229, ?_⟩
          refine ⟨u211.2.Err, S.rd1 (.tail _ (.tail _ (.tail _ (.head _)))) rfl, ?_⟩
          intro jjj7
          have hjj7 : ∀ (b230 : Bool) (h231 : Heap), p6_j7 x0 y170 u211 u223 b230 = some r → h228 = h231 → St h none' [own (oSl (fz rS)) [y165] y170, own (oSl (fz rTokenlex)) [w212] u211.1, own (oSl (fz rTokenlex)) [w224] u223.1] h228 → jjj7 b230 h231 := by
            rintro b230 h231 hf rfl S
            unfold p6_j7 at hf
            unfold jjj7
            intro jjj6
            have hjj6 : ∀ (b237 : Bool) (h238 : Heap), p6_j6 x0 y170 u211 u223 b237 = some r → h228 = h238 → St h none' [own (oSl (fz rS)) [y165] y170, own (oSl (fz rTokenlex)) [w212] u211.1, own (oSl (fz rTokenlex)) [w224] u223.1] h228 → jjj6 b237 h238 := by
              rintro b237 h238 hf rfl S
              unfold p6_j6 at hf
              unfold jjj6
              intro jjj5
              have hjj5 : ∀ (b244 : Bool) (h245 : Heap), p6_j5 x0 y170 u211 u223 b244 = some r → h228 = h245 → St h none' [own (oSl (fz rS)) [y165] y170, own (oSl (fz rTokenlex)) [w212] u211.1, own (oSl (fz rTokenlex)) [w224] u223.1] h228 → jjj5 b244 h245 := by
                rintro b244 h245 hf rfl S
                unfold p6_j5 at hf
                unfold jjj5
                refine bP_intro (fun hc => ?_) (fun hc => ?_)
                · rw [if_pos (show b244 = true from hc)] at hf
                  obtain rfl := Option.some.inj hf
                  exact ⟨rfl, S.sel [] rfl⟩
                · rw [if_neg (show ¬ (b244 = true) from by rw [show b244 = false from hc]; exact Bool.false_ne_true)] at hf
                  obtain ⟨res363, hL, hf⟩ := obind hf
                  obtain ⟨n364, hL⟩ := loopC_iff.1 hL
                  refine loopm6_1 (R := fun (y349 : AV) (y350 : Bool) (y351 : AV) (y352 : AV) (y353 : AV) (y354 : Int) (h355 : Heap) => false = y350 ∧ St h none' [] h355 ∧ (.inl ()) = res363) (X2 := fun (y356 : AV) (y357 : Bool) (y358 : AV) (y359 : AV) (y360 : AV) (y361 : Int) (h362 : Heap) => St h none' [] h362 ∧ (.inr ()) = res363) ?_ ?_ (loop6_1 (I := fun (m366 : Nat) (y251 : AV) (y252 : Bool) (y253 : AV) (y254 : AV) (y255 : AV) (y256 : Int) (h257 : Heap) => a0_0 = y251 ∧ y165 = y253 ∧ w212 = y254 ∧ w224 = y255 ∧ St h none' [own (oSl (fz rS)) [y165] y170, own (oSl (fz rTokenlex)) [w212] u211.1, own (oSl (fz rTokenlex)) [w224] u223.1] h257 ∧ iter (p6_l1 x0 y170 u211 u223) m366 y256 = some res363) ?_ (m := n364) ?_)
                  · rintro y349 y350 y351 y352 y353 y354 h355 ⟨rfl, S, rfl⟩
                    try dsimp only at hf
                    obtain rfl := Option.some.inj hf
                    exact ⟨rfl, S.sel [] rfl⟩
                  · rintro y356 y357 y358 y359 y360 y361 h362 ⟨S, rfl⟩
                    try dsimp only at hf
                    obtain rfl := Option.some.inj hf
                    exact ⟨rfl, S.sel [] rfl⟩
                  · rintro m3660 y251 y252 y253 y254 y255 y256 h257 ⟨rfl, rfl, rfl, rfl, S, hit⟩
                    obtain ⟨m366, q365, rfl, hf, hk⟩ := iter_some hit
                    clear hit
                    unfold B6_1
                    unfold p6_l1 at hf
                    try dsimp only at hf
                    refine ifP_iff.2 ⟨((S.sl (r := (fz rTokenlex)) (.tail _ (.head _)))).is, ?_⟩
                    try rw [((S.sl (r := (fz rTokenlex)) (.tail _ (.head _)))).slen]
                    refine bP_intro (fun hc => ?_) (fun hc => ?_)
                    · rw [if_pos (show y256 < (u211.1.length : Int) from of_decide_eq_true hc)] at hf
                      obtain ⟨e367, he367, hf⟩ := obind hf
                      obtain ⟨qe367, q0e367, q1e367⟩ := SlR.ix (S.sl (r := (fz rTokenlex)) (.tail _ (.head _))) he367
                      have pe367 := (SlR.idx (S.sl (r := (fz rTokenlex)) (.tail _ (.head _))) (Hp.le_refl _) he367).1
                      refine ifP_iff.2 ⟨qe367, q0e367, (by first | exact q1e367 | exact (idx_lt he367).2), ?_⟩
                      refine ifP_iff.2 ⟨pe367, ?_⟩
                      obtain ⟨_, cr368, Rr368, Nr368, Or368, Zr368⟩ := St.idxO (r := rTokenlex) S (.tail _ (.head _)) he367
                      obtain rfl := rTokenlex_open Rr368
                      refine ⟨e367.Kind, Or368 0 _ rfl, ?_⟩
                      obtain ⟨e369, he369, hf⟩ := obind hf
                      obtain ⟨qe369, q0e369, q1e369⟩ := SlR.ix (S.sl (r := (fz rTokenlex)) (.tail _ (.tail _ (.head _)))) he369
                      have pe369 := (SlR.idx (S.sl (r := (fz rTokenlex)) (.tail _ (.tail _ (.head _)))) (Hp.le_refl _) he369).1
                      refine ifP_iff.2 ⟨qe369, q0e369, (by first | exact q1e369 | exact (idx_lt he369).2), ?_⟩
                      refine ifP_iff.2 ⟨pe369, ?_⟩
                      obtain ⟨_, cr370, Rr370, Nr370, Or370, Zr370⟩ := St.idxO (r := rTokenlex) S (.tail _ (.tail _ (.head _))) he369
                      obtain rfl := rTokenlex_open Rr370
                      refine ⟨e369.Kind, Or370 0 _ rfl, ?_⟩
                      intro jjj4
                      have hjj4 : ∀ (b375 : Bool) (h376 : Heap), p6_j4 x0 y170 u211 u223 y256 b375 = some q365 → h257 = h376 → St h none' [own (oSl (fz rS)) [y165] y170, own (oSl (fz rTokenlex)) [w212] u211.1, own (oSl (fz rTokenlex)) [w224] u223.1] h257 → jjj4 b375 h376 := by
                        rintro b375 h376 hf rfl S
                        unfold p6_j4 at hf
                        unfold jjj4
                        intro jjj3
                        have hjj3 : ∀ (b386 : Bool) (h387 : Heap), p6_j3 x0 y170 u211 y256 b386 = some q365 → h257 = h387 → St h none' [own (oSl (fz rS)) [y165] y170, own (oSl (fz rTokenlex)) [w212] u211.1, own (oSl (fz rTokenlex)) [w224] u223.1] h257 → jjj3 b386 h387 := by
                          rintro b386 h387 hf rfl S
                          unfold p6_j3 at hf
                          unfold jjj3
                          intro jjj1
                          have hjj1 : ∀ (b416 : Bool) (h417 : Heap), p6_j1 y256 b416 = some q365 → h257 = h417 → St h none' [own (oSl (fz rS)) [y165] y170, own (oSl (fz rTokenlex)) [w212] u211.1, own (oSl (fz rTokenlex)) [w224] u223.1] h257 → jjj1 b416 h417 := by
                            rintro b416 h417 hf rfl S
                            unfold p6_j1 at hf
                            unfold jjj1
                            refine bP_intro (fun hc => ?_) (fun hc => ?_)
                            · rw [if_pos (show b416 = true from hc)] at hf
                              have S : St h none' [] h257 := S.sel [] rfl
                              obtain rfl := Option.some.inj hf
                              obtain rfl := hk
                              exact ⟨rfl, S, rfl⟩
                            · rw [if_neg (show ¬ (b416 = true) from by rw [show b416 = false from hc]; exact Bool.false_ne_true)] at hf
                              obtain rfl := Option.some.inj hf
                              exact ⟨m366, Nat.lt_succ_self _, rfl, rfl, rfl, rfl, S, hk⟩
                          refine bP_intro (fun hc => ?_) (fun hc => ?_)
                          · rw [if_pos (show b386 = true from hc)] at hf
                            exact hjj1 _ _  hf rfl S
                          · rw [if_neg (show ¬ (b386 = true) from by rw [show b386 = false from hc]; exact Bool.false_ne_true)] at hf
                            refine ifP_iff.2 ⟨(f0_0).is, ?_⟩
                            try rw [(f0_0).slen]
                            intro jjj2
                            have hjj2 : ∀ (b431 : Bool) (h432 : Heap), p6_j2 y256 b431 = some q365 → h257 = h432 → St h none' [own (oSl (fz rS)) [y165] y170, own (oSl (fz rTokenlex)) [w212] u211.1, own (oSl (fz rTokenlex)) [w224] u223.1] h257 → jjj2 b431 h432 := by
                              rintro b431 h432 hf rfl S
                              unfold p6_j2 at hf
                              unfold jjj2
                              exact hjj1 _ _  hf rfl S
                            refine bP_intro (fun hc => ?_) (fun hc => ?_)
                            · rw [if_pos (show y256 < (x0.length : Int) from of_decide_eq_true hc)] at hf
                              obtain ⟨e440, he440, hf⟩ := obind hf
                              obtain ⟨qe440, q0e440, q1e440⟩ := SlR.ix (S.sl (r := (fz rTokenlex)) (.tail _ (.head _))) he440
                              have pe440 := (SlR.idx (S.sl (r := (fz rTokenlex)) (.tail _ (.head _))) (Hp.le_refl _) he440).1
                              refine ifP_iff.2 ⟨qe440, q0e440, (by first | exact q1e440 | exact (idx_lt he440).2), ?_⟩
                              refine ifP_iff.2 ⟨pe440, ?_⟩
                              obtain ⟨_, cr441, Rr441, Nr441, Or441, Zr441⟩ := St.idxO (r := rTokenlex) S (.tail _ (.head _)) he440
                              obtain rfl := rTokenlex_open Rr441
                              refine ⟨e440.Text, Or441 1 _ rfl, ?_⟩
                              obtain ⟨e442, he442, hf⟩ := obind hf
                              obtain ⟨qe442, q0e442, q1e442⟩ := SlR.ix f0_0 he442
                              have pe442 := (SlR.idx f0_0 (snap_mono S.le) he442).1
                              refine ifP_iff.2 ⟨qe442, q0e442, (by first | exact q1e442 | exact (idx_lt he442).2), ?_⟩
                              obtain ⟨_, cr443, Rr443, Nr443, Or443, Zr443⟩ := SlR.idx f0_0 (snap_mono S.le) he442
                              obtain rfl : cr443 = [(.int .u8 e442)] := Rr443
                              refine ⟨e442, Zr443 _ rfl, ?_⟩
                              refine ifP_iff.2 ⟨((S.sl (r := (fz rS)) (.head _))).is, ?_⟩
                              try rw [((S.sl (r := (fz rS)) (.head _))).slen]
                              obtain ⟨d444, hd444, hf⟩ := obind hf
                              refine oP_intro (.int .i64 d444) (remI_ev hd444) ⟨d444, rfl, ?_⟩
                              obtain ⟨e445, he445, hf⟩ := obind hf
                              obtain ⟨qe445, q0e445, q1e445⟩ := SlR.ix (S.sl (r := (fz rS)) (.head _)) he445
                              have pe445 := (SlR.idx (S.sl (r := (fz rS)) (.head _)) (Hp.le_refl _) he445).1
                              refine ifP_iff.2 ⟨qe445, q0e445, (by first | exact q1e445 | exact (idx_lt he445).2), ?_⟩
                              obtain ⟨_, cr446, Rr446, Nr446, Or446, Zr446⟩ := St.idxO (r := rS) S (.head _) he445
                              obtain rfl : cr446 = [(.str e445)] := Rr446
                              refine ⟨e445, Zr446 _ rfl, ?_⟩
                              exact hjj2 _ _  hf rfl S
                            · rw [if_neg (show ¬ (y256 < (x0.length : Int)) from of_decide_eq_false hc)] at hf
                              exact hjj2 _ _  hf rfl S
                        refine bP_intro (fun hc => ?_) (fun hc => ?_)
                        · rw [if_pos (show b375 = true from hc)] at hf
                          exact hjj3 _ _  hf rfl S
                        · rw [if_neg (show ¬ (b375 = true) from by rw [show b375 = false from hc]; exact Bool.false_ne_true)] at hf
                          obtain ⟨e448, he448, hf⟩ := obind hf
                          obtain ⟨qe448, q0e448, q1e448⟩ := SlR.ix (S.sl (r := (fz rTokenlex)) (.tail _ (.head _))) he448
                          have pe448 := (SlR.idx (S.sl (r := (fz rTokenlex)) (.tail _ (.head _))) (Hp.le_refl _) he448).1
                          refine ifP_iff.2 ⟨qe448, q0e448, (by first | exact q1e448 | exact (idx_lt he448).2), ?_⟩
                          refine ifP_iff.2 ⟨pe448, ?_⟩
                          obtain ⟨_, cr449, Rr449, Nr449, Or449, Zr449⟩ := St.idxO (r := rTokenlex) S (.tail _ (.head _)) he448
                          obtain rfl := rTokenlex_open Rr449
                          refine ⟨e448.N, Or449 2 _ rfl, ?_⟩
                          obtain ⟨e450, he450, hf⟩ := obind hf
                          obtain ⟨qe450, q0e450, q1e450⟩ := SlR.ix (S.sl (r := (fz rTokenlex)) (.tail _ (.tail _ (.head _)))) he450
                          have pe450 := (SlR.idx (S.sl (r := (fz rTokenlex)) (.tail _ (.tail _ (.head _)))) (Hp.le_refl _) he450).1
                          refine ifP_iff.2 ⟨qe450, q0e450, (by first | exact q1e450 | exact (idx_lt he450).2), ?_⟩
                          refine ifP_iff.2 ⟨pe450, ?_⟩
                          obtain ⟨_, cr451, Rr451, Nr451, Or451, Zr451⟩ := St.idxO (r := rTokenlex) S (.tail _ (.tail _ (.head _))) he450
                          obtain rfl := rTokenlex_open Rr451
                          refine ⟨e450.N, Or451 2 _ rfl, ?_⟩
                          exact hjj3 _ _  hf rfl S
                      refine bP_intro (fun hc => ?_) (fun hc => ?_)
                      · rw [if_pos (show (!decide (e367.Kind = e369.Kind)) = true from hc)] at hf
                        exact hjj4 _ _  hf rfl S
                      · rw [if_neg (show ¬ ((!decide (e367.Kind = e369.Kind)) = true) from by rw [show (!decide (e367.Kind = e369.Kind)) = false from hc]; exact Bool.false_ne_true)] at hf
                        obtain ⟨e453, he453, hf⟩ := obind hf
                        obtain ⟨qe453, q0e453, q1e453⟩ := SlR.ix (S.sl (r := (fz rTokenlex)) (.tail _ (.head _))) he453
                        have pe453 := (SlR.idx (S.sl (r := (fz rTokenlex)) (.tail _ (.head _))) (Hp.le_refl _) he453).1
                        refine ifP_iff.2 ⟨qe453, q0e453, (by first | exact q1e453 | exact (idx_lt he453).2), ?_⟩
                        refine ifP_iff.2 ⟨pe453, ?_⟩
                        obtain ⟨_, cr454, Rr454, Nr454, Or454, Zr454⟩ := St.idxO (r := rTokenlex) S (.tail _ (.head _)) he453
                        obtain rfl := rTokenlex_open Rr454
                        refine ⟨e453.Text, Or454 1 _ rfl, ?_⟩
                        obtain ⟨e455, he455, hf⟩ := obind hf
                        obtain ⟨qe455, q0e455, q1e455⟩ := SlR.ix (S.sl (r := (fz rTokenlex)) (.tail _ (.tail _ (.head _)))) he455
                        have pe455 := (SlR.idx (S.sl (r := (fz rTokenlex)) (.tail _ (.tail _ (.head _)))) (Hp.le_refl _) he455).1
                        refine ifP_iff.2 ⟨qe455, q0e455, (by first | exact q1e455 | exact (idx_lt he455).2), ?_⟩
                        refine ifP_iff.2 ⟨pe455, ?_⟩
                        obtain ⟨_, cr456, Rr456, Nr456, Or456, Zr456⟩ := St.idxO (r := rTokenlex) S (.tail _ (.tail _ (.head _))) he455
                        obtain rfl := rTokenlex_open Rr456
                        refine ⟨e455.Text, Or456 1 _ rfl, ?_⟩
                        exact hjj4 _ _  hf rfl S
                    · rw [if_neg (show ¬ (y256 < (u211.1.length : Int)) from of_decide_eq_false hc)] at hf
                      have S : St h none' [] h257 := S.sel [] rfl
                      obtain rfl := Option.some.inj hf
                      obtain rfl := hk
                      exact ⟨S, rfl⟩
                  · exact ⟨rfl, rfl, rfl, rfl, S, hL⟩
              refine bP_intro (fun hc => ?_) (fun hc => ?_)
              · rw [if_pos (show b237 = true from hc)] at hf
                exact hjj5 _ _  hf rfl S
              · rw [if_neg (show ¬ (b237 = true) from by rw [show b237 = false from hc]; exact Bool.false_ne_true)] at hf
                refine ifP_iff.2 ⟨((S.sl (r := (fz rTokenlex)) (.tail _ (.head _)))).is, ?_⟩
                try rw [((S.sl (r := (fz rTokenlex)) (.tail _ (.head _)))).slen]
                refine ifP_iff.2 ⟨(f0_0).is, ?_⟩
                try rw [(f0_0).slen]
                exact hjj5 _ _  hf rfl S
            refine bP_intro (fun hc => ?_) (fun hc => ?_)
            · rw [if_pos (show b230 = true from hc)] at hf
              exact hjj6 _ _  hf rfl S
            · rw [if_neg (show ¬ (b230 = true) from by rw [show b230 = false from hc]; exact Bool.false_ne_true)] at hf
              refine ifP_iff.2 ⟨((S.sl (r := (fz rTokenlex)) (.tail _ (.head _)))).is, ?_⟩
              try rw [((S.sl (r := (fz rTokenlex)) (.tail _ (.head _)))).slen]
              refine ifP_iff.2 ⟨((S.sl (r := (fz rTokenlex)) (.tail _ (.tail _ (.head _))))).is, ?_⟩
              try rw [((S.sl (r := (fz rTokenlex)) (.tail _ (.tail _ (.head _))))).slen]
              exact hjj6 _ _  hf rfl S
          refine bP_intro (fun hc => ?_) (fun hc => ?_)
          · rw [if_pos (show (!decide (u211.2.Err = (0 : Int))) = true from hc)] at hf
            have S : St h none' [own (oSl (fz rS)) [y165] y170, own (oSl (fz rTokenlex)) [w212] u211.1, own (oSl (fz rTokenlex)) [w224] u223.1] h228 := S.sel [6, 4, 1] rfl
            exact hjj7 _ _  hf rfl S
          · rw [if_neg (show ¬ ((!decide (u211.2.Err = (0 : Int))) = true) from by rw [show (!decide (u211.2.Err = (0 : Int))) = false from hc]; exact Bool.false_ne_true)] at hf
            refine ⟨u223.2.Err, S.rd1 (.head _) rfl, ?_⟩
            have S : St h none' [own (oSl (fz rS)) [y165] y170, own (oSl (fz rTokenlex)) [w212] u211.1, own (oSl (fz rTokenlex)) [w224] u223.1] h228 := S.sel [6, 4, 1] rfl
            exact hjj7 _ _  hf rfl S
        · rintro m1740 y119 y120 y121 y122 y123 y124 y125 h126 ⟨y128, rfl, rfl, rfl, S, hit⟩
          obtain ⟨m174, q173, rfl, hf, hk⟩ := iter_some hit
          clear hit
          unfold B6_0
          unfold p6_l0 at hf
          try dsimp only at hf
          refine ifP_iff.2 ⟨(f0_0).is, ?_⟩
          try rw [(f0_0).slen]
          refine bP_intro (fun hc => ?_) (fun hc => ?_)
          · rw [if_pos (show y125 < (x0.length : Int) from of_decide_eq_true hc)] at hf
            obtain ⟨e175, he175, hf⟩ := obind hf
            obtain ⟨qe175, q0e175, q1e175⟩ := SlR.ix f0_0 he175
            have pe175 := (SlR.idx f0_0 (snap_mono S.le) he175).1
            refine ifP_iff.2 ⟨qe175, q0e175, (by first | exact q1e175 | exact (idx_lt he175).2), ?_⟩
            obtain ⟨_, cr176, Rr176, Nr176, Or176, Zr176⟩ := SlR.idx f0_0 (snap_mono S.le) he175
            obtain rfl : cr176 = [(.int .u8 e175)] := Rr176
            refine ⟨e175, Zr176 _ rfl, ?_⟩
            refine ifP_iff.2 ⟨((S.sl (r := (fz rS)) (.head _))).is, ?_⟩
            try rw [((S.sl (r := (fz rS)) (.head _))).slen]
            obtain ⟨d177, hd177, hf⟩ := obind hf
            refine oP_intro (.int .i64 d177) (remI_ev hd177) ⟨d177, rfl, ?_⟩
            obtain ⟨e178, he178, hf⟩ := obind hf
            obtain ⟨qe178, q0e178, q1e178⟩ := SlR.ix (S.sl (r := (fz rS)) (.head _)) he178
            have pe178 := (SlR.idx (S.sl (r := (fz rS)) (.head _)) (Hp.le_refl _) he178).1
            refine ifP_iff.2 ⟨qe178, q0e178, (by first | exact q1e178 | exact (idx_lt he178).2), ?_⟩
            obtain ⟨_, cr179, Rr179, Nr179, Or179, Zr179⟩ := St.idxO (r := rS) S (.head _) he178
            obtain rfl : cr179 = [(.str e178)] := Rr179
            refine ⟨e178, Zr179 _ rfl, ?_⟩
            obtain ⟨s180, hs180, hf⟩ := obind hf
            refine oP_intro (.str s180) (catS_ev hs180) ⟨s180, rfl, ?_⟩
            obtain ⟨s181, hs181, hf⟩ := obind hf
            refine oP_intro (.str s181) (catS_ev hs181) ⟨s181, rfl, ?_⟩
            obtain ⟨s182, hs182, hf⟩ := obind hf
            refine oP_intro (.str s182) (catS_ev hs182) ⟨s182, rfl, ?_⟩
            refine ifP_iff.2 ⟨(f1_0).is, ?_⟩
            try rw [(f1_0).slen]
            intro jjj0
            have hjj0 : ∀ (y197 : List UInt8) (h189 : Heap) , p6_j0 y125 y128 s181 s182 y197 = some q173 → St h none' [own (oSl (fz rS)) [y122] y128] h189 → jjj0 y197 h189 := by
              rintro y197 h189 hf S
              unfold p6_j0 at hf
              unfold jjj0
              obtain ⟨s198, hs198, hf⟩ := obind hf
              refine oP_intro (.str s198) (catS_ev hs198) ⟨s198, rfl, ?_⟩
              obtain rfl := Option.some.inj hf
              exact ⟨m174, Nat.lt_succ_self _, y128, rfl, rfl, rfl, S, hk⟩
            refine bP_intro (fun hc => ?_) (fun hc => ?_)
            · rw [if_pos (show y125 < (x1.length : Int) from of_decide_eq_true hc)] at hf
              intro h200
              have S : St h none' [rowC h126.n [(.str ([32] : List UInt8)), (.str ([10] : List UInt8)), (.str ([35, 32, 97, 32, 45, 62, 32, 98, 10] : List UInt8)), (.str ([9, 32, 13, 10] : List UInt8)), (.str ([35, 10, 35, 10] : List UInt8))] 0, own (oSl (fz rS)) [y122] y128] h200 := S.pushRow [(.str ([32] : List UInt8)), (.str ([10] : List UInt8)), (.str ([35, 32, 97, 32, 45, 62, 32, 98, 10] : List UInt8)), (.str ([9, 32, 13, 10] : List UInt8)), (.str ([35, 10, 35, 10] : List UInt8))]
              obtain ⟨e202, he202, hf⟩ := obind hf
              obtain ⟨qe202, q0e202, q1e202⟩ := SlR.ix f1_0 he202
              have pe202 := (SlR.idx f1_0 (snap_mono S.le) he202).1
              refine ifP_iff.2 ⟨qe202, q0e202, (by first | exact q1e202 | exact (idx_lt he202).2), ?_⟩
              obtain ⟨_, cr203, Rr203, Nr203, Or203, Zr203⟩ := SlR.idx f1_0 (snap_mono S.le) he202
              obtain rfl : cr203 = [(.int .u8 e202)] := Rr203
              refine ⟨e202, Zr203 _ rfl, ?_⟩
              obtain ⟨e204, he204, hf⟩ := obind hf
              have S : St h none' [own (oSl (fz rS)) [(.slice h126.n 0 0 5 1)] [([32] : List UInt8), ([10] : List UInt8), ([35, 32, 97, 32, 45, 62, 32, 98, 10] : List UInt8), ([9, 32, 13, 10] : List UInt8), ([35, 10, 35, 10] : List UInt8)], own (oSl (fz rS)) [y122] y128] h200 := St.lit (r := rS) (els := [[(.str ([32] : List UInt8))], [(.str ([10] : List UInt8))], [(.str ([35, 32, 97, 32, 45, 62, 32, 98, 10] : List UInt8))], [(.str ([9, 32, 13, 10] : List UInt8))], [(.str ([35, 10, 35, 10] : List UInt8))]]) (l := [([32] : List UInt8), ([10] : List UInt8), ([35, 32, 97, 32, 45, 62, 32, 98, 10] : List UInt8), ([9, 32, 13, 10] : List UInt8), ([35, 10, 35, 10] : List UInt8)]) (n := 5) S rfl (.cons rfl (.cons rfl (.cons rfl (.cons rfl (.cons rfl (.nil)))))) rfl
              obtain ⟨qe204, q0e204, q1e204⟩ := SlR.ix (S.sl (r := (fz rS)) (.head _)) he204
              have pe204 := (SlR.idx (S.sl (r := (fz rS)) (.head _)) (Hp.le_refl _) he204).1
              refine ⟨q0e204, (by first | exact q1e204 | exact (idx_lt he204).2), ?_⟩
              obtain ⟨_, cr205, Rr205, Nr205, Or205, Zr205⟩ := St.idxO (r := rS) S (.head _) he204
              obtain rfl : cr205 = [(.str e204)] := Rr205
              refine ⟨e204, Zr205 _ rfl, ?_⟩
              have S : St h none' [own (oSl (fz rS)) [y122] y128] h200 := S.sel [1] rfl
              exact hjj0 _ _  hf  S
            · rw [if_neg (show ¬ (y125 < (x1.length : Int)) from of_decide_eq_false hc)] at hf
              exact hjj0 _ _  hf  S
          · rw [if_neg (show ¬ (y125 < (x0.length : Int)) from of_decide_eq_false hc)] at hf
            obtain rfl := Option.some.inj hf
            obtain rfl := hk
            exact ⟨y128, rfl, rfl, S, rfl⟩
        · exact ⟨[([112, 108, 97, 99, 101] : List UInt8), ([112, 46, 49] : List UInt8), ([49, 55] : List UInt8), ([59] : List UInt8), ([58] : List UInt8), ([44] : List UInt8), ([42] : List UInt8), ([33] : List UInt8), ([126] : List UInt8), ([64] : List UInt8), ([61] : List UInt8), ([45, 62] : List UInt8)], rfl, rfl, rfl, S, hL⟩
    refine bP_intro (fun hc => ?_) (fun hc => ?_)
    · rw [if_pos (show b104 = true from hc)] at hf
      exact hjj8 _ _  hf rfl S
    · rw [if_neg (show ¬ (b104 = true) from by rw [show b104 = false from hc]; exact Bool.false_ne_true)] at hf
      refine ifP_iff.2 ⟨(f1_0).is, ?_⟩
      try rw [(f1_0).slen]
      exact hjj8 _ _  hf rfl S
  refine bP_intro (fun hc => ?_) (fun hc => ?_)
  · rw [if_pos (show (!y103) = true from hc)] at hf
    exact hjj9 _ _  hf rfl S
  · rw [if_neg (show ¬ ((!y103) = true) from by rw [show (!y103) = false from hc]; exact Bool.false_ne_true)] at hf
    refine ifP_iff.2 ⟨(f0_0).is, ?_⟩
    try rw [(f0_0).slen]
    exact hjj9 _ _  hf rfl S
end Go.Proofs.Ytloaoofdbilpeaa
