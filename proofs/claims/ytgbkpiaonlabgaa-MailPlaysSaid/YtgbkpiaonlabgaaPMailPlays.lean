/- Pure functions, and that the machine's functions answer as they do. No condition. Own work. -/
import Derived.Test.YtgbkpiaonlabgaaSMailPlays
import Derived.Test.YtgbkpiaonlabgaaTMailPlays
/- Pure functions, and that the machine's functions answer as they do; printed by a program of mine (pm.py). Own work. -/
namespace Go.Proofs.Ytgbkpiaonlabgaa
open Go Go.Am
set_option linter.unusedVariables false
set_option linter.unusedSimpArgs false
/-! 51: marblerun/lane.Find$1 -/
noncomputable def p51_j0 (b103 : Bool) : Option Bool := some b103
noncomputable def p51 (x0 : TLane) (c1 : Int) (c2 : Int) : Option Bool := if x0.From = c1 then (p51_j0 (decide (x0.To = c2))) else (p51_j0 false)
theorem r51 {h : Heap} {o1 v1 : Nat} {o2 v2 : Nat} {x0 : TLane} {c1 : Int} {c2 : Int} (g1 : Snap h o1 [(.int .i64 c1)] v1) (g2 : Snap h o2 [(.int .i64 c2)] v2) {r : Bool} (hf : p51 x0 c1 c2 = some r) : ZCalls F 51 [(.agg [(.int .i64 x0.From), (.int .i64 x0.To), (.int .i64 x0.Ahead)]), (.ptr o1 v1 0), (.ptr o2 v2 0)] h fun v h' => v = .bool r ∧ St h none' [] h' := by
  refine w51 ?_
  unfold W51
  unfold p51 at hf
  have S : St h none' [] h := St.refl _ _
  intro h101
  have S : St h none' [rowC h.n [(.int .i64 x0.From), (.int .i64 x0.To), (.int .i64 x0.Ahead)] 0] h101 := S.pushRow [(.int .i64 x0.From), (.int .i64 x0.To), (.int .i64 x0.Ahead)]
  refine ⟨x0.From, S.rd1 (.head _) rfl, ?_⟩
  refine ⟨c1, snap_rd1 (snap_mono S.le _ _ _ g1) rfl, ?_⟩
  intro jjj0
  have hjj0 : ∀ (b103 : Bool) (h104 : Heap), p51_j0 b103 = some r → h101 = h104 → St h none' [] h101 → jjj0 b103 h104 := by
    rintro b103 h104 hf rfl S
    unfold p51_j0 at hf
    unfold jjj0
    obtain rfl := Option.some.inj hf
    exact ⟨rfl, S.sel [] rfl⟩
  refine bP_intro (fun hc => ?_) (fun hc => ?_)
  · rw [if_pos (show x0.From = c1 from of_decide_eq_true hc)] at hf
    refine ⟨x0.To, S.rd1 (.head _) rfl, ?_⟩
    refine ⟨c2, snap_rd1 (snap_mono S.le _ _ _ g2) rfl, ?_⟩
    have S : St h none' [] h101 := S.sel [] rfl
    exact hjj0 _ _  hf rfl S
  · rw [if_neg (show ¬ (x0.From = c1) from of_decide_eq_false hc)] at hf
    have S : St h none' [] h101 := S.sel [] rfl
    exact hjj0 _ _  hf rfl S
/-! 50: slices.IndexFunc[[]marblerun/lane.Lane,marblerun/lane.Lane] -/
noncomputable def p50_l0 (s0 : List TLane) (f1 : TLane → Option Bool) (y105 : Int) : Option (Int ⊕ (Int ⊕ Unit)) := if y105 < (s0.length : Int) then ((idx s0 y105).bind fun e129 => (f1 e129).bind fun r131 => if r131 = true then (some (.inr (.inl y105))) else (some (.inl (IntKind.wrap .i64 (y105 + (1 : Int)))))) else (some (.inr (.inr ())))
noncomputable def p50 (s0 : List TLane) (f1 : TLane → Option Bool) : Option Int := (loopC (p50_l0 s0 f1) (0 : Int)).bind fun res125 => (match res125 with | .inl y115 => some y115 | .inr _ => some ((-1) : Int))
theorem r50 {h : Heap} {a0_0 : AV} {a1_0 : AV} {s0 : List TLane} {f1 : TLane → Option Bool} (f0_0 : SlR rLane (Snap h) a0_0 s0) (f1_0 : ∀ (h' : Heap) (y0 : TLane) r, HLe h h' → f1 y0 = some r → callW F a1_0 [.agg [.int .i64 y0.From, .int .i64 y0.To, .int .i64 y0.Ahead]] h' fun v h2 => v = .bool r ∧ St h' none' [] h2) {r : Int} (hf : p50 s0 f1 = some r) : ZCalls F 50 [a0_0, a1_0] h fun v h' => v = .int .i64 r ∧ St h none' [] h' := by
  refine w50 ?_
  unfold W50
  unfold p50 at hf
  have S : St h none' [] h := St.refl _ _
  refine ifP_iff.2 ⟨(f0_0).is, ?_⟩
  try rw [(f0_0).slen]
  obtain ⟨res125, hL, hf⟩ := obind hf
  obtain ⟨n126, hL⟩ := loopC_iff.1 hL
  refine loopm50_0 (R := fun (s113 : AV) (f114 : AV) (y115 : Int) (y116 : Int) (y117 : Int) (h118 : Heap) => St h none' [] h118 ∧ (.inl y115) = res125) (X0 := fun (s119 : AV) (f120 : AV) (y121 : Int) (y122 : Int) (y123 : Int) (h124 : Heap) => St h none' [] h124 ∧ (.inr ()) = res125) ?_ ?_ (loop50_0 (I := fun (m128 : Nat) (s101 : AV) (f102 : AV) (y103 : Int) (y104 : Int) (y105 : Int) (h106 : Heap) => a0_0 = s101 ∧ a1_0 = f102 ∧ (s0.length : Int) = y104 ∧ St h none' [] h106 ∧ iter (p50_l0 s0 f1) m128 y105 = some res125) ?_ (m := n126) ?_)
  · rintro s113 f114 y115 y116 y117 h118 ⟨S, rfl⟩
    try dsimp only at hf
    obtain rfl := Option.some.inj hf
    exact ⟨rfl, S.sel [] rfl⟩
  · rintro s119 f120 y121 y122 y123 h124 ⟨S, rfl⟩
    try dsimp only at hf
    obtain rfl := Option.some.inj hf
    exact ⟨rfl, S.sel [] rfl⟩
  · rintro m1280 s101 f102 y103 y104 y105 h106 ⟨rfl, rfl, rfl, S, hit⟩
    obtain ⟨m128, q127, rfl, hf, hk⟩ := iter_some hit
    clear hit
    unfold B50_0
    unfold p50_l0 at hf
    try dsimp only at hf
    refine bP_intro (fun hc => ?_) (fun hc => ?_)
    · rw [if_pos (show y105 < (s0.length : Int) from of_decide_eq_true hc)] at hf
      obtain ⟨e129, he129, hf⟩ := obind hf
      obtain ⟨qe129, q0e129, q1e129⟩ := SlR.ix f0_0 he129
      have pe129 := (SlR.idx f0_0 (snap_mono S.le) he129).1
      refine ifP_iff.2 ⟨qe129, q0e129, (by first | exact q1e129 | exact (idx_lt he129).2), ?_⟩
      obtain ⟨_, cr130, Rr130, Nr130, Or130, Zr130⟩ := SlR.idx f0_0 (snap_mono S.le) he129
      obtain rfl := rLane_open Rr130
      refine ⟨(.int .i64 e129.From), (.int .i64 e129.To), (.int .i64 e129.Ahead), Nr130, ?_⟩
      obtain ⟨r131, hr131, hf⟩ := obind hf
      refine ⟨_, Fz.refl _, ?_⟩
      refine callW_mono (f1_0 _ e129 _ S.le hr131) fun v132 h133 T => ?_
      obtain ⟨rfl, T⟩ := T
      have S : St h none' [] h133 := S.comp T
      refine ⟨r131, rfl, ?_⟩
      refine bP_intro (fun hc => ?_) (fun hc => ?_)
      · rw [if_pos (show r131 = true from hc)] at hf
        obtain rfl := Option.some.inj hf
        obtain rfl := hk
        exact ⟨S, rfl⟩
      · rw [if_neg (show ¬ (r131 = true) from by rw [show r131 = false from hc]; exact Bool.false_ne_true)] at hf
        obtain rfl := Option.some.inj hf
        exact ⟨m128, Nat.lt_succ_self _, rfl, rfl, rfl, S, hk⟩
    · rw [if_neg (show ¬ (y105 < (s0.length : Int)) from of_decide_eq_false hc)] at hf
      obtain rfl := Option.some.inj hf
      obtain rfl := hk
      exact ⟨S, rfl⟩
  · exact ⟨rfl, rfl, rfl, S, hL⟩
/-! 37: marblerun/lane.Find -/
noncomputable def p37 (l0 : List TLane) (from1 : Int) (to2 : Int) : Option Int := (p50 l0 (fun (y0 : TLane) => p51 y0 from1 to2)).bind fun y107 => some y107
theorem r37 {h : Heap} {a0_0 : AV} {l0 : List TLane} {from1 : Int} {to2 : Int} (f0_0 : SlR rLane (Snap h) a0_0 l0) {r : Int} (hf : p37 l0 from1 to2 = some r) : ZCalls F 37 [a0_0, (.int .i64 from1), (.int .i64 to2)] h fun v h' => v = .int .i64 r ∧ St h none' [] h' := by
  refine w37 ?_
  unfold W37
  unfold p37 at hf
  have S : St h none' [] h := St.refl _ _
  intro h101
  have S : St h none' [rowC h.n [(.int .i64 from1)] 0] h101 := S.pushRow [(.int .i64 from1)]
  intro h103
  have S : St h none' [rowC h101.n [(.int .i64 to2)] 0, rowC h.n [(.int .i64 from1)] 0] h103 := S.pushRow [(.int .i64 to2)]
  obtain ⟨y107, hy107, hf⟩ := obind hf
  refine ⟨_, Fz.refl _, ?_⟩
  refine (r50 (s0 := l0) (f1 := (fun (y0 : TLane) => p51 y0 from1 to2)) (f0_0 := (SlR.mono (snap_mono S.le) f0_0)) (f1_0 := fun h1 y0 r hl hr => by show ZCalls F 51 _ h1 _; exact r51 (g1 := snap_mono hl _ _ _ (S.row (.tail _ (.head _)))) (g2 := snap_mono hl _ _ _ (S.row (.head _))) hr) hy107).mono fun v105 h106 T => ?_
  obtain ⟨rfl, T⟩ := T
  have S : St h none' [rowC h101.n [(.int .i64 to2)] 0, rowC h.n [(.int .i64 from1)] 0] h106 := S.comp T
  refine ⟨y107, rfl, ?_⟩
  obtain rfl := Option.some.inj hf
  exact ⟨rfl, S.sel [] rfl⟩
/-! 26: marblerun/mail.New -/
noncomputable def p26 (lanes0 : List TLane) : Option (Option TBox) := (app 24 [] lanes0).bind fun y101 => (mkS 24 (lanes0.length : Int) (lanes0.length : Int) []).bind fun y105 => some (some (TBox.mk y101 y105 (0 : Int)))
theorem r26 {h : Heap} {a0_0 : AV} {lanes0 : List TLane} (f0_0 : SlR rLane (Snap h) a0_0 lanes0) {r : (Option TBox)} (hf : p26 lanes0 = some r) : ZCalls F 26 [a0_0] h fun v h' => St h none' [own (oPtr oBox) [v] r] h' := by
  refine w26 ?_
  unfold W26
  unfold p26 at hf
  have S : St h none' [] h := St.refl _ _
  obtain ⟨y101, hy101, hf⟩ := obind hf
  have my101 := app_nil hy101
  obtain ⟨o103, gy101, S⟩ := St.clone (r := rLane) (b := 24) S (snap_mono S.le) f0_0 (.inl flat_Lane) my101.1
  refine oP_intro _ gy101 ?_
  intro h102
  have S : St h none' [own (oSl (fz rLane)) [(NOp.mk (.appendNil 3 24) [a0_0] h.n)] y101] h102 := S.cast (by rw [my101.2] <;> rfl)
  refine ifP_iff.2 ⟨(f0_0).is, ?_⟩
  try rw [(f0_0).slen]
  obtain ⟨y105, hy105, hf⟩ := obind hf
  obtain ⟨my105, ey105⟩ := mkS_some hy105
  refine ⟨my105, ?_⟩
  intro h106
  have S : St h none' [own (oSl (oSl (fz rEvent))) [(.slice h102.n 0 0 ((lanes0.length : Int) : Int).toNat 1)] y105, own (oSl (fz rLane)) [(NOp.mk (.appendNil 3 24) [a0_0] h.n)] y101] h106 := (S.make (r := (oSl (fz rEvent))) (zero := [.nilSlice]) (x := []) (fun _ => ⟨_, rfl, .inl ⟨rfl, rfl, rfl⟩⟩) _).cast (by rw [ey105]; rfl)
  refine oP_intro (.agg [(NOp.mk (.appendNil 3 24) [a0_0] h.n), (.slice h102.n 0 0 ((lanes0.length : Int) : Int).toNat 1), (.int .i64 (0 : Int))]) (by simp only [POp.ev, place, sl_cells ((S.sl (r := (fz rLane)) (.tail _ (.head _)))).is, sl_tup ((S.sl (r := (fz rLane)) (.tail _ (.head _)))).is, sl_cells ((S.sl (r := (oSl (fz rEvent))) (.head _))).is, sl_tup ((S.sl (r := (oSl (fz rEvent))) (.head _))).is] <;> first | rfl | (simp [AV.cells, AV.isTup, splice]; done) | (simp [AV.cells, AV.isTup, splice]; rfl)) ?_
  refine ifP_iff.2 ⟨rfl, ?_⟩
  intro h108
  have S : St h none' [rowC h106.n [(NOp.mk (.appendNil 3 24) [a0_0] h.n), (.slice h102.n 0 0 ((lanes0.length : Int) : Int).toNat 1), (.int .i64 (0 : Int))] 0, own (oSl (oSl (fz rEvent))) [(.slice h102.n 0 0 ((lanes0.length : Int) : Int).toNat 1)] y105, own (oSl (fz rLane)) [(NOp.mk (.appendNil 3 24) [a0_0] h.n)] y101] h108 := S.pushRow [(NOp.mk (.appendNil 3 24) [a0_0] h.n), (.slice h102.n 0 0 ((lanes0.length : Int) : Int).toNat 1), (.int .i64 (0 : Int))]
  have S : St h none' [own (oSl (fz rLane)) [(NOp.mk (.appendNil 3 24) [a0_0] h.n)] y101, own (oSl (oSl (fz rEvent))) [(.slice h102.n 0 0 ((lanes0.length : Int) : Int).toNat 1)] y105, rowC h106.n [(NOp.mk (.appendNil 3 24) [a0_0] h.n), (.slice h102.n 0 0 ((lanes0.length : Int) : Int).toNat 1), (.int .i64 (0 : Int))] 0] h108 := S.sel [2, 1, 0] rfl
  have S : St h none' [own oBox [(NOp.mk (.appendNil 3 24) [a0_0] h.n), (.slice h102.n 0 0 ((lanes0.length : Int) : Int).toNat 1), (.int .i64 (0 : Int))] (TBox.mk y101 y105 (0 : Int)), rowC h106.n [(NOp.mk (.appendNil 3 24) [a0_0] h.n), (.slice h102.n 0 0 ((lanes0.length : Int) : Int).toNat 1), (.int .i64 (0 : Int))] 0] h108 := oBox_close (x := (TBox.mk y101 y105 (0 : Int))) S
  have S : St h none' [rowC h106.n [(NOp.mk (.appendNil 3 24) [a0_0] h.n), (.slice h102.n 0 0 ((lanes0.length : Int) : Int).toNat 1), (.int .i64 (0 : Int))] 0, own oBox [(NOp.mk (.appendNil 3 24) [a0_0] h.n), (.slice h102.n 0 0 ((lanes0.length : Int) : Int).toNat 1), (.int .i64 (0 : Int))] (TBox.mk y101 y105 (0 : Int))] h108 := S.sel [1, 0] rfl
  have S : St h none' [own (oPtr oBox) [(.ptr h106.n 0 0)] (some (TBox.mk y101 y105 (0 : Int)))] h108 := S.ptrClose
  obtain rfl := Option.some.inj hf
  exact S.sel [0] rfl
/-! 29: (*marblerun/mail.Box).Len -/
noncomputable def p29_j0 (b0 : Option TBox) (from1 : Int) (to2 : Int) (b107 : Bool) : Option Int := if b107 = true then (some (0 : Int)) else (b0.bind fun b112 => (p37 b112.lanes from1 to2).bind fun y117 => (idx b112.l y117).bind fun e118 => some (e118.length : Int))
noncomputable def p29 (b0 : Option TBox) (from1 : Int) (to2 : Int) : Option Int := if b0.isNone = true then (p29_j0 b0 from1 to2 true) else (b0.bind fun b121 => (p37 b121.lanes from1 to2).bind fun y126 => p29_j0 b0 from1 to2 (decide (y126 < (0 : Int))))
theorem r29 {h : Heap} {a0_0 : AV} {b0 : Option TBox} {from1 : Int} {to2 : Int} (f0_0 : PtR rBox (Snap h) a0_0 b0) {r : Int} (hf : p29 b0 from1 to2 = some r) : ZCalls F 29 [a0_0, (.int .i64 from1), (.int .i64 to2)] h fun v h' => v = .int .i64 r ∧ St h none' [] h' := by
  refine w29 ?_
  unfold W29
  unfold p29 at hf
  have S : St h none' [] h := St.refl _ _
  refine oP_intro (.bool b0.isNone) (ptr_eq f0_0) ⟨_, rfl, ?_⟩
  intro jjj0
  have hjj0 : ∀ (b107 : Bool) (h108 : Heap), p29_j0 b0 from1 to2 b107 = some r → St h none' [] h108 → jjj0 b107 h108 := by
    rintro b107 h108 hf S
    unfold p29_j0 at hf
    unfold jjj0
    refine bP_intro (fun hc => ?_) (fun hc => ?_)
    · rw [if_pos (show b107 = true from hc)] at hf
      obtain rfl := Option.some.inj hf
      exact ⟨rfl, S.sel [] rfl⟩
    · rw [if_neg (show ¬ (b107 = true) from by rw [show b107 = false from hc]; exact Bool.false_ne_true)] at hf
      obtain ⟨b112, hb112, hf⟩ := obind hf
      obtain ⟨o113, v114, rwb112, eP, gb112, Rb112⟩ := PtR.open (hb112 ▸ f0_0)
      subst eP
      obtain ⟨b112c_0, b112c_1, rfl, Fb112_0, Fb112_1⟩ := rBox_open Rb112
      refine oP_intro _ rfl ?_
      refine ifP_iff.2 ⟨rfl, ?_⟩
      have S_3 := S
      refine ⟨b112c_1, snap_rd1 (snap_mono S.le _ _ _ gb112) rfl, ?_⟩
      refine oP_intro (.ptr o113 v114 0) rfl ?_
      refine ifP_iff.2 ⟨rfl, ?_⟩
      refine ⟨b112c_0, snap_rd1 (snap_mono S.le _ _ _ gb112) rfl, ?_⟩
      have S_10 := S
      obtain ⟨y117, hy117, hf⟩ := obind hf
      refine (r37 (l0 := b112.lanes) (from1 := from1) (to2 := to2) (f0_0 := (SlR.mono (snap_mono S.le) Fb112_0)) hy117).mono fun v115 h116 T => ?_
      obtain ⟨rfl, T⟩ := T
      have S : St h none' [] h116 := S.comp T
      refine ⟨y117, rfl, ?_⟩
      have S_11 := S
      obtain ⟨e118, he118, hf⟩ := obind hf
      obtain ⟨qe118, q0e118, q1e118⟩ := SlR.ix Fb112_1 he118
      have pe118 := (SlR.idx Fb112_1 (snap_mono S.le) he118).1
      refine ifP_iff.2 ⟨qe118, q0e118, (by first | exact q1e118 | exact (idx_lt he118).2), ?_⟩
      obtain ⟨_, cr119, Rr119, Nr119, Or119, Zr119⟩ := SlR.idx Fb112_1 (snap_mono S.le) he118
      obtain ⟨cr119, rfl, Fr119⟩ := Rr119
      refine ⟨cr119, Zr119 _ rfl, ?_⟩
      refine ifP_iff.2 ⟨(Fr119).is, ?_⟩
      try rw [(Fr119).slen]
      refine ⟨⟨b112c_1, snap_rd1 (snap_mono S_3.le _ _ _ gb112) rfl, snap_rd1 (snap_mono S_10.le _ _ _ gb112) rfl, snap_rd1 (snap_mono S_11.le _ _ _ gb112) rfl⟩, ?_⟩
      obtain rfl := Option.some.inj hf
      exact ⟨rfl, S.sel [] rfl⟩
  refine bP_intro (fun hc => ?_) (fun hc => ?_)
  · rw [if_pos (show b0.isNone = true from hc)] at hf
    exact hjj0 _ _  hf  S
  · rw [if_neg (show ¬ (b0.isNone = true) from by rw [show b0.isNone = false from hc]; exact Bool.false_ne_true)] at hf
    obtain ⟨b121, hb121, hf⟩ := obind hf
    obtain ⟨o122, v123, rwb121, eP, gb121, Rb121⟩ := PtR.open (hb121 ▸ f0_0)
    subst eP
    obtain ⟨b121c_0, b121c_1, rfl, Fb121_0, Fb121_1⟩ := rBox_open Rb121
    refine oP_intro _ rfl ?_
    refine ifP_iff.2 ⟨rfl, ?_⟩
    refine ⟨b121c_0, snap_rd1 (snap_mono S.le _ _ _ gb121) rfl, ?_⟩
    obtain ⟨y126, hy126, hf⟩ := obind hf
    refine ⟨_, Fz.refl _, ?_⟩
    refine (r37 (l0 := b121.lanes) (from1 := from1) (to2 := to2) (f0_0 := (SlR.mono (snap_mono S.le) Fb121_0)) hy126).mono fun v124 h125 T => ?_
    obtain ⟨rfl, T⟩ := T
    have S : St h none' [] h125 := S.comp T
    refine ⟨y126, rfl, ?_⟩
    exact hjj0 _ _  hf  S
/-! 30: (*marblerun/mail.Box).All -/
noncomputable def p30_l0 (b101 : TBox) (st : Int × Int) : Option ((Int × Int) ⊕ Int) := match st with | (n104, y107) => if y107 < (b101.l.length : Int) then ((idx b101.l y107).bind fun e121 => some (.inl ((IntKind.wrap .i64 (n104 + (e121.length : Int))), (IntKind.wrap .i64 (y107 + (1 : Int)))))) else (some (.inr n104))
noncomputable def p30 (b0 : Option TBox) : Option Int := if b0.isNone = true then (some (0 : Int)) else (b0.bind fun b101 => (loopC (p30_l0 b101) ((0 : Int), (0 : Int))).bind fun res117 => ((fun (n112 : Int) => some n112) res117))
theorem r30 {h : Heap} {a0_0 : AV} {b0 : Option TBox} (f0_0 : PtR rBox (Snap h) a0_0 b0) {r : Int} (hf : p30 b0 = some r) : ZCalls F 30 [a0_0] h fun v h' => v = .int .i64 r ∧ St h none' [] h' := by
  refine w30 ?_
  unfold W30
  unfold p30 at hf
  have S : St h none' [] h := St.refl _ _
  refine oP_intro (.bool b0.isNone) (ptr_eq f0_0) ⟨_, rfl, ?_⟩
  refine bP_intro (fun hc => ?_) (fun hc => ?_)
  · rw [if_pos (show b0.isNone = true from hc)] at hf
    obtain rfl := Option.some.inj hf
    exact ⟨rfl, S.sel [] rfl⟩
  · rw [if_neg (show ¬ (b0.isNone = true) from by rw [show b0.isNone = false from hc]; exact Bool.false_ne_true)] at hf
    obtain ⟨b101, hb101, hf⟩ := obind hf
    obtain ⟨o102, v103, rwb101, eP, gb101, Rb101⟩ := PtR.open (hb101 ▸ f0_0)
    subst eP
    obtain ⟨b101c_0, b101c_1, rfl, Fb101_0, Fb101_1⟩ := rBox_open Rb101
    refine oP_intro _ rfl ?_
    refine ifP_iff.2 ⟨rfl, ?_⟩
    refine ⟨b101c_1, snap_rd1 (snap_mono S.le _ _ _ gb101) rfl, ?_⟩
    refine ifP_iff.2 ⟨(Fb101_1).is, ?_⟩
    try rw [(Fb101_1).slen]
    obtain ⟨res117, hL, hf⟩ := obind hf
    obtain ⟨n118, hL⟩ := loopC_iff.1 hL
    refine loopm30_0 (X0 := fun (n112 : Int) (y113 : AV) (y114 : Int) (y115 : Int) (h116 : Heap) => St h none' [] h116 ∧ n112 = res117) ?_ (loop30_0 (I := fun (m120 : Nat) (n104 : Int) (y105 : AV) (y106 : Int) (y107 : Int) (h108 : Heap) => b101c_1 = y105 ∧ (b101.l.length : Int) = y106 ∧ St h none' [] h108 ∧ iter (p30_l0 b101) m120 (n104, y107) = some res117) ?_ (m := n118) ?_)
    · rintro n112 y113 y114 y115 h116 ⟨S, rfl⟩
      try dsimp only at hf
      obtain rfl := Option.some.inj hf
      exact ⟨rfl, S.sel [] rfl⟩
    · rintro m1200 n104 y105 y106 y107 h108 ⟨rfl, rfl, S, hit⟩
      obtain ⟨m120, q119, rfl, hf, hk⟩ := iter_some hit
      clear hit
      unfold B30_0
      unfold p30_l0 at hf
      try dsimp only at hf
      refine bP_intro (fun hc => ?_) (fun hc => ?_)
      · rw [if_pos (show y107 < (b101.l.length : Int) from of_decide_eq_true hc)] at hf
        obtain ⟨e121, he121, hf⟩ := obind hf
        obtain ⟨qe121, q0e121, q1e121⟩ := SlR.ix Fb101_1 he121
        have pe121 := (SlR.idx Fb101_1 (snap_mono S.le) he121).1
        refine ifP_iff.2 ⟨qe121, q0e121, (by first | exact q1e121 | exact (idx_lt he121).2), ?_⟩
        obtain ⟨_, cr122, Rr122, Nr122, Or122, Zr122⟩ := SlR.idx Fb101_1 (snap_mono S.le) he121
        obtain ⟨cr122, rfl, Fr122⟩ := Rr122
        refine ⟨cr122, Zr122 _ rfl, ?_⟩
        refine ifP_iff.2 ⟨(Fr122).is, ?_⟩
        try rw [(Fr122).slen]
        obtain rfl := Option.some.inj hf
        exact ⟨m120, Nat.lt_succ_self _, rfl, rfl, S, hk⟩
      · rw [if_neg (show ¬ (y107 < (b101.l.length : Int)) from of_decide_eq_false hc)] at hf
        obtain rfl := Option.some.inj hf
        obtain rfl := hk
        exact ⟨S, rfl⟩
    · exact ⟨rfl, rfl, S, hL⟩
/-! 31: (*marblerun/mail.Box).Sent -/
noncomputable def p31 (b0 : Option TBox) : Option Int := if b0.isNone = true then (some (0 : Int)) else (b0.bind fun b101 => some b101.sent)
theorem r31 {h : Heap} {a0_0 : AV} {b0 : Option TBox} (f0_0 : PtR rBox (Snap h) a0_0 b0) {r : Int} (hf : p31 b0 = some r) : ZCalls F 31 [a0_0] h fun v h' => v = .int .i64 r ∧ St h none' [] h' := by
  refine w31 ?_
  unfold W31
  unfold p31 at hf
  have S : St h none' [] h := St.refl _ _
  refine oP_intro (.bool b0.isNone) (ptr_eq f0_0) ⟨_, rfl, ?_⟩
  refine bP_intro (fun hc => ?_) (fun hc => ?_)
  · rw [if_pos (show b0.isNone = true from hc)] at hf
    obtain rfl := Option.some.inj hf
    exact ⟨rfl, S.sel [] rfl⟩
  · rw [if_neg (show ¬ (b0.isNone = true) from by rw [show b0.isNone = false from hc]; exact Bool.false_ne_true)] at hf
    obtain ⟨b101, hb101, hf⟩ := obind hf
    obtain ⟨o102, v103, rwb101, eP, gb101, Rb101⟩ := PtR.open (hb101 ▸ f0_0)
    subst eP
    obtain ⟨b101c_0, b101c_1, rfl, Fb101_0, Fb101_1⟩ := rBox_open Rb101
    refine oP_intro _ rfl ?_
    refine ifP_iff.2 ⟨rfl, ?_⟩
    refine ⟨b101.sent, snap_rd1 (snap_mono S.le _ _ _ gb101) rfl, ?_⟩
    obtain rfl := Option.some.inj hf
    exact ⟨rfl, S.sel [] rfl⟩
/-! 27: (*marblerun/mail.Box).Send -/
noncomputable def p27_j0 (m1 : TMail) (b113 : Bool) (l117 : Option TBox) : Option (Bool × (Option TBox)) := if b113 = true then (some (false, l117)) else (l117.bind fun b118 => (p37 b118.lanes m1.From m1.To).bind fun y126 => (idx b118.l y126).bind fun e127 => (app 24 e127 [(TEvent.mk m1.E.Time m1.E.Place m1.E.N)]).bind fun e136 => some (true, (some (TBox.mk b118.lanes (b118.l.set (y126 : Int).toNat e136) (IntKind.wrap .i64 (b118.sent + (1 : Int)))))))
noncomputable def p27 (b0 : Option TBox) (m1 : TMail) : Option (Bool × (Option TBox)) := if b0.isNone = true then (p27_j0 m1 true b0) else (b0.bind fun b146 => (p37 b146.lanes m1.From m1.To).bind fun y154 => p27_j0 m1 (decide (y154 < (0 : Int))) (some b146))
theorem r27 {h : Heap} {a0_0 : AV} {M : Nat → Prop} {b0 : Option TBox} {m1 : TMail} (S : St h M [own (oPtr oBox) [a0_0] b0] h) {r : Bool × (Option TBox)} (hf : p27 b0 m1 = some r) : ZCalls F 27 [a0_0, (.agg [(.int .i64 m1.From), (.int .i64 m1.To), (.int .i64 m1.E.Time), (.int .i64 m1.E.Place), (.int .i64 m1.E.N)])] h fun v h' => v = .bool r.1 ∧ St h M [own (oPtr oBox) [a0_0] r.2] h' := by
  refine w27 ?_
  unfold W27
  unfold p27 at hf
  intro h102
  have S : St h M [rowC h.n [(.int .i64 m1.From), (.int .i64 m1.To), (.int .i64 m1.E.Time), (.int .i64 m1.E.Place), (.int .i64 m1.E.N)] 0, own (oPtr oBox) [a0_0] b0] h102 := S.pushRow [(.int .i64 m1.From), (.int .i64 m1.To), (.int .i64 m1.E.Time), (.int .i64 m1.E.Place), (.int .i64 m1.E.N)]
  refine oP_intro (.bool b0.isNone) (ptr_eq (S.pt (r := oBox) (.tail _ (.head _)))) ⟨_, rfl, ?_⟩
  intro jjj0
  have hjj0 : ∀ (b113 : Bool) (h114 : Heap) (l117 : Option TBox), p27_j0 m1 b113 l117 = some r → St h M [own (oPtr oBox) [a0_0] l117, rowC h.n [(.int .i64 m1.From), (.int .i64 m1.To), (.int .i64 m1.E.Time), (.int .i64 m1.E.Place), (.int .i64 m1.E.N)] 0] h114 → jjj0 b113 h114 := by
    rintro b113 h114 l117 hf S
    unfold p27_j0 at hf
    unfold jjj0
    refine bP_intro (fun hc => ?_) (fun hc => ?_)
    · rw [if_pos (show b113 = true from hc)] at hf
      obtain rfl := Option.some.inj hf
      exact ⟨rfl, S.sel [0] rfl⟩
    · rw [if_neg (show ¬ (b113 = true) from by rw [show b113 = false from hc]; exact Bool.false_ne_true)] at hf
      obtain ⟨b118, hb118, hf⟩ := obind hf
      have S : St h M [own (oPtr oBox) [a0_0] (some b118), rowC h.n [(.int .i64 m1.From), (.int .i64 m1.To), (.int .i64 m1.E.Time), (.int .i64 m1.E.Place), (.int .i64 m1.E.N)] 0] h114 := S.cast (by rw [hb118])
      obtain ⟨o119, v120, rwb118, eP, S2⟩ := St.ptrOpen S
      subst eP
      have S := S2
      have S := S.swap
      obtain ⟨b118c_0, b118c_1, eS, S2⟩ := oBox_open S
      subst eS
      have S := S2
      have S : St h M [own (oSl (fz rLane)) [b118c_0] b118.lanes, own (oSl (oSl (fz rEvent))) [b118c_1] b118.l, rowC o119 [b118c_0, b118c_1, (.int .i64 b118.sent)] v120, rowC h.n [(.int .i64 m1.From), (.int .i64 m1.To), (.int .i64 m1.E.Time), (.int .i64 m1.E.Place), (.int .i64 m1.E.N)] 0] h114 := S
      refine oP_intro _ rfl ?_
      refine ifP_iff.2 ⟨rfl, ?_⟩
      refine ⟨b118c_0, S.rd1 (.tail _ (.tail _ (.head _))) rfl, ?_⟩
      refine ifP_iff.2 ⟨rfl, ?_⟩
      refine ⟨m1.From, S.rd1 (.tail _ (.tail _ (.tail _ (.head _)))) rfl, ?_⟩
      refine ifP_iff.2 ⟨rfl, ?_⟩
      refine ⟨m1.To, S.rd1 (.tail _ (.tail _ (.tail _ (.head _)))) rfl, ?_⟩
      obtain ⟨y126, hy126, hf⟩ := obind hf
      refine ⟨_, Fz.refl _, ?_⟩
      refine (r37 (l0 := b118.lanes) (from1 := m1.From) (to2 := m1.To) (f0_0 := (S.sl (r := (fz rLane)) (.head _))) hy126).mono fun v124 h125 T => ?_
      obtain ⟨rfl, T⟩ := T
      have S : St h M [own (oSl (fz rLane)) [b118c_0] b118.lanes, own (oSl (oSl (fz rEvent))) [b118c_1] b118.l, rowC o119 [b118c_0, b118c_1, (.int .i64 b118.sent)] v120, rowC h.n [(.int .i64 m1.From), (.int .i64 m1.To), (.int .i64 m1.E.Time), (.int .i64 m1.E.Place), (.int .i64 m1.E.N)] 0] h125 := S.comp T
      refine ⟨y126, rfl, ?_⟩
      refine oP_intro (.ptr o119 v120 0) rfl ?_
      refine ifP_iff.2 ⟨rfl, ?_⟩
      have S_3 := S
      refine ⟨b118c_1, S.rd1 (.tail _ (.tail _ (.head _))) rfl, ?_⟩
      refine oP_intro (.ptr o119 v120 0) rfl ?_
      refine ifP_iff.2 ⟨rfl, ?_⟩
      refine ⟨b118c_1, S.rd1 (.tail _ (.tail _ (.head _))) rfl, ?_⟩
      obtain ⟨e127, he127, hf⟩ := obind hf
      obtain ⟨qe127, q0e127, q1e127⟩ := SlR.ix (S.sl (r := (oSl (fz rEvent))) (.tail _ (.head _))) he127
      have pe127 := (SlR.idx (S.sl (r := (oSl (fz rEvent))) (.tail _ (.head _))) (Hp.le_refl _) he127).1
      refine ifP_iff.2 ⟨qe127, q0e127, (by first | exact q1e127 | exact (idx_lt he127).2), ?_⟩
      have S : St h M [own (oSl (oSl (fz rEvent))) [b118c_1] b118.l, own (oSl (fz rLane)) [b118c_0] b118.lanes, rowC o119 [b118c_0, b118c_1, (.int .i64 b118.sent)] v120, rowC h.n [(.int .i64 m1.From), (.int .i64 m1.To), (.int .i64 m1.E.Time), (.int .i64 m1.E.Place), (.int .i64 m1.E.N)] 0] h125 := S.sel [1, 0, 2, 3] rfl
      obtain ⟨cc129, lc129, S⟩ := St.out S he127
      obtain ⟨c129, rfl⟩ : ∃ a, cc129 = [a] := len1' lc129
      have S : St h M [own (oSl (fz rEvent)) [c129] e127, hole (oSl (fz rEvent)) b118c_1 b118.l (y126 : Int).toNat [c129], own (oSl (fz rLane)) [b118c_0] b118.lanes, rowC o119 [b118c_0, b118c_1, (.int .i64 b118.sent)] v120, rowC h.n [(.int .i64 m1.From), (.int .i64 m1.To), (.int .i64 m1.E.Time), (.int .i64 m1.E.Place), (.int .i64 m1.E.N)] 0] h125 := S
      refine ⟨c129, (S.hrd (.tail _ (.head _))).2.2.2.2.2 _ rfl, ?_⟩
      refine ifP_iff.2 ⟨rfl, ?_⟩
      refine ⟨(.int .i64 m1.E.Time), (.int .i64 m1.E.Place), (.int .i64 m1.E.N), S.rdN (.tail _ (.tail _ (.tail _ (.tail _ (.head _))))) (Nat.le_of_ble_eq_true rfl) rfl, ?_⟩
      intro h132
      have S : St h M [rowC h125.n [(.int .i64 m1.E.Time), (.int .i64 m1.E.Place), (.int .i64 m1.E.N)] 0, own (oSl (fz rEvent)) [c129] e127, hole (oSl (fz rEvent)) b118c_1 b118.l (y126 : Int).toNat [c129], own (oSl (fz rLane)) [b118c_0] b118.lanes, rowC o119 [b118c_0, b118c_1, (.int .i64 b118.sent)] v120, rowC h.n [(.int .i64 m1.From), (.int .i64 m1.To), (.int .i64 m1.E.Time), (.int .i64 m1.E.Place), (.int .i64 m1.E.N)] 0] h132 := S.pushRow [(.int .i64 m1.E.Time), (.int .i64 m1.E.Place), (.int .i64 m1.E.N)]
      have S_15 := S
      obtain ⟨e136, he136, hf⟩ := obind hf
      have S : St h M [own (fz rEvent) [(.int .i64 m1.E.Time), (.int .i64 m1.E.Place), (.int .i64 m1.E.N)] (TEvent.mk m1.E.Time m1.E.Place m1.E.N), rowC h125.n [(.int .i64 m1.E.Time), (.int .i64 m1.E.Place), (.int .i64 m1.E.N)] 0, own (oSl (fz rEvent)) [c129] e127, hole (oSl (fz rEvent)) b118c_1 b118.l (y126 : Int).toNat [c129], own (oSl (fz rLane)) [b118c_0] b118.lanes, rowC o119 [b118c_0, b118c_1, (.int .i64 b118.sent)] v120, rowC h.n [(.int .i64 m1.From), (.int .i64 m1.To), (.int .i64 m1.E.Time), (.int .i64 m1.E.Place), (.int .i64 m1.E.N)] 0] h132 := S.add (r := rEvent) (x := (TEvent.mk m1.E.Time m1.E.Place m1.E.N)) (rEvent_mk (x := (TEvent.mk m1.E.Time m1.E.Place m1.E.N)))
      have S : St h M [own (oSl (fz rEvent)) [c129] e127, own (fz rEvent) [(.int .i64 m1.E.Time), (.int .i64 m1.E.Place), (.int .i64 m1.E.N)] (TEvent.mk m1.E.Time m1.E.Place m1.E.N), rowC h125.n [(.int .i64 m1.E.Time), (.int .i64 m1.E.Place), (.int .i64 m1.E.N)] 0, hole (oSl (fz rEvent)) b118c_1 b118.l (y126 : Int).toNat [c129], own (oSl (fz rLane)) [b118c_0] b118.lanes, rowC o119 [b118c_0, b118c_1, (.int .i64 b118.sent)] v120, rowC h.n [(.int .i64 m1.From), (.int .i64 m1.To), (.int .i64 m1.E.Time), (.int .i64 m1.E.Place), (.int .i64 m1.E.N)] 0] h132 := S.sel [2, 0, 1, 3, 4, 5, 6] rfl
      have me136 := app_some he136
      obtain ⟨v135, h134, e137, S⟩ := St.app1R (r := (fz rEvent)) (b := 24) S me136.1
      have S : St h M [own (oSl (fz rEvent)) [v135] e136, hole (oSl (fz rEvent)) b118c_1 b118.l (y126 : Int).toNat [c129], own (oSl (fz rLane)) [b118c_0] b118.lanes, rowC o119 [b118c_0, b118c_1, (.int .i64 b118.sent)] v120, rowC h.n [(.int .i64 m1.From), (.int .i64 m1.To), (.int .i64 m1.E.Time), (.int .i64 m1.E.Place), (.int .i64 m1.E.N)] 0] h134 := S.cast (by rw [← me136.2] <;> rfl)
      refine ⟨v135, h134, e137, ?_⟩
      have S_16 := S
      have p139 := (S.hrd (.tail _ (.head _))).2.2.1
      refine ifP_iff.2 ⟨(S.hrd (.tail _ (.head _))).1, (idx_lt he127).1, (by first | exact (idx_lt he127).2 | (have hq := (S.hrd (.tail _ (.head _))).2.1; have hq0 := (idx_lt he127).1; omega)), ?_⟩
      have S : St h M [hole (oSl (fz rEvent)) b118c_1 b118.l (y126 : Int).toNat [c129], own (oSl (fz rEvent)) [v135] e136, own (oSl (fz rLane)) [b118c_0] b118.lanes, rowC o119 [b118c_0, b118c_1, (.int .i64 b118.sent)] v120, rowC h.n [(.int .i64 m1.From), (.int .i64 m1.To), (.int .i64 m1.E.Time), (.int .i64 m1.E.Place), (.int .i64 m1.E.N)] 0] h134 := S.sel [1, 0, 2, 3, 4] rfl
      obtain ⟨h140, e141, S⟩ := S.hset (k := 0) (n := 1) (y := v135) (c' := [v135]) (by rw [sl_cells ((S.sl (r := (fz rEvent)) (.tail _ (.head _)))).is]; rfl) (sl_tup ((S.sl (r := (fz rEvent)) (.tail _ (.head _)))).is) (Nat.le_of_ble_eq_true rfl) (by rw [sl_cells ((S.sl (r := (fz rEvent)) (.tail _ (.head _)))).is]; rfl)
      rw [padd_zero] at e141
      have S : St h M [hole (oSl (fz rEvent)) b118c_1 b118.l (y126 : Int).toNat [v135], own (oSl (fz rEvent)) [v135] e136, own (oSl (fz rLane)) [b118c_0] b118.lanes, rowC o119 [b118c_0, b118c_1, (.int .i64 b118.sent)] v120, rowC h.n [(.int .i64 m1.From), (.int .i64 m1.To), (.int .i64 m1.E.Time), (.int .i64 m1.E.Place), (.int .i64 m1.E.N)] 0] h140 := S
      refine ⟨h140, e141, ?_⟩
      refine ⟨⟨b118c_1, S_3.rd1 (.tail _ (.tail _ (.head _))) rfl, S_15.rd1 (.tail _ (.tail _ (.tail _ (.tail _ (.head _))))) rfl, S_16.rd1 (.tail _ (.tail _ (.tail _ (.head _)))) rfl⟩, ?_⟩
      have S : St h M [own (oSl (fz rEvent)) [v135] e136, hole (oSl (fz rEvent)) b118c_1 b118.l (y126 : Int).toNat [v135], own (oSl (fz rLane)) [b118c_0] b118.lanes, rowC o119 [b118c_0, b118c_1, (.int .i64 b118.sent)] v120, rowC h.n [(.int .i64 m1.From), (.int .i64 m1.To), (.int .i64 m1.E.Time), (.int .i64 m1.E.Place), (.int .i64 m1.E.N)] 0] h140 := S.sel [1, 0, 2, 3, 4] rfl
      have S : St h M [own (oSl (oSl (fz rEvent))) [b118c_1] (b118.l.set (y126 : Int).toNat e136), own (oSl (fz rLane)) [b118c_0] b118.lanes, rowC o119 [b118c_0, b118c_1, (.int .i64 b118.sent)] v120, rowC h.n [(.int .i64 m1.From), (.int .i64 m1.To), (.int .i64 m1.E.Time), (.int .i64 m1.E.Place), (.int .i64 m1.E.N)] 0] h140 := S.back
      refine oP_intro (.ptr o119 v120 0) rfl ?_
      refine ifP_iff.2 ⟨rfl, ?_⟩
      refine ⟨b118.sent, S.rd1 (.tail _ (.tail _ (.head _))) rfl, ?_⟩
      refine oP_intro (.ptr o119 v120 0) rfl ?_
      refine ifP_iff.2 ⟨rfl, ?_⟩
      have S : St h M [rowC o119 [b118c_0, b118c_1, (.int .i64 b118.sent)] v120, own (oSl (oSl (fz rEvent))) [b118c_1] (b118.l.set (y126 : Int).toNat e136), own (oSl (fz rLane)) [b118c_0] b118.lanes, rowC h.n [(.int .i64 m1.From), (.int .i64 m1.To), (.int .i64 m1.E.Time), (.int .i64 m1.E.Place), (.int .i64 m1.E.N)] 0] h140 := S.sel [2, 0, 1, 3] rfl
      obtain ⟨h142, e143, S⟩ := S.store (off := 2) (n := 1) (x := (.int .i64 (IntKind.wrap .i64 (b118.sent + (1 : Int))))) (cs' := [b118c_0, b118c_1, (.int .i64 (IntKind.wrap .i64 (b118.sent + (1 : Int))))]) (Nat.le_of_ble_eq_true rfl) rfl rfl rfl
      have S : St h M [rowC o119 [b118c_0, b118c_1, (.int .i64 (IntKind.wrap .i64 (b118.sent + (1 : Int))))] v120, own (oSl (oSl (fz rEvent))) [b118c_1] (b118.l.set (y126 : Int).toNat e136), own (oSl (fz rLane)) [b118c_0] b118.lanes, rowC h.n [(.int .i64 m1.From), (.int .i64 m1.To), (.int .i64 m1.E.Time), (.int .i64 m1.E.Place), (.int .i64 m1.E.N)] 0] h142 := S
      refine ⟨h142, e143, ?_⟩
      have S : St h M [own (oSl (fz rLane)) [b118c_0] b118.lanes, own (oSl (oSl (fz rEvent))) [b118c_1] (b118.l.set (y126 : Int).toNat e136), rowC o119 [b118c_0, b118c_1, (.int .i64 (IntKind.wrap .i64 (b118.sent + (1 : Int))))] v120, rowC h.n [(.int .i64 m1.From), (.int .i64 m1.To), (.int .i64 m1.E.Time), (.int .i64 m1.E.Place), (.int .i64 m1.E.N)] 0] h142 := S.sel [2, 1, 0, 3] rfl
      have S : St h M [own oBox [b118c_0, b118c_1, (.int .i64 (IntKind.wrap .i64 (b118.sent + (1 : Int))))] (TBox.mk b118.lanes (b118.l.set (y126 : Int).toNat e136) (IntKind.wrap .i64 (b118.sent + (1 : Int)))), rowC o119 [b118c_0, b118c_1, (.int .i64 (IntKind.wrap .i64 (b118.sent + (1 : Int))))] v120, rowC h.n [(.int .i64 m1.From), (.int .i64 m1.To), (.int .i64 m1.E.Time), (.int .i64 m1.E.Place), (.int .i64 m1.E.N)] 0] h142 := oBox_close (x := (TBox.mk b118.lanes (b118.l.set (y126 : Int).toNat e136) (IntKind.wrap .i64 (b118.sent + (1 : Int))))) S
      have S : St h M [rowC o119 [b118c_0, b118c_1, (.int .i64 (IntKind.wrap .i64 (b118.sent + (1 : Int))))] v120, own oBox [b118c_0, b118c_1, (.int .i64 (IntKind.wrap .i64 (b118.sent + (1 : Int))))] (TBox.mk b118.lanes (b118.l.set (y126 : Int).toNat e136) (IntKind.wrap .i64 (b118.sent + (1 : Int)))), rowC h.n [(.int .i64 m1.From), (.int .i64 m1.To), (.int .i64 m1.E.Time), (.int .i64 m1.E.Place), (.int .i64 m1.E.N)] 0] h142 := S.sel [1, 0, 2] rfl
      have S : St h M [own (oPtr oBox) [(.ptr o119 v120 0)] (some (TBox.mk b118.lanes (b118.l.set (y126 : Int).toNat e136) (IntKind.wrap .i64 (b118.sent + (1 : Int))))), rowC h.n [(.int .i64 m1.From), (.int .i64 m1.To), (.int .i64 m1.E.Time), (.int .i64 m1.E.Place), (.int .i64 m1.E.N)] 0] h142 := S.ptrClose
      obtain rfl := Option.some.inj hf
      exact ⟨rfl, S.sel [0] rfl⟩
  refine bP_intro (fun hc => ?_) (fun hc => ?_)
  · rw [if_pos (show b0.isNone = true from hc)] at hf
    have S : St h M [own (oPtr oBox) [a0_0] b0, rowC h.n [(.int .i64 m1.From), (.int .i64 m1.To), (.int .i64 m1.E.Time), (.int .i64 m1.E.Place), (.int .i64 m1.E.N)] 0] h102 := S.sel [1, 0] rfl
    exact hjj0 _ _ b0 hf  S
  · rw [if_neg (show ¬ (b0.isNone = true) from by rw [show b0.isNone = false from hc]; exact Bool.false_ne_true)] at hf
    obtain ⟨b146, hb146, hf⟩ := obind hf
    have S : St h M [own (oPtr oBox) [a0_0] b0, rowC h.n [(.int .i64 m1.From), (.int .i64 m1.To), (.int .i64 m1.E.Time), (.int .i64 m1.E.Place), (.int .i64 m1.E.N)] 0] h102 := S.sel [1, 0] rfl
    have S : St h M [own (oPtr oBox) [a0_0] (some b146), rowC h.n [(.int .i64 m1.From), (.int .i64 m1.To), (.int .i64 m1.E.Time), (.int .i64 m1.E.Place), (.int .i64 m1.E.N)] 0] h102 := S.cast (by rw [hb146])
    obtain ⟨o147, v148, rwb146, eP, S2⟩ := St.ptrOpen S
    subst eP
    have S := S2
    have S := S.swap
    obtain ⟨b146c_0, b146c_1, eS, S2⟩ := oBox_open S
    subst eS
    have S := S2
    have S : St h M [own (oSl (fz rLane)) [b146c_0] b146.lanes, own (oSl (oSl (fz rEvent))) [b146c_1] b146.l, rowC o147 [b146c_0, b146c_1, (.int .i64 b146.sent)] v148, rowC h.n [(.int .i64 m1.From), (.int .i64 m1.To), (.int .i64 m1.E.Time), (.int .i64 m1.E.Place), (.int .i64 m1.E.N)] 0] h102 := S
    refine oP_intro _ rfl ?_
    refine ifP_iff.2 ⟨rfl, ?_⟩
    refine ⟨b146c_0, S.rd1 (.tail _ (.tail _ (.head _))) rfl, ?_⟩
    refine ⟨m1.From, S.rd1 (.tail _ (.tail _ (.tail _ (.head _)))) rfl, ?_⟩
    refine ⟨m1.To, S.rd1 (.tail _ (.tail _ (.tail _ (.head _)))) rfl, ?_⟩
    obtain ⟨y154, hy154, hf⟩ := obind hf
    refine ⟨_, Fz.refl _, ?_⟩
    refine (r37 (l0 := b146.lanes) (from1 := m1.From) (to2 := m1.To) (f0_0 := (S.sl (r := (fz rLane)) (.head _))) hy154).mono fun v152 h153 T => ?_
    obtain ⟨rfl, T⟩ := T
    have S : St h M [own (oSl (fz rLane)) [b146c_0] b146.lanes, own (oSl (oSl (fz rEvent))) [b146c_1] b146.l, rowC o147 [b146c_0, b146c_1, (.int .i64 b146.sent)] v148, rowC h.n [(.int .i64 m1.From), (.int .i64 m1.To), (.int .i64 m1.E.Time), (.int .i64 m1.E.Place), (.int .i64 m1.E.N)] 0] h153 := S.comp T
    refine ⟨y154, rfl, ?_⟩
    have S : St h M [own oBox [b146c_0, b146c_1, (.int .i64 b146.sent)] b146, rowC o147 [b146c_0, b146c_1, (.int .i64 b146.sent)] v148, rowC h.n [(.int .i64 m1.From), (.int .i64 m1.To), (.int .i64 m1.E.Time), (.int .i64 m1.E.Place), (.int .i64 m1.E.N)] 0] h153 := oBox_close (x := b146) S
    have S : St h M [rowC o147 [b146c_0, b146c_1, (.int .i64 b146.sent)] v148, own oBox [b146c_0, b146c_1, (.int .i64 b146.sent)] b146, rowC h.n [(.int .i64 m1.From), (.int .i64 m1.To), (.int .i64 m1.E.Time), (.int .i64 m1.E.Place), (.int .i64 m1.E.N)] 0] h153 := S.sel [1, 0, 2] rfl
    have S : St h M [own (oPtr oBox) [(.ptr o147 v148 0)] (some b146), rowC h.n [(.int .i64 m1.From), (.int .i64 m1.To), (.int .i64 m1.E.Time), (.int .i64 m1.E.Place), (.int .i64 m1.E.N)] 0] h153 := S.ptrClose
    exact hjj0 _ _ (some b146) hf  S
/-! 28: (*marblerun/mail.Box).Take -/
noncomputable def p28 (b0 : Option TBox) (from1 : Int) (to2 : Int) : Option (TMail × Bool × (Option TBox)) := (p29 b0 from1 to2).bind fun y106 => if y106 = (0 : Int) then (some ((TMail.mk (0 : Int) (0 : Int) (TEvent.mk (0 : Int) (0 : Int) (0 : Int))), false, b0)) else (b0.bind fun b109 => (p37 b109.lanes from1 to2).bind fun y117 => (idx b109.l y117).bind fun e118 => (idx e118 (0 : Int)).bind fun e120 => (idx b109.l y117).bind fun e126 => (slc e126 (1 : Int) (e126.length : Int)).bind fun y131 => some ((TMail.mk from1 to2 e120), true, (some (TBox.mk b109.lanes (b109.l.set (y117 : Int).toNat y131) b109.sent))))
theorem r28 {h : Heap} {a0_0 : AV} {M : Nat → Prop} {b0 : Option TBox} {from1 : Int} {to2 : Int} (S : St h M [own (oPtr oBox) [a0_0] b0] h) {r : TMail × Bool × (Option TBox)} (hf : p28 b0 from1 to2 = some r) : ZCalls F 28 [a0_0, (.int .i64 from1), (.int .i64 to2)] h fun v h' => v = .tuple [.agg [.int .i64 r.1.From, .int .i64 r.1.To, .int .i64 r.1.E.Time, .int .i64 r.1.E.Place, .int .i64 r.1.E.N], .bool r.2.1] ∧ St h M [own (oPtr oBox) [a0_0] r.2.2] h' := by
  refine w28 ?_
  unfold W28
  unfold p28 at hf
  intro h102
  have S : St h M [rowC h.n [(.int .i64 (0 : Int)), (.int .i64 (0 : Int)), (.int .i64 (0 : Int)), (.int .i64 (0 : Int)), (.int .i64 (0 : Int))] 0, own (oPtr oBox) [a0_0] b0] h102 := S.pushRow [(.int .i64 (0 : Int)), (.int .i64 (0 : Int)), (.int .i64 (0 : Int)), (.int .i64 (0 : Int)), (.int .i64 (0 : Int))]
  obtain ⟨y106, hy106, hf⟩ := obind hf
  refine ⟨_, Fz.refl _, ?_⟩
  refine (r29 (b0 := b0) (from1 := from1) (to2 := to2) (f0_0 := S.pt (r := oBox) (.tail _ (.head _))) hy106).mono fun v104 h105 T => ?_
  obtain ⟨rfl, T⟩ := T
  have S : St h M [rowC h.n [(.int .i64 (0 : Int)), (.int .i64 (0 : Int)), (.int .i64 (0 : Int)), (.int .i64 (0 : Int)), (.int .i64 (0 : Int))] 0, own (oPtr oBox) [a0_0] b0] h105 := S.comp T
  refine ⟨y106, rfl, ?_⟩
  refine bP_intro (fun hc => ?_) (fun hc => ?_)
  · rw [if_pos (show y106 = (0 : Int) from of_decide_eq_true hc)] at hf
    obtain ⟨h107, e108, S⟩ := S.store (off := 0) (n := 5) (x := (.agg [(.int .i64 (0 : Int)), (.int .i64 (0 : Int)), (.int .i64 (0 : Int)), (.int .i64 (0 : Int)), (.int .i64 (0 : Int))])) (cs' := [(.int .i64 (0 : Int)), (.int .i64 (0 : Int)), (.int .i64 (0 : Int)), (.int .i64 (0 : Int)), (.int .i64 (0 : Int))]) (Nat.le_of_ble_eq_true rfl) rfl rfl rfl
    have S : St h M [rowC h.n [(.int .i64 (0 : Int)), (.int .i64 (0 : Int)), (.int .i64 (0 : Int)), (.int .i64 (0 : Int)), (.int .i64 (0 : Int))] 0, own (oPtr oBox) [a0_0] b0] h107 := S
    refine ⟨h107, e108, ?_⟩
    refine ⟨(.int .i64 (0 : Int)), (.int .i64 (0 : Int)), (.int .i64 (0 : Int)), (.int .i64 (0 : Int)), (.int .i64 (0 : Int)), S.rdN (.head _) (Nat.le_of_ble_eq_true rfl) rfl, ?_⟩
    obtain rfl := Option.some.inj hf
    exact ⟨rfl, S.sel [1] rfl⟩
  · rw [if_neg (show ¬ (y106 = (0 : Int)) from of_decide_eq_false hc)] at hf
    obtain ⟨b109, hb109, hf⟩ := obind hf
    have S : St h M [own (oPtr oBox) [a0_0] b0, rowC h.n [(.int .i64 (0 : Int)), (.int .i64 (0 : Int)), (.int .i64 (0 : Int)), (.int .i64 (0 : Int)), (.int .i64 (0 : Int))] 0] h105 := S.sel [1, 0] rfl
    have S : St h M [own (oPtr oBox) [a0_0] (some b109), rowC h.n [(.int .i64 (0 : Int)), (.int .i64 (0 : Int)), (.int .i64 (0 : Int)), (.int .i64 (0 : Int)), (.int .i64 (0 : Int))] 0] h105 := S.cast (by rw [hb109])
    obtain ⟨o110, v111, rwb109, eP, S2⟩ := St.ptrOpen S
    subst eP
    have S := S2
    have S := S.swap
    obtain ⟨b109c_0, b109c_1, eS, S2⟩ := oBox_open S
    subst eS
    have S := S2
    have S : St h M [own (oSl (fz rLane)) [b109c_0] b109.lanes, own (oSl (oSl (fz rEvent))) [b109c_1] b109.l, rowC o110 [b109c_0, b109c_1, (.int .i64 b109.sent)] v111, rowC h.n [(.int .i64 (0 : Int)), (.int .i64 (0 : Int)), (.int .i64 (0 : Int)), (.int .i64 (0 : Int)), (.int .i64 (0 : Int))] 0] h105 := S
    refine oP_intro _ rfl ?_
    refine ifP_iff.2 ⟨rfl, ?_⟩
    refine ⟨b109c_0, S.rd1 (.tail _ (.tail _ (.head _))) rfl, ?_⟩
    obtain ⟨y117, hy117, hf⟩ := obind hf
    refine ⟨_, Fz.refl _, ?_⟩
    refine (r37 (l0 := b109.lanes) (from1 := from1) (to2 := to2) (f0_0 := (S.sl (r := (fz rLane)) (.head _))) hy117).mono fun v115 h116 T => ?_
    obtain ⟨rfl, T⟩ := T
    have S : St h M [own (oSl (fz rLane)) [b109c_0] b109.lanes, own (oSl (oSl (fz rEvent))) [b109c_1] b109.l, rowC o110 [b109c_0, b109c_1, (.int .i64 b109.sent)] v111, rowC h.n [(.int .i64 (0 : Int)), (.int .i64 (0 : Int)), (.int .i64 (0 : Int)), (.int .i64 (0 : Int)), (.int .i64 (0 : Int))] 0] h116 := S.comp T
    refine ⟨y117, rfl, ?_⟩
    refine oP_intro (.ptr o110 v111 0) rfl ?_
    refine ifP_iff.2 ⟨rfl, ?_⟩
    refine ⟨b109c_1, S.rd1 (.tail _ (.tail _ (.head _))) rfl, ?_⟩
    obtain ⟨e118, he118, hf⟩ := obind hf
    obtain ⟨qe118, q0e118, q1e118⟩ := SlR.ix (S.sl (r := (oSl (fz rEvent))) (.tail _ (.head _))) he118
    have pe118 := (SlR.idx (S.sl (r := (oSl (fz rEvent))) (.tail _ (.head _))) (Hp.le_refl _) he118).1
    refine ifP_iff.2 ⟨qe118, q0e118, (by first | exact q1e118 | exact (idx_lt he118).2), ?_⟩
    obtain ⟨_, cr119, Rr119, Nr119, Or119, Zr119⟩ := SlR.idx (S.sl (r := (oSl (fz rEvent))) (.tail _ (.head _))) (Hp.le_refl _) he118
    obtain ⟨cr119, rfl, Fr119⟩ := Rr119
    refine ⟨cr119, Zr119 _ rfl, ?_⟩
    obtain ⟨e120, he120, hf⟩ := obind hf
    obtain ⟨qe120, q0e120, q1e120⟩ := SlR.ix Fr119 he120
    have pe120 := (SlR.idx Fr119 (Hp.le_refl _) he120).1
    refine ifP_iff.2 ⟨qe120, q0e120, (by first | exact q1e120 | exact (idx_lt he120).2), ?_⟩
    obtain ⟨_, cr121, Rr121, Nr121, Or121, Zr121⟩ := SlR.idx Fr119 (Hp.le_refl _) he120
    obtain rfl := rEvent_open Rr121
    refine ⟨(.int .i64 e120.Time), (.int .i64 e120.Place), (.int .i64 e120.N), Nr121, ?_⟩
    intro h122
    have S : St h M [rowC h116.n [(.int .i64 (0 : Int)), (.int .i64 (0 : Int)), (.int .i64 (0 : Int)), (.int .i64 (0 : Int)), (.int .i64 (0 : Int))] 0, own (oSl (fz rLane)) [b109c_0] b109.lanes, own (oSl (oSl (fz rEvent))) [b109c_1] b109.l, rowC o110 [b109c_0, b109c_1, (.int .i64 b109.sent)] v111, rowC h.n [(.int .i64 (0 : Int)), (.int .i64 (0 : Int)), (.int .i64 (0 : Int)), (.int .i64 (0 : Int)), (.int .i64 (0 : Int))] 0] h122 := S.pushRow [(.int .i64 (0 : Int)), (.int .i64 (0 : Int)), (.int .i64 (0 : Int)), (.int .i64 (0 : Int)), (.int .i64 (0 : Int))]
    obtain ⟨h124, e125, S⟩ := S.store (off := 0) (n := 5) (x := (.agg [(.int .i64 from1), (.int .i64 to2), (.int .i64 e120.Time), (.int .i64 e120.Place), (.int .i64 e120.N)])) (cs' := [(.int .i64 from1), (.int .i64 to2), (.int .i64 e120.Time), (.int .i64 e120.Place), (.int .i64 e120.N)]) (Nat.le_of_ble_eq_true rfl) rfl rfl rfl
    have S : St h M [rowC h116.n [(.int .i64 from1), (.int .i64 to2), (.int .i64 e120.Time), (.int .i64 e120.Place), (.int .i64 e120.N)] 0, own (oSl (fz rLane)) [b109c_0] b109.lanes, own (oSl (oSl (fz rEvent))) [b109c_1] b109.l, rowC o110 [b109c_0, b109c_1, (.int .i64 b109.sent)] v111, rowC h.n [(.int .i64 (0 : Int)), (.int .i64 (0 : Int)), (.int .i64 (0 : Int)), (.int .i64 (0 : Int)), (.int .i64 (0 : Int))] 0] h124 := S
    refine ⟨h124, e125, ?_⟩
    refine oP_intro (.ptr o110 v111 0) rfl ?_
    refine ifP_iff.2 ⟨rfl, ?_⟩
    refine ⟨b109c_1, S.rd1 (.tail _ (.tail _ (.tail _ (.head _)))) rfl, ?_⟩
    refine oP_intro (.ptr o110 v111 0) rfl ?_
    refine ifP_iff.2 ⟨rfl, ?_⟩
    refine ⟨b109c_1, S.rd1 (.tail _ (.tail _ (.tail _ (.head _)))) rfl, ?_⟩
    obtain ⟨e126, he126, hf⟩ := obind hf
    obtain ⟨qe126, q0e126, q1e126⟩ := SlR.ix (S.sl (r := (oSl (fz rEvent))) (.tail _ (.tail _ (.head _)))) he126
    have pe126 := (SlR.idx (S.sl (r := (oSl (fz rEvent))) (.tail _ (.tail _ (.head _)))) (Hp.le_refl _) he126).1
    refine ifP_iff.2 ⟨qe126, q0e126, (by first | exact q1e126 | exact (idx_lt he126).2), ?_⟩
    have S : St h M [own (oSl (oSl (fz rEvent))) [b109c_1] b109.l, rowC h116.n [(.int .i64 from1), (.int .i64 to2), (.int .i64 e120.Time), (.int .i64 e120.Place), (.int .i64 e120.N)] 0, own (oSl (fz rLane)) [b109c_0] b109.lanes, rowC o110 [b109c_0, b109c_1, (.int .i64 b109.sent)] v111, rowC h.n [(.int .i64 (0 : Int)), (.int .i64 (0 : Int)), (.int .i64 (0 : Int)), (.int .i64 (0 : Int)), (.int .i64 (0 : Int))] 0] h124 := S.sel [2, 0, 1, 3, 4] rfl
    obtain ⟨cc128, lc128, S⟩ := St.out S he126
    obtain ⟨c128, rfl⟩ : ∃ a, cc128 = [a] := len1' lc128
    have S : St h M [own (oSl (fz rEvent)) [c128] e126, hole (oSl (fz rEvent)) b109c_1 b109.l (y117 : Int).toNat [c128], rowC h116.n [(.int .i64 from1), (.int .i64 to2), (.int .i64 e120.Time), (.int .i64 e120.Place), (.int .i64 e120.N)] 0, own (oSl (fz rLane)) [b109c_0] b109.lanes, rowC o110 [b109c_0, b109c_1, (.int .i64 b109.sent)] v111, rowC h.n [(.int .i64 (0 : Int)), (.int .i64 (0 : Int)), (.int .i64 (0 : Int)), (.int .i64 (0 : Int)), (.int .i64 (0 : Int))] 0] h124 := S
    refine ⟨c128, (S.hrd (.tail _ (.head _))).2.2.2.2.2 _ rfl, ?_⟩
    obtain ⟨y131, hy131, hf⟩ := obind hf
    have ey131 := (sliceSl_ev10 (k := .i64) (S.sl (r := (fz rEvent)) (.head _)) hy131)
    have S : St h M [own (oSl (fz rEvent)) [(c128.sub 3 ((1 : Int) : Int).toNat ((e126.length : Int) : Int).toNat)] y131, hole (oSl (fz rEvent)) b109c_1 b109.l (y117 : Int).toNat [c128], rowC h116.n [(.int .i64 from1), (.int .i64 to2), (.int .i64 e120.Time), (.int .i64 e120.Place), (.int .i64 e120.N)] 0, own (oSl (fz rLane)) [b109c_0] b109.lanes, rowC o110 [b109c_0, b109c_1, (.int .i64 b109.sent)] v111, rowC h.n [(.int .i64 (0 : Int)), (.int .i64 (0 : Int)), (.int .i64 (0 : Int)), (.int .i64 (0 : Int)), (.int .i64 (0 : Int))] 0] h124 := (S.sub (slc_le hy131).1 (slc_le hy131).2).cast (by rw [← slc_eq hy131] <;> rfl)
    refine oP_intro _ ey131 ?_
    have p132 := (S.hrd (.tail _ (.head _))).2.2.1
    refine ifP_iff.2 ⟨(S.hrd (.tail _ (.head _))).1, (idx_lt he126).1, (by first | exact (idx_lt he126).2 | (have hq := (S.hrd (.tail _ (.head _))).2.1; have hq0 := (idx_lt he126).1; omega)), ?_⟩
    have S : St h M [hole (oSl (fz rEvent)) b109c_1 b109.l (y117 : Int).toNat [c128], own (oSl (fz rEvent)) [(c128.sub 3 ((1 : Int) : Int).toNat ((e126.length : Int) : Int).toNat)] y131, rowC h116.n [(.int .i64 from1), (.int .i64 to2), (.int .i64 e120.Time), (.int .i64 e120.Place), (.int .i64 e120.N)] 0, own (oSl (fz rLane)) [b109c_0] b109.lanes, rowC o110 [b109c_0, b109c_1, (.int .i64 b109.sent)] v111, rowC h.n [(.int .i64 (0 : Int)), (.int .i64 (0 : Int)), (.int .i64 (0 : Int)), (.int .i64 (0 : Int)), (.int .i64 (0 : Int))] 0] h124 := S.sel [1, 0, 2, 3, 4, 5] rfl
    obtain ⟨h133, e134, S⟩ := S.hset (k := 0) (n := 1) (y := (c128.sub 3 ((1 : Int) : Int).toNat ((e126.length : Int) : Int).toNat)) (c' := [(c128.sub 3 ((1 : Int) : Int).toNat ((e126.length : Int) : Int).toNat)]) (by rw [sl_cells ((S.sl (r := (fz rEvent)) (.tail _ (.head _)))).is]; rfl) (sl_tup ((S.sl (r := (fz rEvent)) (.tail _ (.head _)))).is) (Nat.le_of_ble_eq_true rfl) (by rw [sl_cells ((S.sl (r := (fz rEvent)) (.tail _ (.head _)))).is]; rfl)
    rw [padd_zero] at e134
    have S : St h M [hole (oSl (fz rEvent)) b109c_1 b109.l (y117 : Int).toNat [(c128.sub 3 ((1 : Int) : Int).toNat ((e126.length : Int) : Int).toNat)], own (oSl (fz rEvent)) [(c128.sub 3 ((1 : Int) : Int).toNat ((e126.length : Int) : Int).toNat)] y131, rowC h116.n [(.int .i64 from1), (.int .i64 to2), (.int .i64 e120.Time), (.int .i64 e120.Place), (.int .i64 e120.N)] 0, own (oSl (fz rLane)) [b109c_0] b109.lanes, rowC o110 [b109c_0, b109c_1, (.int .i64 b109.sent)] v111, rowC h.n [(.int .i64 (0 : Int)), (.int .i64 (0 : Int)), (.int .i64 (0 : Int)), (.int .i64 (0 : Int)), (.int .i64 (0 : Int))] 0] h133 := S
    refine ⟨h133, e134, ?_⟩
    have S : St h M [own (oSl (fz rEvent)) [(c128.sub 3 ((1 : Int) : Int).toNat ((e126.length : Int) : Int).toNat)] y131, hole (oSl (fz rEvent)) b109c_1 b109.l (y117 : Int).toNat [(c128.sub 3 ((1 : Int) : Int).toNat ((e126.length : Int) : Int).toNat)], rowC h116.n [(.int .i64 from1), (.int .i64 to2), (.int .i64 e120.Time), (.int .i64 e120.Place), (.int .i64 e120.N)] 0, own (oSl (fz rLane)) [b109c_0] b109.lanes, rowC o110 [b109c_0, b109c_1, (.int .i64 b109.sent)] v111, rowC h.n [(.int .i64 (0 : Int)), (.int .i64 (0 : Int)), (.int .i64 (0 : Int)), (.int .i64 (0 : Int)), (.int .i64 (0 : Int))] 0] h133 := S.sel [1, 0, 2, 3, 4, 5] rfl
    have S : St h M [own (oSl (oSl (fz rEvent))) [b109c_1] (b109.l.set (y117 : Int).toNat y131), rowC h116.n [(.int .i64 from1), (.int .i64 to2), (.int .i64 e120.Time), (.int .i64 e120.Place), (.int .i64 e120.N)] 0, own (oSl (fz rLane)) [b109c_0] b109.lanes, rowC o110 [b109c_0, b109c_1, (.int .i64 b109.sent)] v111, rowC h.n [(.int .i64 (0 : Int)), (.int .i64 (0 : Int)), (.int .i64 (0 : Int)), (.int .i64 (0 : Int)), (.int .i64 (0 : Int))] 0] h133 := S.back
    refine ⟨(.int .i64 from1), (.int .i64 to2), (.int .i64 e120.Time), (.int .i64 e120.Place), (.int .i64 e120.N), S.rdN (.tail _ (.head _)) (Nat.le_of_ble_eq_true rfl) rfl, ?_⟩
    have S : St h M [rowC h.n [(.int .i64 (0 : Int)), (.int .i64 (0 : Int)), (.int .i64 (0 : Int)), (.int .i64 (0 : Int)), (.int .i64 (0 : Int))] 0, own (oSl (oSl (fz rEvent))) [b109c_1] (b109.l.set (y117 : Int).toNat y131), rowC h116.n [(.int .i64 from1), (.int .i64 to2), (.int .i64 e120.Time), (.int .i64 e120.Place), (.int .i64 e120.N)] 0, own (oSl (fz rLane)) [b109c_0] b109.lanes, rowC o110 [b109c_0, b109c_1, (.int .i64 b109.sent)] v111] h133 := S.sel [4, 0, 1, 2, 3] rfl
    obtain ⟨h135, e136, S⟩ := S.store (off := 0) (n := 5) (x := (.agg [(.int .i64 from1), (.int .i64 to2), (.int .i64 e120.Time), (.int .i64 e120.Place), (.int .i64 e120.N)])) (cs' := [(.int .i64 from1), (.int .i64 to2), (.int .i64 e120.Time), (.int .i64 e120.Place), (.int .i64 e120.N)]) (Nat.le_of_ble_eq_true rfl) rfl rfl rfl
    have S : St h M [rowC h.n [(.int .i64 from1), (.int .i64 to2), (.int .i64 e120.Time), (.int .i64 e120.Place), (.int .i64 e120.N)] 0, own (oSl (oSl (fz rEvent))) [b109c_1] (b109.l.set (y117 : Int).toNat y131), rowC h116.n [(.int .i64 from1), (.int .i64 to2), (.int .i64 e120.Time), (.int .i64 e120.Place), (.int .i64 e120.N)] 0, own (oSl (fz rLane)) [b109c_0] b109.lanes, rowC o110 [b109c_0, b109c_1, (.int .i64 b109.sent)] v111] h135 := S
    refine ⟨h135, e136, ?_⟩
    refine ⟨(.int .i64 from1), (.int .i64 to2), (.int .i64 e120.Time), (.int .i64 e120.Place), (.int .i64 e120.N), S.rdN (.head _) (Nat.le_of_ble_eq_true rfl) rfl, ?_⟩
    have S : St h M [own (oSl (fz rLane)) [b109c_0] b109.lanes, own (oSl (oSl (fz rEvent))) [b109c_1] (b109.l.set (y117 : Int).toNat y131), rowC h.n [(.int .i64 from1), (.int .i64 to2), (.int .i64 e120.Time), (.int .i64 e120.Place), (.int .i64 e120.N)] 0, rowC h116.n [(.int .i64 from1), (.int .i64 to2), (.int .i64 e120.Time), (.int .i64 e120.Place), (.int .i64 e120.N)] 0, rowC o110 [b109c_0, b109c_1, (.int .i64 b109.sent)] v111] h135 := S.sel [3, 1, 0, 2, 4] rfl
    have S : St h M [own oBox [b109c_0, b109c_1, (.int .i64 b109.sent)] (TBox.mk b109.lanes (b109.l.set (y117 : Int).toNat y131) b109.sent), rowC h.n [(.int .i64 from1), (.int .i64 to2), (.int .i64 e120.Time), (.int .i64 e120.Place), (.int .i64 e120.N)] 0, rowC h116.n [(.int .i64 from1), (.int .i64 to2), (.int .i64 e120.Time), (.int .i64 e120.Place), (.int .i64 e120.N)] 0, rowC o110 [b109c_0, b109c_1, (.int .i64 b109.sent)] v111] h135 := oBox_close (x := (TBox.mk b109.lanes (b109.l.set (y117 : Int).toNat y131) b109.sent)) S
    have S : St h M [rowC o110 [b109c_0, b109c_1, (.int .i64 b109.sent)] v111, own oBox [b109c_0, b109c_1, (.int .i64 b109.sent)] (TBox.mk b109.lanes (b109.l.set (y117 : Int).toNat y131) b109.sent), rowC h.n [(.int .i64 from1), (.int .i64 to2), (.int .i64 e120.Time), (.int .i64 e120.Place), (.int .i64 e120.N)] 0, rowC h116.n [(.int .i64 from1), (.int .i64 to2), (.int .i64 e120.Time), (.int .i64 e120.Place), (.int .i64 e120.N)] 0] h135 := S.sel [3, 0, 1, 2] rfl
    have S : St h M [own (oPtr oBox) [(.ptr o110 v111 0)] (some (TBox.mk b109.lanes (b109.l.set (y117 : Int).toNat y131) b109.sent)), rowC h.n [(.int .i64 from1), (.int .i64 to2), (.int .i64 e120.Time), (.int .i64 e120.Place), (.int .i64 e120.N)] 0, rowC h116.n [(.int .i64 from1), (.int .i64 to2), (.int .i64 e120.Time), (.int .i64 e120.Place), (.int .i64 e120.N)] 0] h135 := S.ptrClose
    obtain rfl := Option.some.inj hf
    exact ⟨rfl, S.sel [0] rfl⟩
/-! 25: marblerun/marblerunlaw18.lanes -/
noncomputable def p25_l0 (l0 : List Int) (st : Int × (List TLane)) : Option ((Int × (List TLane)) ⊕ (List TLane)) := match st with | (i103, out106) => if i103 < (l0.length : Int) then ((idx l0 i103).bind fun e129 => (idx l0 i103).bind fun e131 => (app 24 out106 [(TLane.mk (IntKind.wrap .i64 (Int.tmod e129 (5 : Int))) (IntKind.wrap .i64 (Int.tmod (IntKind.wrap .u8 (Int.tdiv e131 (5 : Int))) (5 : Int))) (1 : Int))]).bind fun out137 => some (.inl ((IntKind.wrap .i64 (i103 + (1 : Int))), out137))) else (some (.inr out106))
noncomputable def p25 (l0 : List Int) : Option (List TLane) := (loopC (p25_l0 l0) ((0 : Int), [])).bind fun res125 => ((fun (out124 : List TLane) => some out124) res125)
theorem r25 {h : Heap} {a0_0 : AV} {l0 : List Int} (f0_0 : SlR (rI .u8) (Snap h) a0_0 l0) {r : (List TLane)} (hf : p25 l0 = some r) : ZCalls F 25 [a0_0] h fun v h' => St h none' [own (oSl (fz rLane)) [v] r] h' := by
  refine w25 ?_
  unfold W25
  unfold p25 at hf
  have S : St h none' [] h := St.refl _ _
  obtain ⟨res125, hL, hf⟩ := obind hf
  obtain ⟨n126, hL⟩ := loopC_iff.1 hL
  have S : St h none' [own (oSl (fz rLane)) [.nilSlice] []] h := S.addE (oSl_nil _ _)
  refine loopm25_0 (X0 := fun (l120 : AV) (out121 : AV) (i122 : Int) (h123 : Heap) => ∃ (out124 : List TLane), St h none' [own (oSl (fz rLane)) [out121] out124] h123 ∧ out124 = res125) ?_ (loop25_0 (I := fun (m128 : Nat) (l101 : AV) (out102 : AV) (i103 : Int) (h104 : Heap) => ∃ (out106 : List TLane), a0_0 = l101 ∧ St h none' [own (oSl (fz rLane)) [out102] out106] h104 ∧ iter (p25_l0 l0) m128 (i103, out106) = some res125) ?_ (m := n126) ?_)
  · rintro l120 out121 i122 h123 ⟨out124, S, rfl⟩
    try dsimp only at hf
    obtain rfl := Option.some.inj hf
    exact S.sel [0] rfl
  · rintro m1280 l101 out102 i103 h104 ⟨out106, rfl, S, hit⟩
    obtain ⟨m128, q127, rfl, hf, hk⟩ := iter_some hit
    clear hit
    unfold B25_0
    unfold p25_l0 at hf
    try dsimp only at hf
    refine ifP_iff.2 ⟨(f0_0).is, ?_⟩
    try rw [(f0_0).slen]
    refine bP_intro (fun hc => ?_) (fun hc => ?_)
    · rw [if_pos (show i103 < (l0.length : Int) from of_decide_eq_true hc)] at hf
      obtain ⟨e129, he129, hf⟩ := obind hf
      obtain ⟨qe129, q0e129, q1e129⟩ := SlR.ix f0_0 he129
      have pe129 := (SlR.idx f0_0 (snap_mono S.le) he129).1
      refine ifP_iff.2 ⟨qe129, q0e129, (by first | exact q1e129 | exact (idx_lt he129).2), ?_⟩
      obtain ⟨_, cr130, Rr130, Nr130, Or130, Zr130⟩ := SlR.idx f0_0 (snap_mono S.le) he129
      obtain rfl : cr130 = [(.int .u8 e129)] := Rr130
      refine ⟨e129, Zr130 _ rfl, ?_⟩
      obtain ⟨e131, he131, hf⟩ := obind hf
      obtain ⟨qe131, q0e131, q1e131⟩ := SlR.ix f0_0 he131
      have pe131 := (SlR.idx f0_0 (snap_mono S.le) he131).1
      refine ifP_iff.2 ⟨qe131, q0e131, (by first | exact q1e131 | exact (idx_lt he131).2), ?_⟩
      obtain ⟨_, cr132, Rr132, Nr132, Or132, Zr132⟩ := SlR.idx f0_0 (snap_mono S.le) he131
      obtain rfl : cr132 = [(.int .u8 e131)] := Rr132
      refine ⟨e131, Zr132 _ rfl, ?_⟩
      intro h133
      have S : St h none' [rowC h104.n [(.int .i64 (IntKind.wrap .i64 (Int.tmod e129 (5 : Int)))), (.int .i64 (IntKind.wrap .i64 (Int.tmod (IntKind.wrap .u8 (Int.tdiv e131 (5 : Int))) (5 : Int)))), (.int .i64 (1 : Int))] 0, own (oSl (fz rLane)) [out102] out106] h133 := S.pushRow [(.int .i64 (IntKind.wrap .i64 (Int.tmod e129 (5 : Int)))), (.int .i64 (IntKind.wrap .i64 (Int.tmod (IntKind.wrap .u8 (Int.tdiv e131 (5 : Int))) (5 : Int)))), (.int .i64 (1 : Int))]
      obtain ⟨out137, hout137, hf⟩ := obind hf
      have S : St h none' [own (fz rLane) [(.int .i64 (IntKind.wrap .i64 (Int.tmod e129 (5 : Int)))), (.int .i64 (IntKind.wrap .i64 (Int.tmod (IntKind.wrap .u8 (Int.tdiv e131 (5 : Int))) (5 : Int)))), (.int .i64 (1 : Int))] (TLane.mk (IntKind.wrap .i64 (Int.tmod e129 (5 : Int))) (IntKind.wrap .i64 (Int.tmod (IntKind.wrap .u8 (Int.tdiv e131 (5 : Int))) (5 : Int))) (1 : Int)), rowC h104.n [(.int .i64 (IntKind.wrap .i64 (Int.tmod e129 (5 : Int)))), (.int .i64 (IntKind.wrap .i64 (Int.tmod (IntKind.wrap .u8 (Int.tdiv e131 (5 : Int))) (5 : Int)))), (.int .i64 (1 : Int))] 0, own (oSl (fz rLane)) [out102] out106] h133 := S.add (r := rLane) (x := (TLane.mk (IntKind.wrap .i64 (Int.tmod e129 (5 : Int))) (IntKind.wrap .i64 (Int.tmod (IntKind.wrap .u8 (Int.tdiv e131 (5 : Int))) (5 : Int))) (1 : Int))) (rLane_mk (x := (TLane.mk (IntKind.wrap .i64 (Int.tmod e129 (5 : Int))) (IntKind.wrap .i64 (Int.tmod (IntKind.wrap .u8 (Int.tdiv e131 (5 : Int))) (5 : Int))) (1 : Int))))
      have S : St h none' [own (oSl (fz rLane)) [out102] out106, own (fz rLane) [(.int .i64 (IntKind.wrap .i64 (Int.tmod e129 (5 : Int)))), (.int .i64 (IntKind.wrap .i64 (Int.tmod (IntKind.wrap .u8 (Int.tdiv e131 (5 : Int))) (5 : Int)))), (.int .i64 (1 : Int))] (TLane.mk (IntKind.wrap .i64 (Int.tmod e129 (5 : Int))) (IntKind.wrap .i64 (Int.tmod (IntKind.wrap .u8 (Int.tdiv e131 (5 : Int))) (5 : Int))) (1 : Int)), rowC h104.n [(.int .i64 (IntKind.wrap .i64 (Int.tmod e129 (5 : Int)))), (.int .i64 (IntKind.wrap .i64 (Int.tmod (IntKind.wrap .u8 (Int.tdiv e131 (5 : Int))) (5 : Int)))), (.int .i64 (1 : Int))] 0] h133 := S.sel [2, 0, 1] rfl
      have mout137 := app_some hout137
      obtain ⟨v136, h135, e138, S⟩ := St.app1R (r := (fz rLane)) (b := 24) S mout137.1
      have S : St h none' [own (oSl (fz rLane)) [v136] out137] h135 := S.cast (by rw [← mout137.2] <;> rfl)
      refine ⟨v136, h135, e138, ?_⟩
      obtain rfl := Option.some.inj hf
      exact ⟨m128, Nat.lt_succ_self _, out137, rfl, S, hk⟩
    · rw [if_neg (show ¬ (i103 < (l0.length : Int)) from of_decide_eq_false hc)] at hf
      obtain rfl := Option.some.inj hf
      obtain rfl := hk
      exact ⟨out106, S, rfl⟩
  · exact ⟨[], rfl, S, hL⟩
/-! 24: marblerun/marblerunlaw18.awake -/
noncomputable def p24_j0 (b127 : Bool) : Option Bool := some b127
noncomputable def p24_j1 (u115 : TMail × Bool × (Option TBox)) (b120 : Bool) : Option Bool := if b120 = true then ((p29 u115.2.2 (0 : Int) (1 : Int)).bind fun y133 => p24_j0 (decide (y133 = (1 : Int)))) else (p24_j0 false)
noncomputable def p24 : Option Bool := (p26 [(TLane.mk (0 : Int) (1 : Int) (0 : Int))]).bind fun y105 => (p27 y105 (TMail.mk (0 : Int) (1 : Int) (TEvent.mk (1 : Int) (0 : Int) (0 : Int)))).bind fun u109 => (p27 u109.2 (TMail.mk (0 : Int) (1 : Int) (TEvent.mk (2 : Int) (0 : Int) (0 : Int)))).bind fun u112 => (p28 u112.2 (0 : Int) (1 : Int)).bind fun u115 => if u115.2.1 = true then (p24_j1 u115 (decide (u115.1.E.Time = (1 : Int)))) else (p24_j1 u115 false)
theorem r24 {h : Heap}   {r : Bool} (hf : p24  = some r) : ZCalls F 24 [] h fun v h' => v = .bool r ∧ St h none' [] h' := by
  refine w24 ?_
  unfold W24
  unfold p24 at hf
  have S : St h none' [] h := St.refl _ _
  intro h101
  have S : St h none' [rowC h.n [(.int .i64 (0 : Int)), (.int .i64 (1 : Int)), (.int .i64 (0 : Int))] 0] h101 := S.pushRow [(.int .i64 (0 : Int)), (.int .i64 (1 : Int)), (.int .i64 (0 : Int))]
  obtain ⟨y105, hy105, hf⟩ := obind hf
  have S : St h none' [own (oSl (fz rLane)) [(.slice h.n 0 0 1 3)] [(TLane.mk (0 : Int) (1 : Int) (0 : Int))]] h101 := St.lit (r := rLane) (els := [[(.int .i64 (0 : Int)), (.int .i64 (1 : Int)), (.int .i64 (0 : Int))]]) (l := [(TLane.mk (0 : Int) (1 : Int) (0 : Int))]) (n := 1) S rfl (.cons (rLane_mk (x := (TLane.mk (0 : Int) (1 : Int) (0 : Int)))) (.nil)) rfl
  refine ⟨_, Fz.refl _, ?_⟩
  refine (r26 (lanes0 := [(TLane.mk (0 : Int) (1 : Int) (0 : Int))]) (f0_0 := (S.sl (r := (fz rLane)) (.head _))) hy105).mono fun v103 h104 T => ?_
  have S : St h none' [own (oPtr oBox) [v103] y105, own (oSl (fz rLane)) [(.slice h.n 0 0 1 3)] [(TLane.mk (0 : Int) (1 : Int) (0 : Int))]] h104 := S.comp T
  obtain ⟨u109, hu109, hf⟩ := obind hf
  refine ⟨_, Fz.refl _, ?_⟩
  obtain ⟨fpu109, S1u109, backu109⟩ := St.lend [_] S
  refine (r27 (b0 := y105) (m1 := (TMail.mk (0 : Int) (1 : Int) (TEvent.mk (1 : Int) (0 : Int) (0 : Int)))) (S := S1u109) hu109).mono fun v107 h108 T => ?_
  obtain ⟨rfl, T⟩ := T
  have S : St h none' [own (oPtr oBox) [v103] u109.2, own (oSl (fz rLane)) [(.slice h.n 0 0 1 3)] [(TLane.mk (0 : Int) (1 : Int) (0 : Int))]] h108 := backu109 _ _ T
  refine ⟨u109.1, rfl, ?_⟩
  obtain ⟨u112, hu112, hf⟩ := obind hf
  refine ⟨_, Fz.refl _, ?_⟩
  obtain ⟨fpu112, S1u112, backu112⟩ := St.lend [_] S
  refine (r27 (b0 := u109.2) (m1 := (TMail.mk (0 : Int) (1 : Int) (TEvent.mk (2 : Int) (0 : Int) (0 : Int)))) (S := S1u112) hu112).mono fun v110 h111 T => ?_
  obtain ⟨rfl, T⟩ := T
  have S : St h none' [own (oPtr oBox) [v103] u112.2, own (oSl (fz rLane)) [(.slice h.n 0 0 1 3)] [(TLane.mk (0 : Int) (1 : Int) (0 : Int))]] h111 := backu112 _ _ T
  refine ⟨u112.1, rfl, ?_⟩
  obtain ⟨u115, hu115, hf⟩ := obind hf
  refine ⟨_, Fz.refl _, ?_⟩
  obtain ⟨fpu115, S1u115, backu115⟩ := St.lend [_] S
  refine (r28 (b0 := u112.2) (from1 := (0 : Int)) (to2 := (1 : Int)) (S := S1u115) hu115).mono fun v113 h114 T => ?_
  obtain ⟨rfl, T⟩ := T
  have S : St h none' [own (oPtr oBox) [v103] u115.2.2, own (oSl (fz rLane)) [(.slice h.n 0 0 1 3)] [(TLane.mk (0 : Int) (1 : Int) (0 : Int))]] h114 := backu115 _ _ T
  refine oP_intro (.agg [(.int .i64 u115.1.From), (.int .i64 u115.1.To), (.int .i64 u115.1.E.Time), (.int .i64 u115.1.E.Place), (.int .i64 u115.1.E.N)]) rfl ?_
  refine oP_intro (.bool u115.2.1) rfl ⟨u115.2.1, rfl, ?_⟩
  intro h116
  have S : St h none' [rowC h114.n [(.int .i64 (0 : Int)), (.int .i64 (0 : Int)), (.int .i64 (0 : Int)), (.int .i64 (0 : Int)), (.int .i64 (0 : Int))] 0, own (oPtr oBox) [v103] u115.2.2, own (oSl (fz rLane)) [(.slice h.n 0 0 1 3)] [(TLane.mk (0 : Int) (1 : Int) (0 : Int))]] h116 := S.pushRow [(.int .i64 (0 : Int)), (.int .i64 (0 : Int)), (.int .i64 (0 : Int)), (.int .i64 (0 : Int)), (.int .i64 (0 : Int))]
  obtain ⟨h118, e119, S⟩ := S.store (off := 0) (n := 5) (x := (.agg [(.int .i64 u115.1.From), (.int .i64 u115.1.To), (.int .i64 u115.1.E.Time), (.int .i64 u115.1.E.Place), (.int .i64 u115.1.E.N)])) (cs' := [(.int .i64 u115.1.From), (.int .i64 u115.1.To), (.int .i64 u115.1.E.Time), (.int .i64 u115.1.E.Place), (.int .i64 u115.1.E.N)]) (Nat.le_of_ble_eq_true rfl) rfl rfl rfl
  have S : St h none' [rowC h114.n [(.int .i64 u115.1.From), (.int .i64 u115.1.To), (.int .i64 u115.1.E.Time), (.int .i64 u115.1.E.Place), (.int .i64 u115.1.E.N)] 0, own (oPtr oBox) [v103] u115.2.2, own (oSl (fz rLane)) [(.slice h.n 0 0 1 3)] [(TLane.mk (0 : Int) (1 : Int) (0 : Int))]] h118 := S
  refine ⟨h118, e119, ?_⟩
  intro jjj1
  have hjj1 : ∀ (b120 : Bool) (h121 : Heap), p24_j1 u115 b120 = some r → h118 = h121 → St h none' [own (oPtr oBox) [v103] u115.2.2] h118 → jjj1 b120 h121 := by
    rintro b120 h121 hf rfl S
    unfold p24_j1 at hf
    unfold jjj1
    intro jjj0
    have hjj0 : ∀ (b127 : Bool) (h128 : Heap), p24_j0 b127 = some r → St h none' [] h128 → jjj0 b127 h128 := by
      rintro b127 h128 hf S
      unfold p24_j0 at hf
      unfold jjj0
      obtain rfl := Option.some.inj hf
      exact ⟨rfl, S.sel [] rfl⟩
    refine bP_intro (fun hc => ?_) (fun hc => ?_)
    · rw [if_pos (show b120 = true from hc)] at hf
      obtain ⟨y133, hy133, hf⟩ := obind hf
      refine ⟨_, Fz.refl _, ?_⟩
      refine (r29 (b0 := u115.2.2) (from1 := (0 : Int)) (to2 := (1 : Int)) (f0_0 := S.pt (r := oBox) (.head _)) hy133).mono fun v131 h132 T => ?_
      obtain ⟨rfl, T⟩ := T
      have S : St h none' [own (oPtr oBox) [v103] u115.2.2] h132 := S.comp T
      refine ⟨y133, rfl, ?_⟩
      have S : St h none' [] h132 := S.sel [] rfl
      exact hjj0 _ _  hf  S
    · rw [if_neg (show ¬ (b120 = true) from by rw [show b120 = false from hc]; exact Bool.false_ne_true)] at hf
      have S : St h none' [] h118 := S.sel [] rfl
      exact hjj0 _ _  hf  S
  refine bP_intro (fun hc => ?_) (fun hc => ?_)
  · rw [if_pos (show u115.2.1 = true from hc)] at hf
    refine ⟨u115.1.E.Time, S.rd1 (.head _) rfl, ?_⟩
    have S : St h none' [own (oPtr oBox) [v103] u115.2.2] h118 := S.sel [1] rfl
    exact hjj1 _ _  hf rfl S
  · rw [if_neg (show ¬ (u115.2.1 = true) from by rw [show u115.2.1 = false from hc]; exact Bool.false_ne_true)] at hf
    have S : St h none' [own (oPtr oBox) [v103] u115.2.2] h118 := S.sel [1] rfl
    exact hjj1 _ _  hf rfl S
/-! 7: marblerun/marblerunlaw18.MailPlays -/
noncomputable def p7_j0 (y1661 : Int) (b1758 : Bool) : Option ((Bool × Int) ⊕ Bool) := some (.inl (b1758, (IntKind.wrap .i64 (y1661 + (1 : Int)))))
noncomputable def p7_j1 (y1661 : Int) (b1776 : Bool) : Option ((Bool × Int) ⊕ Bool) := p7_j0 y1661 b1776
noncomputable def p7_l0 (y119 : (List TLane)) (e1633 : TActlaw18) (y1648 : Int) (st : Bool × Int) : Option ((Bool × Int) ⊕ Bool) := match st with | (y1660, y1661) => if y1661 < (y119.length : Int) then (if y1660 = true then (p7_j0 y1661 true) else ((idx y119 y1661).bind fun e1772 => if e1772.From = y1648 then ((idx y119 y1661).bind fun e1791 => p7_j1 y1661 (decide (e1791.To = (IntKind.wrap .i64 (Int.tmod (IntKind.wrap .u64 e1633.B) (6 : Int)))))) else (p7_j1 y1661 false))) else (some (.inr y1660))
noncomputable def p7_j2 (y2033 : Int) (y2110 : Int) : Option ((Int × Int) ⊕ Int) := some (.inl (y2110, (IntKind.wrap .i64 (y2033 + (1 : Int)))))
noncomputable def p7_j3 (y2032 : Int) (y2033 : Int) (b2088 : Bool) : Option ((Int × Int) ⊕ Int) := if b2088 = true then (p7_j2 y2033 (IntKind.wrap .i64 (y2032 + (1 : Int)))) else (p7_j2 y2033 y2032)
noncomputable def p7_l2 (e1633 : TActlaw18) (y1648 : Int) (y2022 : List TMail) (st : Int × Int) : Option ((Int × Int) ⊕ Int) := match st with | (y2032, y2033) => if y2033 < (y2022.length : Int) then ((idx y2022 y2033).bind fun e2084 => if e2084.From = y1648 then ((idx y2022 y2033).bind fun e2114 => p7_j3 y2032 y2033 (decide (e2114.To = (IntKind.wrap .i64 (Int.tmod (IntKind.wrap .u64 e1633.B) (6 : Int)))))) else (p7_j3 y2032 y2033 false)) else (some (.inr y2032))
noncomputable def p7_j4 (y131 : Int) (y2017 : Int) (l2021 : Option TBox) (y2022 : List TMail) (b2133 : Bool) : Option ((Int × Int × (Option TBox) × (List TMail)) ⊕ (Unit ⊕ Unit)) := if b2133 = true then (some (.inr (.inl ()))) else (some (.inl (y2017, (IntKind.wrap .i64 (y131 + (1 : Int))), l2021, y2022)))
noncomputable def p7_j5 (y131 : Int) (y2017 : Int) (l2021 : Option TBox) (y2022 : List TMail) (b2122 : Bool) : Option ((Int × Int × (Option TBox) × (List TMail)) ⊕ (Unit ⊕ Unit)) := if b2122 = true then (p7_j4 y131 y2017 l2021 y2022 true) else ((p31 l2021).bind fun y2144 => p7_j4 y131 y2017 l2021 y2022 (!decide (y2144 = y2017)))
noncomputable def p7_j6 (y131 : Int) (e1633 : TActlaw18) (y1648 : Int) (y2017 : Int) (l2021 : Option TBox) (y2022 : List TMail) : Option ((Int × Int × (Option TBox) × (List TMail)) ⊕ (Unit ⊕ Unit)) := (loopC (p7_l2 e1633 y1648 y2022) ((0 : Int), (0 : Int))).bind fun res2080 => ((fun (y2077 : Int) => (p29 l2021 y1648 (IntKind.wrap .i64 (Int.tmod (IntKind.wrap .u64 e1633.B) (6 : Int)))).bind fun y2118 => if (!decide (y2118 = y2077)) = true then (p7_j5 y131 y2017 l2021 y2022 true) else ((p30 l2021).bind fun y2148 => p7_j5 y131 y2017 l2021 y2022 (!decide (y2148 = (y2022.length : Int))))) res2080)
noncomputable def p7_j7 (y2174 : Int) (y2251 : Int) : Option ((Int × Int) ⊕ Int) := some (.inl (y2251, (IntKind.wrap .i64 (y2174 - (1 : Int)))))
noncomputable def p7_j8 (y2173 : Int) (y2174 : Int) (b2229 : Bool) : Option ((Int × Int) ⊕ Int) := if b2229 = true then (p7_j7 y2174 y2174) else (p7_j7 y2174 y2173)
noncomputable def p7_l1 (y873 : List TMail) (e1633 : TActlaw18) (y1648 : Int) (st : Int × Int) : Option ((Int × Int) ⊕ Int) := match st with | (y2173, y2174) => if (0 : Int) ≤ y2174 then ((idx y873 y2174).bind fun e2225 => if e2225.From = y1648 then ((idx y873 y2174).bind fun e2255 => p7_j8 y2173 y2174 (decide (e2255.To = (IntKind.wrap .i64 (Int.tmod (IntKind.wrap .u64 e1633.B) (6 : Int)))))) else (p7_j8 y2173 y2174 false)) else (some (.inr y2173))
noncomputable def p7_j9 (y130 : Int) (y131 : Int) (y873 : List TMail) (e1633 : TActlaw18) (y1648 : Int) (y2218 : Int) (u2259 : TMail × Bool × (Option TBox)) (b2310 : Bool) : Option ((Int × Int × (Option TBox) × (List TMail)) ⊕ (Unit ⊕ Unit)) := if b2310 = true then (some (.inr (.inl ()))) else (if u2259.2.1 = true then ((slc y873 (0 : Int) y2218).bind fun y2322 => (app 40 [] y2322).bind fun y2323 => (slc y873 (IntKind.wrap .i64 (y2218 + (1 : Int))) (y873.length : Int)).bind fun y2328 => (app 40 y2323 y2328).bind fun y2331 => p7_j6 y131 e1633 y1648 y130 u2259.2.2 y2331) else (p7_j6 y131 e1633 y1648 y130 u2259.2.2 y873))
noncomputable def p7_j10 (y130 : Int) (y131 : Int) (y873 : List TMail) (e1633 : TActlaw18) (y1648 : Int) (y2218 : Int) (u2259 : TMail × Bool × (Option TBox)) (b2334 : Bool) : Option ((Int × Int × (Option TBox) × (List TMail)) ⊕ (Unit ⊕ Unit)) := p7_j9 y130 y131 y873 e1633 y1648 y2218 u2259 b2334
noncomputable def p7_j11 (y130 : Int) (y131 : Int) (y873 : List TMail) (e1633 : TActlaw18) (y1648 : Int) (y2218 : Int) (u2259 : TMail × Bool × (Option TBox)) (b2283 : Bool) : Option ((Int × Int × (Option TBox) × (List TMail)) ⊕ (Unit ⊕ Unit)) := if b2283 = true then (p7_j9 y130 y131 y873 e1633 y1648 y2218 u2259 true) else (if (!u2259.2.1) = true then (p7_j10 y130 y131 y873 e1633 y1648 y2218 u2259 (!((decide (u2259.1.From = (0 : Int))) && ((decide (u2259.1.To = (0 : Int))) && ((decide (u2259.1.E.Time = (0 : Int))) && ((decide (u2259.1.E.Place = (0 : Int))) && ((decide (u2259.1.E.N = (0 : Int))) && true))))))) else (p7_j10 y130 y131 y873 e1633 y1648 y2218 u2259 false))
noncomputable def p7_j12 (y130 : Int) (y131 : Int) (y873 : List TMail) (e1633 : TActlaw18) (y1648 : Int) (y2218 : Int) (u2259 : TMail × Bool × (Option TBox)) (b2351 : Bool) : Option ((Int × Int × (Option TBox) × (List TMail)) ⊕ (Unit ⊕ Unit)) := p7_j11 y130 y131 y873 e1633 y1648 y2218 u2259 b2351
noncomputable def p7_j13 (y119 : (List TLane)) (y130 : Int) (y131 : Int) (l872 : Option TBox) (y873 : List TMail) (e1633 : TActlaw18) (y1648 : Int) : Option ((Int × Int × (Option TBox) × (List TMail)) ⊕ (Unit ⊕ Unit)) := (loopC (p7_l0 y119 e1633 y1648) (false, (0 : Int))).bind fun res1733 => ((fun (y1730 : Bool) => if (Int.tmod e1633.K (5 : Int)) < (3 : Int) then ((p27 l872 (TMail.mk y1648 (IntKind.wrap .i64 (Int.tmod (IntKind.wrap .u64 e1633.B) (6 : Int))) (TEvent.mk e1633.E.Time e1633.E.Place e1633.E.N))).bind fun u2156 => if (!(u2156.1 == y1730)) = true then (some (.inr (.inl ()))) else (if y1730 = true then ((app 40 y873 [(TMail.mk y1648 (IntKind.wrap .i64 (Int.tmod (IntKind.wrap .u64 e1633.B) (6 : Int))) (TEvent.mk e1633.E.Time e1633.E.Place e1633.E.N))]).bind fun y2161 => p7_j6 y131 e1633 y1648 (IntKind.wrap .i64 (y130 + (1 : Int))) u2156.2 y2161) else (p7_j6 y131 e1633 y1648 y130 u2156.2 y873))) else ((loopC (p7_l1 y873 e1633 y1648) (((-1) : Int), (IntKind.wrap .i64 ((y873.length : Int) - (1 : Int))))).bind fun res2221 => ((fun (y2218 : Int) => (p28 l872 y1648 (IntKind.wrap .i64 (Int.tmod (IntKind.wrap .u64 e1633.B) (6 : Int)))).bind fun u2259 => if (!(u2259.2.1 == (decide ((0 : Int) ≤ y2218)))) = true then (p7_j11 y130 y131 y873 e1633 y1648 y2218 u2259 true) else (if u2259.2.1 = true then ((idx y873 y2218).bind fun e2366 => p7_j12 y130 y131 y873 e1633 y1648 y2218 u2259 (!((decide (u2259.1.From = e2366.From)) && ((decide (u2259.1.To = e2366.To)) && ((decide (u2259.1.E.Time = e2366.E.Time)) && ((decide (u2259.1.E.Place = e2366.E.Place)) && ((decide (u2259.1.E.N = e2366.E.N)) && true))))))) else (p7_j12 y130 y131 y873 e1633 y1648 y2218 u2259 false))) res2221))) res1733)
noncomputable def p7_l3 (x1 : List TActlaw18) (y119 : (List TLane)) (st : Int × Int × (Option TBox) × (List TMail)) : Option ((Int × Int × (Option TBox) × (List TMail)) ⊕ (Unit ⊕ Unit)) := match st with | (y130, y131, l872, y873) => if y131 < (x1.length : Int) then ((idx x1 y131).bind fun e1633 => if (200 : Int) ≤ e1633.K then (p7_j13 y119 y130 y131 l872 y873 e1633 e1633.A) else (p7_j13 y119 y130 y131 l872 y873 e1633 (IntKind.wrap .i64 (Int.tmod (IntKind.wrap .u64 e1633.A) (6 : Int))))) else (some (.inr (.inr ())))
noncomputable def p7_j14 (x0 : List Int) (x1 : List TActlaw18) (b109 : Bool) : Option Bool := if b109 = true then ((p24 ).bind fun y116 => some y116) else ((p25 x0).bind fun y119 => (p26 y119).bind fun y123 => (loopC (p7_l3 x1 y119) ((0 : Int), (0 : Int), y123, [])).bind fun res1629 => (match res1629 with | .inl _ => some false | .inr _ => some true))
noncomputable def p7_j15 (x0 : List Int) (x1 : List TActlaw18) (b104 : Bool) : Option Bool := if b104 = true then (p7_j14 x0 x1 true) else (p7_j14 x0 x1 (decide ((50 : Int) < (x1.length : Int))))
noncomputable def p7 (x0 : List Int) (x1 : List TActlaw18) : Option Bool := (p24 ).bind fun y103 => if (!y103) = true then (p7_j15 x0 x1 true) else (p7_j15 x0 x1 (decide ((12 : Int) < (x0.length : Int))))
theorem r7 {h : Heap} {a0_0 : AV} {a1_0 : AV} {x0 : List Int} {x1 : List TActlaw18} (f0_0 : SlR (rI .u8) (Snap h) a0_0 x0) (f1_0 : SlR rActlaw18 (Snap h) a1_0 x1) {r : Bool} (hf : p7 x0 x1 = some r) : ZCalls F 7 [a0_0, a1_0] h fun v h' => v = .bool r ∧ St h none' [] h' := by
  refine w7 ?_
  unfold W7
  unfold p7 at hf
  have S : St h none' [] h := St.refl _ _
  obtain ⟨y103, hy103, hf⟩ := obind hf
  refine ⟨_, Fz.refl _, ?_⟩
  refine (r24  hy103).mono fun v101 h102 T => ?_
  obtain ⟨rfl, T⟩ := T
  have S : St h none' [] h102 := S.comp T
  refine ⟨y103, rfl, ?_⟩
  intro jjj15
  have hjj15 : ∀ (b104 : Bool) (h105 : Heap), p7_j15 x0 x1 b104 = some r → h102 = h105 → St h none' [] h102 → jjj15 b104 h105 := by
    rintro b104 h105 hf rfl S
    unfold p7_j15 at hf
    unfold jjj15
    intro jjj14
    have hjj14 : ∀ (b109 : Bool) (h110 : Heap), p7_j14 x0 x1 b109 = some r → h102 = h110 → St h none' [] h102 → jjj14 b109 h110 := by
      rintro b109 h110 hf rfl S
      unfold p7_j14 at hf
      unfold jjj14
      refine bP_intro (fun hc => ?_) (fun hc => ?_)
      · rw [if_pos (show b109 = true from hc)] at hf
        obtain ⟨y116, hy116, hf⟩ := obind hf
        refine ⟨_, Fz.refl _, ?_⟩
        refine (r24  hy116).mono fun v114 h115 T => ?_
        obtain ⟨rfl, T⟩ := T
        have S : St h none' [] h115 := S.comp T
        refine ⟨y116, rfl, ?_⟩
        obtain rfl := Option.some.inj hf
        exact ⟨rfl, S.sel [] rfl⟩
      · rw [if_neg (show ¬ (b109 = true) from by rw [show b109 = false from hc]; exact Bool.false_ne_true)] at hf
        obtain ⟨y119, hy119, hf⟩ := obind hf
        refine ⟨_, Fz.refl _, ?_⟩
        refine (r25 (l0 := x0) (f0_0 := (SlR.mono (snap_mono S.le) f0_0)) hy119).mono fun v117 h118 T => ?_
        have S : St h none' [own (oSl (fz rLane)) [v117] y119] h118 := S.comp T
        obtain ⟨y123, hy123, hf⟩ := obind hf
        refine ⟨_, Fz.refl _, ?_⟩
        refine (r26 (lanes0 := y119) (f0_0 := (S.sl (r := (fz rLane)) (.head _))) hy123).mono fun v121 h122 T => ?_
        have S : St h none' [own (oPtr oBox) [v121] y123, own (oSl (fz rLane)) [v117] y119] h122 := S.comp T
        obtain ⟨res1629, hL, hf⟩ := obind hf
        obtain ⟨n1630, hL⟩ := loopC_iff.1 hL
        have S : St h none' [own (oSl (fz rMail)) [.nilSlice] [], own (oPtr oBox) [v121] y123, own (oSl (fz rLane)) [v117] y119] h122 := S.addE (oSl_nil _ _)
        have S : St h none' [own (oSl (fz rLane)) [v117] y119, own (oPtr oBox) [v121] y123, own (oSl (fz rMail)) [.nilSlice] []] h122 := S.sel [2, 1, 0] rfl
        refine loopm7_3 (R := fun (y1613 : AV) (y1614 : Bool) (y1615 : AV) (y1616 : AV) (y1617 : AV) (y1618 : Int) (y1619 : Int) (h1620 : Heap) => false = y1614 ∧ St h none' [] h1620 ∧ (.inl ()) = res1629) (X0 := fun (y1621 : AV) (y1622 : Bool) (y1623 : AV) (y1624 : AV) (y1625 : AV) (y1626 : Int) (y1627 : Int) (h1628 : Heap) => St h none' [] h1628 ∧ (.inr ()) = res1629) ?_ ?_ (loop7_3 (I := fun (m1632 : Nat) (y125 : AV) (y126 : Bool) (y127 : AV) (y128 : AV) (y129 : AV) (y130 : Int) (y131 : Int) (h871 : Heap) => ∃ (l872 : Option TBox), ∃ (y873 : List TMail), a1_0 = y125 ∧ v117 = y127 ∧ v121 = y128 ∧ St h none' [own (oSl (fz rLane)) [v117] y119, own (oPtr oBox) [v121] l872, own (oSl (fz rMail)) [y129] y873] h871 ∧ iter (p7_l3 x1 y119) m1632 (y130, y131, l872, y873) = some res1629) ?_ (m := n1630) ?_)
        · rintro y1613 y1614 y1615 y1616 y1617 y1618 y1619 h1620 ⟨rfl, S, rfl⟩
          try dsimp only at hf
          obtain rfl := Option.some.inj hf
          exact ⟨rfl, S.sel [] rfl⟩
        · rintro y1621 y1622 y1623 y1624 y1625 y1626 y1627 h1628 ⟨S, rfl⟩
          try dsimp only at hf
          obtain rfl := Option.some.inj hf
          exact ⟨rfl, S.sel [] rfl⟩
        · rintro m16320 y125 y126 y127 y128 y129 y130 y131 h871 ⟨l872, y873, rfl, rfl, rfl, S, hit⟩
          obtain ⟨m1632, q1631, rfl, hf, hk⟩ := iter_some hit
          clear hit
          unfold B7_3
          unfold p7_l3 at hf
          try dsimp only at hf
          refine ifP_iff.2 ⟨(f1_0).is, ?_⟩
          try rw [(f1_0).slen]
          refine bP_intro (fun hc => ?_) (fun hc => ?_)
          · rw [if_pos (show y131 < (x1.length : Int) from of_decide_eq_true hc)] at hf
            obtain ⟨e1633, he1633, hf⟩ := obind hf
            obtain ⟨qe1633, q0e1633, q1e1633⟩ := SlR.ix f1_0 he1633
            have pe1633 := (SlR.idx f1_0 (snap_mono S.le) he1633).1
            refine ifP_iff.2 ⟨qe1633, q0e1633, (by first | exact q1e1633 | exact (idx_lt he1633).2), ?_⟩
            obtain ⟨_, cr1634, Rr1634, Nr1634, Or1634, Zr1634⟩ := SlR.idx f1_0 (snap_mono S.le) he1633
            obtain rfl := rActlaw18_open Rr1634
            refine ⟨(.int .u8 e1633.K), (.int .i64 e1633.A), (.int .i64 e1633.B), (.int .i64 e1633.E.Time), (.int .i64 e1633.E.Place), (.int .i64 e1633.E.N), Nr1634, ?_⟩
            intro h1635
            have S : St h none' [rowC h871.n [(.int .u8 (0 : Int)), (.int .i64 (0 : Int)), (.int .i64 (0 : Int)), (.int .i64 (0 : Int)), (.int .i64 (0 : Int)), (.int .i64 (0 : Int))] 0, own (oSl (fz rLane)) [v117] y119, own (oPtr oBox) [v121] l872, own (oSl (fz rMail)) [y129] y873] h1635 := S.pushRow [(.int .u8 (0 : Int)), (.int .i64 (0 : Int)), (.int .i64 (0 : Int)), (.int .i64 (0 : Int)), (.int .i64 (0 : Int)), (.int .i64 (0 : Int))]
            obtain ⟨h1637, e1638, S⟩ := S.store (off := 0) (n := 6) (x := (.agg [(.int .u8 e1633.K), (.int .i64 e1633.A), (.int .i64 e1633.B), (.int .i64 e1633.E.Time), (.int .i64 e1633.E.Place), (.int .i64 e1633.E.N)])) (cs' := [(.int .u8 e1633.K), (.int .i64 e1633.A), (.int .i64 e1633.B), (.int .i64 e1633.E.Time), (.int .i64 e1633.E.Place), (.int .i64 e1633.E.N)]) (Nat.le_of_ble_eq_true rfl) rfl rfl rfl
            have S : St h none' [rowC h871.n [(.int .u8 e1633.K), (.int .i64 e1633.A), (.int .i64 e1633.B), (.int .i64 e1633.E.Time), (.int .i64 e1633.E.Place), (.int .i64 e1633.E.N)] 0, own (oSl (fz rLane)) [v117] y119, own (oPtr oBox) [v121] l872, own (oSl (fz rMail)) [y129] y873] h1637 := S
            refine ⟨h1637, e1638, ?_⟩
            refine ⟨e1633.A, S.rd1 (.head _) rfl, ?_⟩
            refine ⟨e1633.B, S.rd1 (.head _) rfl, ?_⟩
            refine ⟨e1633.K, S.rd1 (.head _) rfl, ?_⟩
            intro jjj13
            have hjj13 : ∀ (y1648 : Int) (h1639 : Heap) , p7_j13 y119 y130 y131 l872 y873 e1633 y1648 = some q1631 → St h none' [own (oSl (fz rLane)) [v117] y119, own (oPtr oBox) [v121] l872, own (oSl (fz rMail)) [y129] y873, rowC h871.n [(.int .u8 e1633.K), (.int .i64 e1633.A), (.int .i64 e1633.B), (.int .i64 e1633.E.Time), (.int .i64 e1633.E.Place), (.int .i64 e1633.E.N)] 0] h1639 → jjj13 y1648 h1639 := by
              rintro y1648 h1639 hf S
              unfold p7_j13 at hf
              unfold jjj13
              obtain ⟨res1733, hL, hf⟩ := obind hf
              obtain ⟨n1734, hL⟩ := loopC_iff.1 hL
              refine loopm7_0 (X2 := fun (y1720 : AV) (y1721 : Bool) (y1722 : AV) (y1723 : AV) (y1724 : AV) (y1725 : Int) (y1726 : Int) (y1727 : AV) (y1728 : Int) (y1729 : Int) (y1730 : Bool) (y1731 : Int) (h1732 : Heap) => a1_0 = y1720 ∧ v117 = y1722 ∧ v121 = y1723 ∧ y129 = y1724 ∧ y130 = y1725 ∧ y131 = y1726 ∧ AV.ptr h871.n 0 0 = y1727 ∧ y1648 = y1728 ∧ (IntKind.wrap .i64 (Int.tmod (IntKind.wrap .u64 e1633.B) (6 : Int))) = y1729 ∧ St h none' [own (oSl (fz rLane)) [v117] y119, own (oPtr oBox) [v121] l872, own (oSl (fz rMail)) [y129] y873, rowC h871.n [(.int .u8 e1633.K), (.int .i64 e1633.A), (.int .i64 e1633.B), (.int .i64 e1633.E.Time), (.int .i64 e1633.E.Place), (.int .i64 e1633.E.N)] 0] h1732 ∧ y1730 = res1733) ?_ (loop7_0 (I := fun (m1736 : Nat) (y1650 : AV) (y1651 : Bool) (y1652 : AV) (y1653 : AV) (y1654 : AV) (y1655 : Int) (y1656 : Int) (y1657 : AV) (y1658 : Int) (y1659 : Int) (y1660 : Bool) (y1661 : Int) (h1662 : Heap) => a1_0 = y1650 ∧ v117 = y1652 ∧ v121 = y1653 ∧ y129 = y1654 ∧ y130 = y1655 ∧ y131 = y1656 ∧ AV.ptr h871.n 0 0 = y1657 ∧ y1648 = y1658 ∧ (IntKind.wrap .i64 (Int.tmod (IntKind.wrap .u64 e1633.B) (6 : Int))) = y1659 ∧ St h none' [own (oSl (fz rLane)) [v117] y119, own (oPtr oBox) [v121] l872, own (oSl (fz rMail)) [y129] y873, rowC h871.n [(.int .u8 e1633.K), (.int .i64 e1633.A), (.int .i64 e1633.B), (.int .i64 e1633.E.Time), (.int .i64 e1633.E.Place), (.int .i64 e1633.E.N)] 0] h1662 ∧ iter (p7_l0 y119 e1633 y1648) m1736 (y1660, y1661) = some res1733) ?_ (m := n1734) ?_)
              · rintro y1720 y1721 y1722 y1723 y1724 y1725 y1726 y1727 y1728 y1729 y1730 y1731 h1732 ⟨rfl, rfl, rfl, rfl, rfl, rfl, rfl, rfl, rfl, S, rfl⟩
                try dsimp only at hf
                refine ifP_iff.2 ⟨rfl, ?_⟩
                refine ⟨e1633.K, S.rd1 (.tail _ (.tail _ (.tail _ (.head _)))) rfl, ?_⟩
                intro jjj6
                have hjj6 : ∀ (y2012 : AV) (y2013 : Bool) (y2014 : AV) (y2015 : AV) (y2016 : AV) (y2017 : Int) (y2018 : Int) (y2019 : Int) (y2020 : Int) (h2011 : Heap) (l2021 : Option TBox) (y2022 : List TMail), p7_j6 y131 e1633 y1648 y2017 l2021 y2022 = some q1631 → a1_0 = y2012 → v117 = y2014 → v121 = y2015 → y131 = y2018 → y1648 = y2019 → (IntKind.wrap .i64 (Int.tmod (IntKind.wrap .u64 e1633.B) (6 : Int))) = y2020 → St h none' [own (oSl (fz rLane)) [v117] y119, own (oPtr oBox) [v121] l2021, own (oSl (fz rMail)) [y2016] y2022] h2011 → jjj6 y2012 y2013 y2014 y2015 y2016 y2017 y2018 y2019 y2020 h2011 := by
                  rintro y2012 y2013 y2014 y2015 y2016 y2017 y2018 y2019 y2020 h2011 l2021 y2022 hf rfl rfl rfl rfl rfl rfl S
                  unfold p7_j6 at hf
                  unfold jjj6
                  obtain ⟨res2080, hL, hf⟩ := obind hf
                  obtain ⟨n2081, hL⟩ := loopC_iff.1 hL
                  refine loopm7_2 (X6 := fun (y2068 : AV) (y2069 : Bool) (y2070 : AV) (y2071 : AV) (y2072 : AV) (y2073 : Int) (y2074 : Int) (y2075 : Int) (y2076 : Int) (y2077 : Int) (y2078 : Int) (h2079 : Heap) => a1_0 = y2068 ∧ v117 = y2070 ∧ v121 = y2071 ∧ y2016 = y2072 ∧ y2017 = y2073 ∧ y131 = y2074 ∧ y1648 = y2075 ∧ (IntKind.wrap .i64 (Int.tmod (IntKind.wrap .u64 e1633.B) (6 : Int))) = y2076 ∧ St h none' [own (oSl (fz rLane)) [v117] y119, own (oPtr oBox) [v121] l2021, own (oSl (fz rMail)) [y2016] y2022] h2079 ∧ y2077 = res2080) ?_ (loop7_2 (I := fun (m2083 : Nat) (y2023 : AV) (y2024 : Bool) (y2025 : AV) (y2026 : AV) (y2027 : AV) (y2028 : Int) (y2029 : Int) (y2030 : Int) (y2031 : Int) (y2032 : Int) (y2033 : Int) (h2034 : Heap) => a1_0 = y2023 ∧ v117 = y2025 ∧ v121 = y2026 ∧ y2016 = y2027 ∧ y2017 = y2028 ∧ y131 = y2029 ∧ y1648 = y2030 ∧ (IntKind.wrap .i64 (Int.tmod (IntKind.wrap .u64 e1633.B) (6 : Int))) = y2031 ∧ St h none' [own (oSl (fz rLane)) [v117] y119, own (oPtr oBox) [v121] l2021, own (oSl (fz rMail)) [y2016] y2022] h2034 ∧ iter (p7_l2 e1633 y1648 y2022) m2083 (y2032, y2033) = some res2080) ?_ (m := n2081) ?_)
                  · rintro y2068 y2069 y2070 y2071 y2072 y2073 y2074 y2075 y2076 y2077 y2078 h2079 ⟨rfl, rfl, rfl, rfl, rfl, rfl, rfl, rfl, S, rfl⟩
                    try dsimp only at hf
                    obtain ⟨y2118, hy2118, hf⟩ := obind hf
                    refine ⟨_, Fz.refl _, ?_⟩
                    refine (r29 (b0 := l2021) (from1 := y1648) (to2 := (IntKind.wrap .i64 (Int.tmod (IntKind.wrap .u64 e1633.B) (6 : Int)))) (f0_0 := S.pt (r := oBox) (.tail _ (.head _))) hy2118).mono fun v2116 h2117 T => ?_
                    obtain ⟨rfl, T⟩ := T
                    have S : St h none' [own (oSl (fz rLane)) [v117] y119, own (oPtr oBox) [v121] l2021, own (oSl (fz rMail)) [y2016] y2022] h2117 := S.comp T
                    refine ⟨y2118, rfl, ?_⟩
                    intro jjj5
                    have hjj5 : ∀ (b2122 : Bool) (h2123 : Heap), p7_j5 y131 y2017 l2021 y2022 b2122 = some q1631 → St h none' [own (oSl (fz rLane)) [v117] y119, own (oPtr oBox) [v121] l2021, own (oSl (fz rMail)) [y2016] y2022] h2123 → jjj5 b2122 h2123 := by
                      rintro b2122 h2123 hf S
                      unfold p7_j5 at hf
                      unfold jjj5
                      intro jjj4
                      have hjj4 : ∀ (b2133 : Bool) (h2134 : Heap), p7_j4 y131 y2017 l2021 y2022 b2133 = some q1631 → St h none' [own (oSl (fz rLane)) [v117] y119, own (oPtr oBox) [v121] l2021, own (oSl (fz rMail)) [y2016] y2022] h2134 → jjj4 b2133 h2134 := by
                        rintro b2133 h2134 hf S
                        unfold p7_j4 at hf
                        unfold jjj4
                        refine bP_intro (fun hc => ?_) (fun hc => ?_)
                        · rw [if_pos (show b2133 = true from hc)] at hf
                          have S : St h none' [] h2134 := S.sel [] rfl
                          obtain rfl := Option.some.inj hf
                          obtain rfl := hk
                          exact ⟨rfl, S, rfl⟩
                        · rw [if_neg (show ¬ (b2133 = true) from by rw [show b2133 = false from hc]; exact Bool.false_ne_true)] at hf
                          obtain rfl := Option.some.inj hf
                          exact ⟨m1632, Nat.lt_succ_self _, l2021, y2022, rfl, rfl, rfl, S, hk⟩
                      refine bP_intro (fun hc => ?_) (fun hc => ?_)
                      · rw [if_pos (show b2122 = true from hc)] at hf
                        exact hjj4 _ _  hf  S
                      · rw [if_neg (show ¬ (b2122 = true) from by rw [show b2122 = false from hc]; exact Bool.false_ne_true)] at hf
                        obtain ⟨y2144, hy2144, hf⟩ := obind hf
                        refine ⟨_, Fz.refl _, ?_⟩
                        refine (r31 (b0 := l2021) (f0_0 := S.pt (r := oBox) (.tail _ (.head _))) hy2144).mono fun v2142 h2143 T => ?_
                        obtain ⟨rfl, T⟩ := T
                        have S : St h none' [own (oSl (fz rLane)) [v117] y119, own (oPtr oBox) [v121] l2021, own (oSl (fz rMail)) [y2016] y2022] h2143 := S.comp T
                        refine ⟨y2144, rfl, ?_⟩
                        exact hjj4 _ _  hf  S
                    refine bP_intro (fun hc => ?_) (fun hc => ?_)
                    · rw [if_pos (show (!decide (y2118 = y2077)) = true from hc)] at hf
                      exact hjj5 _ _  hf  S
                    · rw [if_neg (show ¬ ((!decide (y2118 = y2077)) = true) from by rw [show (!decide (y2118 = y2077)) = false from hc]; exact Bool.false_ne_true)] at hf
                      obtain ⟨y2148, hy2148, hf⟩ := obind hf
                      refine ⟨_, Fz.refl _, ?_⟩
                      refine (r30 (b0 := l2021) (f0_0 := S.pt (r := oBox) (.tail _ (.head _))) hy2148).mono fun v2146 h2147 T => ?_
                      obtain ⟨rfl, T⟩ := T
                      have S : St h none' [own (oSl (fz rLane)) [v117] y119, own (oPtr oBox) [v121] l2021, own (oSl (fz rMail)) [y2016] y2022] h2147 := S.comp T
                      refine ⟨y2148, rfl, ?_⟩
                      refine ifP_iff.2 ⟨((S.sl (r := (fz rMail)) (.tail _ (.tail _ (.head _))))).is, ?_⟩
                      try rw [((S.sl (r := (fz rMail)) (.tail _ (.tail _ (.head _))))).slen]
                      exact hjj5 _ _  hf  S
                  · rintro m20830 y2023 y2024 y2025 y2026 y2027 y2028 y2029 y2030 y2031 y2032 y2033 h2034 ⟨rfl, rfl, rfl, rfl, rfl, rfl, rfl, rfl, S, hit⟩
                    obtain ⟨m2083, q2082, rfl, hf, hk⟩ := iter_some hit
                    clear hit
                    unfold B7_2
                    unfold p7_l2 at hf
                    try dsimp only at hf
                    refine ifP_iff.2 ⟨((S.sl (r := (fz rMail)) (.tail _ (.tail _ (.head _))))).is, ?_⟩
                    try rw [((S.sl (r := (fz rMail)) (.tail _ (.tail _ (.head _))))).slen]
                    refine bP_intro (fun hc => ?_) (fun hc => ?_)
                    · rw [if_pos (show y2033 < (y2022.length : Int) from of_decide_eq_true hc)] at hf
                      obtain ⟨e2084, he2084, hf⟩ := obind hf
                      obtain ⟨qe2084, q0e2084, q1e2084⟩ := SlR.ix (S.sl (r := (fz rMail)) (.tail _ (.tail _ (.head _)))) he2084
                      have pe2084 := (SlR.idx (S.sl (r := (fz rMail)) (.tail _ (.tail _ (.head _)))) (Hp.le_refl _) he2084).1
                      refine ifP_iff.2 ⟨qe2084, q0e2084, (by first | exact q1e2084 | exact (idx_lt he2084).2), ?_⟩
                      refine ifP_iff.2 ⟨pe2084, ?_⟩
                      obtain ⟨_, cr2085, Rr2085, Nr2085, Or2085, Zr2085⟩ := St.idxO (r := rMail) S (.tail _ (.tail _ (.head _))) he2084
                      obtain rfl := rMail_open Rr2085
                      refine ⟨e2084.From, Or2085 0 _ rfl, ?_⟩
                      intro jjj3
                      have hjj3 : ∀ (b2088 : Bool) (h2089 : Heap), p7_j3 y2032 y2033 b2088 = some q2082 → h2034 = h2089 → St h none' [own (oSl (fz rLane)) [v117] y119, own (oPtr oBox) [v121] l2021, own (oSl (fz rMail)) [y2016] y2022] h2034 → jjj3 b2088 h2089 := by
                        rintro b2088 h2089 hf rfl S
                        unfold p7_j3 at hf
                        unfold jjj3
                        intro jjj2
                        have hjj2 : ∀ (y2110 : Int) (h2100 : Heap) , p7_j2 y2033 y2110 = some q2082 → St h none' [own (oSl (fz rLane)) [v117] y119, own (oPtr oBox) [v121] l2021, own (oSl (fz rMail)) [y2016] y2022] h2100 → jjj2 y2110 h2100 := by
                          rintro y2110 h2100 hf S
                          unfold p7_j2 at hf
                          unfold jjj2
                          obtain rfl := Option.some.inj hf
                          exact ⟨m2083, Nat.lt_succ_self _, rfl, rfl, rfl, rfl, rfl, rfl, rfl, rfl, S, hk⟩
                        refine bP_intro (fun hc => ?_) (fun hc => ?_)
                        · rw [if_pos (show b2088 = true from hc)] at hf
                          exact hjj2 _ _  hf  S
                        · rw [if_neg (show ¬ (b2088 = true) from by rw [show b2088 = false from hc]; exact Bool.false_ne_true)] at hf
                          exact hjj2 _ _  hf  S
                      refine bP_intro (fun hc => ?_) (fun hc => ?_)
                      · rw [if_pos (show e2084.From = y1648 from of_decide_eq_true hc)] at hf
                        obtain ⟨e2114, he2114, hf⟩ := obind hf
                        obtain ⟨qe2114, q0e2114, q1e2114⟩ := SlR.ix (S.sl (r := (fz rMail)) (.tail _ (.tail _ (.head _)))) he2114
                        have pe2114 := (SlR.idx (S.sl (r := (fz rMail)) (.tail _ (.tail _ (.head _)))) (Hp.le_refl _) he2114).1
                        refine ifP_iff.2 ⟨qe2114, q0e2114, (by first | exact q1e2114 | exact (idx_lt he2114).2), ?_⟩
                        refine ifP_iff.2 ⟨pe2114, ?_⟩
                        obtain ⟨_, cr2115, Rr2115, Nr2115, Or2115, Zr2115⟩ := St.idxO (r := rMail) S (.tail _ (.tail _ (.head _))) he2114
                        obtain rfl := rMail_open Rr2115
                        refine ⟨e2114.To, Or2115 1 _ rfl, ?_⟩
                        exact hjj3 _ _  hf rfl S
                      · rw [if_neg (show ¬ (e2084.From = y1648) from of_decide_eq_false hc)] at hf
                        exact hjj3 _ _  hf rfl S
                    · rw [if_neg (show ¬ (y2033 < (y2022.length : Int)) from of_decide_eq_false hc)] at hf
                      obtain rfl := Option.some.inj hf
                      obtain rfl := hk
                      exact ⟨rfl, rfl, rfl, rfl, rfl, rfl, rfl, rfl, S, rfl⟩
                  · exact ⟨rfl, rfl, rfl, rfl, rfl, rfl, rfl, rfl, S, hL⟩
                refine bP_intro (fun hc => ?_) (fun hc => ?_)
                · rw [if_pos (show (Int.tmod e1633.K (5 : Int)) < (3 : Int) from of_decide_eq_true hc)] at hf
                  refine ifP_iff.2 ⟨rfl, ?_⟩
                  refine ⟨(.int .i64 e1633.E.Time), (.int .i64 e1633.E.Place), (.int .i64 e1633.E.N), S.rdN (.tail _ (.tail _ (.tail _ (.head _)))) (Nat.le_of_ble_eq_true rfl) rfl, ?_⟩
                  intro h2150
                  have S : St h none' [rowC h1732.n [(.int .i64 (0 : Int)), (.int .i64 (0 : Int)), (.int .i64 (0 : Int)), (.int .i64 (0 : Int)), (.int .i64 (0 : Int))] 0, own (oSl (fz rLane)) [v117] y119, own (oPtr oBox) [v121] l872, own (oSl (fz rMail)) [y129] y873, rowC h871.n [(.int .u8 e1633.K), (.int .i64 e1633.A), (.int .i64 e1633.B), (.int .i64 e1633.E.Time), (.int .i64 e1633.E.Place), (.int .i64 e1633.E.N)] 0] h2150 := S.pushRow [(.int .i64 (0 : Int)), (.int .i64 (0 : Int)), (.int .i64 (0 : Int)), (.int .i64 (0 : Int)), (.int .i64 (0 : Int))]
                  obtain ⟨h2152, e2153, S⟩ := S.store (off := 0) (n := 5) (x := (.agg [(.int .i64 y1648), (.int .i64 (IntKind.wrap .i64 (Int.tmod (IntKind.wrap .u64 e1633.B) (6 : Int)))), (.int .i64 e1633.E.Time), (.int .i64 e1633.E.Place), (.int .i64 e1633.E.N)])) (cs' := [(.int .i64 y1648), (.int .i64 (IntKind.wrap .i64 (Int.tmod (IntKind.wrap .u64 e1633.B) (6 : Int)))), (.int .i64 e1633.E.Time), (.int .i64 e1633.E.Place), (.int .i64 e1633.E.N)]) (Nat.le_of_ble_eq_true rfl) rfl rfl rfl
                  have S : St h none' [rowC h1732.n [(.int .i64 y1648), (.int .i64 (IntKind.wrap .i64 (Int.tmod (IntKind.wrap .u64 e1633.B) (6 : Int)))), (.int .i64 e1633.E.Time), (.int .i64 e1633.E.Place), (.int .i64 e1633.E.N)] 0, own (oSl (fz rLane)) [v117] y119, own (oPtr oBox) [v121] l872, own (oSl (fz rMail)) [y129] y873, rowC h871.n [(.int .u8 e1633.K), (.int .i64 e1633.A), (.int .i64 e1633.B), (.int .i64 e1633.E.Time), (.int .i64 e1633.E.Place), (.int .i64 e1633.E.N)] 0] h2152 := S
                  refine ⟨h2152, e2153, ?_⟩
                  refine ⟨(.int .i64 y1648), (.int .i64 (IntKind.wrap .i64 (Int.tmod (IntKind.wrap .u64 e1633.B) (6 : Int)))), (.int .i64 e1633.E.Time), (.int .i64 e1633.E.Place), (.int .i64 e1633.E.N), S.rdN (.head _) (Nat.le_of_ble_eq_true rfl) rfl, ?_⟩
                  obtain ⟨u2156, hu2156, hf⟩ := obind hf
                  refine ⟨_, Fz.refl _, ?_⟩
                  have S : St h none' [own (oPtr oBox) [v121] l872, rowC h1732.n [(.int .i64 y1648), (.int .i64 (IntKind.wrap .i64 (Int.tmod (IntKind.wrap .u64 e1633.B) (6 : Int)))), (.int .i64 e1633.E.Time), (.int .i64 e1633.E.Place), (.int .i64 e1633.E.N)] 0, own (oSl (fz rLane)) [v117] y119, own (oSl (fz rMail)) [y129] y873, rowC h871.n [(.int .u8 e1633.K), (.int .i64 e1633.A), (.int .i64 e1633.B), (.int .i64 e1633.E.Time), (.int .i64 e1633.E.Place), (.int .i64 e1633.E.N)] 0] h2152 := S.sel [2, 0, 1, 3, 4] rfl
                  obtain ⟨fpu2156, S1u2156, backu2156⟩ := St.lend [_] S
                  refine (r27 (b0 := l872) (m1 := (TMail.mk y1648 (IntKind.wrap .i64 (Int.tmod (IntKind.wrap .u64 e1633.B) (6 : Int))) (TEvent.mk e1633.E.Time e1633.E.Place e1633.E.N))) (S := S1u2156) hu2156).mono fun v2154 h2155 T => ?_
                  obtain ⟨rfl, T⟩ := T
                  have S : St h none' [own (oPtr oBox) [v121] u2156.2, rowC h1732.n [(.int .i64 y1648), (.int .i64 (IntKind.wrap .i64 (Int.tmod (IntKind.wrap .u64 e1633.B) (6 : Int)))), (.int .i64 e1633.E.Time), (.int .i64 e1633.E.Place), (.int .i64 e1633.E.N)] 0, own (oSl (fz rLane)) [v117] y119, own (oSl (fz rMail)) [y129] y873, rowC h871.n [(.int .u8 e1633.K), (.int .i64 e1633.A), (.int .i64 e1633.B), (.int .i64 e1633.E.Time), (.int .i64 e1633.E.Place), (.int .i64 e1633.E.N)] 0] h2155 := backu2156 _ _ T
                  refine ⟨u2156.1, rfl, ?_⟩
                  refine bP_intro (fun hc => ?_) (fun hc => ?_)
                  · rw [if_pos (show (!(u2156.1 == y1730)) = true from hc)] at hf
                    have S : St h none' [] h2155 := S.sel [] rfl
                    obtain rfl := Option.some.inj hf
                    obtain rfl := hk
                    exact ⟨rfl, S, rfl⟩
                  · rw [if_neg (show ¬ ((!(u2156.1 == y1730)) = true) from by rw [show (!(u2156.1 == y1730)) = false from hc]; exact Bool.false_ne_true)] at hf
                    refine bP_intro (fun hc => ?_) (fun hc => ?_)
                    · rw [if_pos (show y1730 = true from hc)] at hf
                      refine ⟨(.int .i64 y1648), (.int .i64 (IntKind.wrap .i64 (Int.tmod (IntKind.wrap .u64 e1633.B) (6 : Int)))), (.int .i64 e1633.E.Time), (.int .i64 e1633.E.Place), (.int .i64 e1633.E.N), S.rdN (.tail _ (.head _)) (Nat.le_of_ble_eq_true rfl) rfl, ?_⟩
                      intro h2157
                      have S : St h none' [rowC h2155.n [(.int .i64 y1648), (.int .i64 (IntKind.wrap .i64 (Int.tmod (IntKind.wrap .u64 e1633.B) (6 : Int)))), (.int .i64 e1633.E.Time), (.int .i64 e1633.E.Place), (.int .i64 e1633.E.N)] 0, own (oPtr oBox) [v121] u2156.2, rowC h1732.n [(.int .i64 y1648), (.int .i64 (IntKind.wrap .i64 (Int.tmod (IntKind.wrap .u64 e1633.B) (6 : Int)))), (.int .i64 e1633.E.Time), (.int .i64 e1633.E.Place), (.int .i64 e1633.E.N)] 0, own (oSl (fz rLane)) [v117] y119, own (oSl (fz rMail)) [y129] y873, rowC h871.n [(.int .u8 e1633.K), (.int .i64 e1633.A), (.int .i64 e1633.B), (.int .i64 e1633.E.Time), (.int .i64 e1633.E.Place), (.int .i64 e1633.E.N)] 0] h2157 := S.pushRow [(.int .i64 y1648), (.int .i64 (IntKind.wrap .i64 (Int.tmod (IntKind.wrap .u64 e1633.B) (6 : Int)))), (.int .i64 e1633.E.Time), (.int .i64 e1633.E.Place), (.int .i64 e1633.E.N)]
                      obtain ⟨y2161, hy2161, hf⟩ := obind hf
                      have S : St h none' [own (fz rMail) [(.int .i64 y1648), (.int .i64 (IntKind.wrap .i64 (Int.tmod (IntKind.wrap .u64 e1633.B) (6 : Int)))), (.int .i64 e1633.E.Time), (.int .i64 e1633.E.Place), (.int .i64 e1633.E.N)] (TMail.mk y1648 (IntKind.wrap .i64 (Int.tmod (IntKind.wrap .u64 e1633.B) (6 : Int))) (TEvent.mk e1633.E.Time e1633.E.Place e1633.E.N)), rowC h2155.n [(.int .i64 y1648), (.int .i64 (IntKind.wrap .i64 (Int.tmod (IntKind.wrap .u64 e1633.B) (6 : Int)))), (.int .i64 e1633.E.Time), (.int .i64 e1633.E.Place), (.int .i64 e1633.E.N)] 0, own (oPtr oBox) [v121] u2156.2, rowC h1732.n [(.int .i64 y1648), (.int .i64 (IntKind.wrap .i64 (Int.tmod (IntKind.wrap .u64 e1633.B) (6 : Int)))), (.int .i64 e1633.E.Time), (.int .i64 e1633.E.Place), (.int .i64 e1633.E.N)] 0, own (oSl (fz rLane)) [v117] y119, own (oSl (fz rMail)) [y129] y873, rowC h871.n [(.int .u8 e1633.K), (.int .i64 e1633.A), (.int .i64 e1633.B), (.int .i64 e1633.E.Time), (.int .i64 e1633.E.Place), (.int .i64 e1633.E.N)] 0] h2157 := S.add (r := rMail) (x := (TMail.mk y1648 (IntKind.wrap .i64 (Int.tmod (IntKind.wrap .u64 e1633.B) (6 : Int))) (TEvent.mk e1633.E.Time e1633.E.Place e1633.E.N))) (rMail_mk (x := (TMail.mk y1648 (IntKind.wrap .i64 (Int.tmod (IntKind.wrap .u64 e1633.B) (6 : Int))) (TEvent.mk e1633.E.Time e1633.E.Place e1633.E.N))))
                      have S : St h none' [own (oSl (fz rMail)) [y129] y873, own (fz rMail) [(.int .i64 y1648), (.int .i64 (IntKind.wrap .i64 (Int.tmod (IntKind.wrap .u64 e1633.B) (6 : Int)))), (.int .i64 e1633.E.Time), (.int .i64 e1633.E.Place), (.int .i64 e1633.E.N)] (TMail.mk y1648 (IntKind.wrap .i64 (Int.tmod (IntKind.wrap .u64 e1633.B) (6 : Int))) (TEvent.mk e1633.E.Time e1633.E.Place e1633.E.N)), rowC h2155.n [(.int .i64 y1648), (.int .i64 (IntKind.wrap .i64 (Int.tmod (IntKind.wrap .u64 e1633.B) (6 : Int)))), (.int .i64 e1633.E.Time), (.int .i64 e1633.E.Place), (.int .i64 e1633.E.N)] 0, own (oPtr oBox) [v121] u2156.2, rowC h1732.n [(.int .i64 y1648), (.int .i64 (IntKind.wrap .i64 (Int.tmod (IntKind.wrap .u64 e1633.B) (6 : Int)))), (.int .i64 e1633.E.Time), (.int .i64 e1633.E.Place), (.int .i64 e1633.E.N)] 0, own (oSl (fz rLane)) [v117] y119, rowC h871.n [(.int .u8 e1633.K), (.int .i64 e1633.A), (.int .i64 e1633.B), (.int .i64 e1633.E.Time), (.int .i64 e1633.E.Place), (.int .i64 e1633.E.N)] 0] h2157 := S.sel [5, 0, 1, 2, 3, 4, 6] rfl
                      have my2161 := app_some hy2161
                      obtain ⟨v2160, h2159, e2162, S⟩ := St.app1R (r := (fz rMail)) (b := 40) S my2161.1
                      have S : St h none' [own (oSl (fz rMail)) [v2160] y2161, own (oPtr oBox) [v121] u2156.2, rowC h1732.n [(.int .i64 y1648), (.int .i64 (IntKind.wrap .i64 (Int.tmod (IntKind.wrap .u64 e1633.B) (6 : Int)))), (.int .i64 e1633.E.Time), (.int .i64 e1633.E.Place), (.int .i64 e1633.E.N)] 0, own (oSl (fz rLane)) [v117] y119, rowC h871.n [(.int .u8 e1633.K), (.int .i64 e1633.A), (.int .i64 e1633.B), (.int .i64 e1633.E.Time), (.int .i64 e1633.E.Place), (.int .i64 e1633.E.N)] 0] h2159 := S.cast (by rw [← my2161.2] <;> rfl)
                      refine ⟨v2160, h2159, e2162, ?_⟩
                      have S : St h none' [own (oSl (fz rLane)) [v117] y119, own (oPtr oBox) [v121] u2156.2, own (oSl (fz rMail)) [v2160] y2161] h2159 := S.sel [3, 1, 0] rfl
                      exact hjj6 _ _ _ _ _ _ _ _ _ _ u2156.2 y2161 hf rfl rfl rfl rfl rfl rfl S
                    · rw [if_neg (show ¬ (y1730 = true) from by rw [show y1730 = false from hc]; exact Bool.false_ne_true)] at hf
                      have S : St h none' [own (oSl (fz rLane)) [v117] y119, own (oPtr oBox) [v121] u2156.2, own (oSl (fz rMail)) [y129] y873] h2155 := S.sel [2, 0, 3] rfl
                      exact hjj6 _ _ _ _ _ _ _ _ _ _ u2156.2 y873 hf rfl rfl rfl rfl rfl rfl S
                · rw [if_neg (show ¬ ((Int.tmod e1633.K (5 : Int)) < (3 : Int)) from of_decide_eq_false hc)] at hf
                  refine ifP_iff.2 ⟨((S.sl (r := (fz rMail)) (.tail _ (.tail _ (.head _))))).is, ?_⟩
                  try rw [((S.sl (r := (fz rMail)) (.tail _ (.tail _ (.head _))))).slen]
                  obtain ⟨res2221, hL, hf⟩ := obind hf
                  obtain ⟨n2222, hL⟩ := loopC_iff.1 hL
                  have S : St h none' [own (oSl (fz rLane)) [v117] y119, own (oPtr oBox) [v121] l872, own (oSl (fz rMail)) [y129] y873] h1732 := S.sel [0, 1, 2] rfl
                  refine loopm7_1 (X4 := fun (y2209 : AV) (y2210 : Bool) (y2211 : AV) (y2212 : AV) (y2213 : AV) (y2214 : Int) (y2215 : Int) (y2216 : Int) (y2217 : Int) (y2218 : Int) (y2219 : Int) (h2220 : Heap) => a1_0 = y2209 ∧ v117 = y2211 ∧ v121 = y2212 ∧ y129 = y2213 ∧ y130 = y2214 ∧ y131 = y2215 ∧ y1648 = y2216 ∧ (IntKind.wrap .i64 (Int.tmod (IntKind.wrap .u64 e1633.B) (6 : Int))) = y2217 ∧ St h none' [own (oSl (fz rLane)) [v117] y119, own (oPtr oBox) [v121] l872, own (oSl (fz rMail)) [y129] y873] h2220 ∧ y2218 = res2221) ?_ (loop7_1 (I := fun (m2224 : Nat) (y2164 : AV) (y2165 : Bool) (y2166 : AV) (y2167 : AV) (y2168 : AV) (y2169 : Int) (y2170 : Int) (y2171 : Int) (y2172 : Int) (y2173 : Int) (y2174 : Int) (h2175 : Heap) => a1_0 = y2164 ∧ v117 = y2166 ∧ v121 = y2167 ∧ y129 = y2168 ∧ y130 = y2169 ∧ y131 = y2170 ∧ y1648 = y2171 ∧ (IntKind.wrap .i64 (Int.tmod (IntKind.wrap .u64 e1633.B) (6 : Int))) = y2172 ∧ St h none' [own (oSl (fz rLane)) [v117] y119, own (oPtr oBox) [v121] l872, own (oSl (fz rMail)) [y129] y873] h2175 ∧ iter (p7_l1 y873 e1633 y1648) m2224 (y2173, y2174) = some res2221) ?_ (m := n2222) ?_)
                  · rintro y2209 y2210 y2211 y2212 y2213 y2214 y2215 y2216 y2217 y2218 y2219 h2220 ⟨rfl, rfl, rfl, rfl, rfl, rfl, rfl, rfl, S, rfl⟩
                    try dsimp only at hf
                    obtain ⟨u2259, hu2259, hf⟩ := obind hf
                    refine ⟨_, Fz.refl _, ?_⟩
                    have S : St h none' [own (oPtr oBox) [v121] l872, own (oSl (fz rLane)) [v117] y119, own (oSl (fz rMail)) [y129] y873] h2220 := S.sel [1, 0, 2] rfl
                    obtain ⟨fpu2259, S1u2259, backu2259⟩ := St.lend [_] S
                    refine (r28 (b0 := l872) (from1 := y1648) (to2 := (IntKind.wrap .i64 (Int.tmod (IntKind.wrap .u64 e1633.B) (6 : Int)))) (S := S1u2259) hu2259).mono fun v2257 h2258 T => ?_
                    obtain ⟨rfl, T⟩ := T
                    have S : St h none' [own (oPtr oBox) [v121] u2259.2.2, own (oSl (fz rLane)) [v117] y119, own (oSl (fz rMail)) [y129] y873] h2258 := backu2259 _ _ T
                    refine oP_intro (.agg [(.int .i64 u2259.1.From), (.int .i64 u2259.1.To), (.int .i64 u2259.1.E.Time), (.int .i64 u2259.1.E.Place), (.int .i64 u2259.1.E.N)]) rfl ?_
                    refine oP_intro (.bool u2259.2.1) rfl ⟨u2259.2.1, rfl, ?_⟩
                    intro h2260
                    have S : St h none' [rowC h2258.n [(.int .i64 (0 : Int)), (.int .i64 (0 : Int)), (.int .i64 (0 : Int)), (.int .i64 (0 : Int)), (.int .i64 (0 : Int))] 0, own (oPtr oBox) [v121] u2259.2.2, own (oSl (fz rLane)) [v117] y119, own (oSl (fz rMail)) [y129] y873] h2260 := S.pushRow [(.int .i64 (0 : Int)), (.int .i64 (0 : Int)), (.int .i64 (0 : Int)), (.int .i64 (0 : Int)), (.int .i64 (0 : Int))]
                    obtain ⟨h2262, e2263, S⟩ := S.store (off := 0) (n := 5) (x := (.agg [(.int .i64 u2259.1.From), (.int .i64 u2259.1.To), (.int .i64 u2259.1.E.Time), (.int .i64 u2259.1.E.Place), (.int .i64 u2259.1.E.N)])) (cs' := [(.int .i64 u2259.1.From), (.int .i64 u2259.1.To), (.int .i64 u2259.1.E.Time), (.int .i64 u2259.1.E.Place), (.int .i64 u2259.1.E.N)]) (Nat.le_of_ble_eq_true rfl) rfl rfl rfl
                    have S : St h none' [rowC h2258.n [(.int .i64 u2259.1.From), (.int .i64 u2259.1.To), (.int .i64 u2259.1.E.Time), (.int .i64 u2259.1.E.Place), (.int .i64 u2259.1.E.N)] 0, own (oPtr oBox) [v121] u2259.2.2, own (oSl (fz rLane)) [v117] y119, own (oSl (fz rMail)) [y129] y873] h2262 := S
                    refine ⟨h2262, e2263, ?_⟩
                    intro jjj11
                    have hjj11 : ∀ (b2283 : Bool) (h2284 : Heap), p7_j11 y130 y131 y873 e1633 y1648 y2218 u2259 b2283 = some q1631 → h2262 = h2284 → St h none' [own (oSl (fz rLane)) [v117] y119, own (oPtr oBox) [v121] u2259.2.2, own (oSl (fz rMail)) [y129] y873, rowC h2258.n [(.int .i64 u2259.1.From), (.int .i64 u2259.1.To), (.int .i64 u2259.1.E.Time), (.int .i64 u2259.1.E.Place), (.int .i64 u2259.1.E.N)] 0] h2262 → jjj11 b2283 h2284 := by
                      rintro b2283 h2284 hf rfl S
                      unfold p7_j11 at hf
                      unfold jjj11
                      intro jjj9
                      have hjj9 : ∀ (b2310 : Bool) (h2311 : Heap), p7_j9 y130 y131 y873 e1633 y1648 y2218 u2259 b2310 = some q1631 → h2262 = h2311 → St h none' [own (oSl (fz rLane)) [v117] y119, own (oPtr oBox) [v121] u2259.2.2, own (oSl (fz rMail)) [y129] y873] h2262 → jjj9 b2310 h2311 := by
                        rintro b2310 h2311 hf rfl S
                        unfold p7_j9 at hf
                        unfold jjj9
                        refine bP_intro (fun hc => ?_) (fun hc => ?_)
                        · rw [if_pos (show b2310 = true from hc)] at hf
                          have S : St h none' [] h2262 := S.sel [] rfl
                          obtain rfl := Option.some.inj hf
                          obtain rfl := hk
                          exact ⟨rfl, S, rfl⟩
                        · rw [if_neg (show ¬ (b2310 = true) from by rw [show b2310 = false from hc]; exact Bool.false_ne_true)] at hf
                          refine bP_intro (fun hc => ?_) (fun hc => ?_)
                          · rw [if_pos (show u2259.2.1 = true from hc)] at hf
                            obtain ⟨y2322, hy2322, hf⟩ := obind hf
                            have ey2322 := (sliceSl_ev01 (k := .i64) (S.sl (r := (fz rMail)) (.tail _ (.tail _ (.head _)))) hy2322)
                            refine oP_intro _ ey2322 ?_
                            obtain ⟨y2323, hy2323, hf⟩ := obind hf
                            have V2326 : SlR rMail (Snap h2262) (y129.sub 5 ((0 : Int) : Int).toNat (y2218 : Int).toNat) y2322 := slc_eq hy2322 ▸ SlR.sub (S.sl (r := (fz rMail)) (.tail _ (.tail _ (.head _)))) (slc_le hy2322).1 (slc_le hy2322).2
                            have my2323 := app_nil hy2323
                            obtain ⟨o2325, gy2323, S⟩ := St.clone (r := rMail) (b := 40) S (Hp.le_refl _) V2326 (.inl flat_Mail) my2323.1
                            refine oP_intro _ gy2323 ?_
                            intro h2324
                            have S : St h none' [own (oSl (fz rMail)) [(NOp.mk (.appendNil 5 40) [(y129.sub 5 ((0 : Int) : Int).toNat (y2218 : Int).toNat)] h2262.n)] y2323, own (oSl (fz rLane)) [v117] y119, own (oPtr oBox) [v121] u2259.2.2, own (oSl (fz rMail)) [y129] y873] h2324 := S.cast (by rw [my2323.2] <;> rfl)
                            obtain ⟨y2328, hy2328, hf⟩ := obind hf
                            have ey2328 := (sliceSl_ev10 (k := .i64) (S.sl (r := (fz rMail)) (.tail _ (.tail _ (.tail _ (.head _))))) hy2328)
                            have S : St h none' [own (oSl (fz rMail)) [y129] y873, own (oSl (fz rMail)) [(NOp.mk (.appendNil 5 40) [(y129.sub 5 ((0 : Int) : Int).toNat (y2218 : Int).toNat)] h2262.n)] y2323, own (oSl (fz rLane)) [v117] y119, own (oPtr oBox) [v121] u2259.2.2] h2324 := S.sel [3, 0, 1, 2] rfl
                            have S : St h none' [own (oSl (fz rMail)) [(y129.sub 5 ((IntKind.wrap .i64 (y2218 + (1 : Int))) : Int).toNat ((y873.length : Int) : Int).toNat)] y2328, own (oSl (fz rMail)) [(NOp.mk (.appendNil 5 40) [(y129.sub 5 ((0 : Int) : Int).toNat (y2218 : Int).toNat)] h2262.n)] y2323, own (oSl (fz rLane)) [v117] y119, own (oPtr oBox) [v121] u2259.2.2] h2324 := (S.sub (slc_le hy2328).1 (slc_le hy2328).2).cast (by rw [← slc_eq hy2328] <;> rfl)
                            refine oP_intro _ ey2328 ?_
                            obtain ⟨y2331, hy2331, hf⟩ := obind hf
                            have Fy2331 := (S.sl (r := (fz rMail)) (.head _))
                            have S : St h none' [own (oSl (fz rMail)) [(NOp.mk (.appendNil 5 40) [(y129.sub 5 ((0 : Int) : Int).toNat (y2218 : Int).toNat)] h2262.n)] y2323, own (oSl (fz rMail)) [(y129.sub 5 ((IntKind.wrap .i64 (y2218 + (1 : Int))) : Int).toNat ((y873.length : Int) : Int).toNat)] y2328, own (oSl (fz rLane)) [v117] y119, own (oPtr oBox) [v121] u2259.2.2] h2324 := S.sel [1, 0, 2, 3] rfl
                            have my2331 := app_some hy2331
                            obtain ⟨v2330, h2329, e2332, S⟩ := St.appF (r := rMail) (b := 40) S (Hp.le_refl _) Fy2331 (.inl flat_Mail) my2331.1
                            have S : St h none' [own (oSl (fz rMail)) [v2330] y2331, own (oSl (fz rMail)) [(y129.sub 5 ((IntKind.wrap .i64 (y2218 + (1 : Int))) : Int).toNat ((y873.length : Int) : Int).toNat)] y2328, own (oSl (fz rLane)) [v117] y119, own (oPtr oBox) [v121] u2259.2.2] h2329 := S.cast (by rw [← my2331.2] <;> rfl)
                            refine ⟨v2330, h2329, e2332, ?_⟩
                            have S : St h none' [own (oSl (fz rLane)) [v117] y119, own (oPtr oBox) [v121] u2259.2.2, own (oSl (fz rMail)) [v2330] y2331] h2329 := S.sel [2, 3, 0] rfl
                            exact hjj6 _ _ _ _ _ _ _ _ _ _ u2259.2.2 y2331 hf rfl rfl rfl rfl rfl rfl S
                          · rw [if_neg (show ¬ (u2259.2.1 = true) from by rw [show u2259.2.1 = false from hc]; exact Bool.false_ne_true)] at hf
                            exact hjj6 _ _ _ _ _ _ _ _ _ _ u2259.2.2 y873 hf rfl rfl rfl rfl rfl rfl S
                      refine bP_intro (fun hc => ?_) (fun hc => ?_)
                      · rw [if_pos (show b2283 = true from hc)] at hf
                        have S : St h none' [own (oSl (fz rLane)) [v117] y119, own (oPtr oBox) [v121] u2259.2.2, own (oSl (fz rMail)) [y129] y873] h2262 := S.sel [0, 1, 2] rfl
                        exact hjj9 _ _  hf rfl S
                      · rw [if_neg (show ¬ (b2283 = true) from by rw [show b2283 = false from hc]; exact Bool.false_ne_true)] at hf
                        intro jjj10
                        have hjj10 : ∀ (b2334 : Bool) (h2335 : Heap), p7_j10 y130 y131 y873 e1633 y1648 y2218 u2259 b2334 = some q1631 → h2262 = h2335 → St h none' [own (oSl (fz rLane)) [v117] y119, own (oPtr oBox) [v121] u2259.2.2, own (oSl (fz rMail)) [y129] y873] h2262 → jjj10 b2334 h2335 := by
                          rintro b2334 h2335 hf rfl S
                          unfold p7_j10 at hf
                          unfold jjj10
                          exact hjj9 _ _  hf rfl S
                        refine bP_intro (fun hc => ?_) (fun hc => ?_)
                        · rw [if_pos (show (!u2259.2.1) = true from hc)] at hf
                          refine ⟨(.int .i64 u2259.1.From), (.int .i64 u2259.1.To), (.int .i64 u2259.1.E.Time), (.int .i64 u2259.1.E.Place), (.int .i64 u2259.1.E.N), S.rdN (.tail _ (.tail _ (.tail _ (.head _)))) (Nat.le_of_ble_eq_true rfl) rfl, ?_⟩
                          refine oP_intro (.bool (!((decide (u2259.1.From = (0 : Int))) && ((decide (u2259.1.To = (0 : Int))) && ((decide (u2259.1.E.Time = (0 : Int))) && ((decide (u2259.1.E.Place = (0 : Int))) && ((decide (u2259.1.E.N = (0 : Int))) && true))))))) rfl ⟨(!((decide (u2259.1.From = (0 : Int))) && ((decide (u2259.1.To = (0 : Int))) && ((decide (u2259.1.E.Time = (0 : Int))) && ((decide (u2259.1.E.Place = (0 : Int))) && ((decide (u2259.1.E.N = (0 : Int))) && true)))))), rfl, ?_⟩
                          have S : St h none' [own (oSl (fz rLane)) [v117] y119, own (oPtr oBox) [v121] u2259.2.2, own (oSl (fz rMail)) [y129] y873] h2262 := S.sel [0, 1, 2] rfl
                          exact hjj10 _ _  hf rfl S
                        · rw [if_neg (show ¬ ((!u2259.2.1) = true) from by rw [show (!u2259.2.1) = false from hc]; exact Bool.false_ne_true)] at hf
                          have S : St h none' [own (oSl (fz rLane)) [v117] y119, own (oPtr oBox) [v121] u2259.2.2, own (oSl (fz rMail)) [y129] y873] h2262 := S.sel [0, 1, 2] rfl
                          exact hjj10 _ _  hf rfl S
                    refine bP_intro (fun hc => ?_) (fun hc => ?_)
                    · rw [if_pos (show (!(u2259.2.1 == (decide ((0 : Int) ≤ y2218)))) = true from hc)] at hf
                      have S : St h none' [own (oSl (fz rLane)) [v117] y119, own (oPtr oBox) [v121] u2259.2.2, own (oSl (fz rMail)) [y129] y873, rowC h2258.n [(.int .i64 u2259.1.From), (.int .i64 u2259.1.To), (.int .i64 u2259.1.E.Time), (.int .i64 u2259.1.E.Place), (.int .i64 u2259.1.E.N)] 0] h2262 := S.sel [2, 1, 3, 0] rfl
                      exact hjj11 _ _  hf rfl S
                    · rw [if_neg (show ¬ ((!(u2259.2.1 == (decide ((0 : Int) ≤ y2218)))) = true) from by rw [show (!(u2259.2.1 == (decide ((0 : Int) ≤ y2218)))) = false from hc]; exact Bool.false_ne_true)] at hf
                      intro jjj12
                      have hjj12 : ∀ (b2351 : Bool) (h2352 : Heap), p7_j12 y130 y131 y873 e1633 y1648 y2218 u2259 b2351 = some q1631 → h2262 = h2352 → St h none' [own (oSl (fz rLane)) [v117] y119, own (oPtr oBox) [v121] u2259.2.2, own (oSl (fz rMail)) [y129] y873, rowC h2258.n [(.int .i64 u2259.1.From), (.int .i64 u2259.1.To), (.int .i64 u2259.1.E.Time), (.int .i64 u2259.1.E.Place), (.int .i64 u2259.1.E.N)] 0] h2262 → jjj12 b2351 h2352 := by
                        rintro b2351 h2352 hf rfl S
                        unfold p7_j12 at hf
                        unfold jjj12
                        exact hjj11 _ _  hf rfl S
                      refine bP_intro (fun hc => ?_) (fun hc => ?_)
                      · rw [if_pos (show u2259.2.1 = true from hc)] at hf
                        refine ⟨(.int .i64 u2259.1.From), (.int .i64 u2259.1.To), (.int .i64 u2259.1.E.Time), (.int .i64 u2259.1.E.Place), (.int .i64 u2259.1.E.N), S.rdN (.head _) (Nat.le_of_ble_eq_true rfl) rfl, ?_⟩
                        obtain ⟨e2366, he2366, hf⟩ := obind hf
                        obtain ⟨qe2366, q0e2366, q1e2366⟩ := SlR.ix (S.sl (r := (fz rMail)) (.tail _ (.tail _ (.tail _ (.head _))))) he2366
                        have pe2366 := (SlR.idx (S.sl (r := (fz rMail)) (.tail _ (.tail _ (.tail _ (.head _))))) (Hp.le_refl _) he2366).1
                        refine ifP_iff.2 ⟨qe2366, q0e2366, (by first | exact q1e2366 | exact (idx_lt he2366).2), ?_⟩
                        obtain ⟨_, cr2367, Rr2367, Nr2367, Or2367, Zr2367⟩ := St.idxO (r := rMail) S (.tail _ (.tail _ (.tail _ (.head _)))) he2366
                        obtain rfl := rMail_open Rr2367
                        refine ⟨(.int .i64 e2366.From), (.int .i64 e2366.To), (.int .i64 e2366.E.Time), (.int .i64 e2366.E.Place), (.int .i64 e2366.E.N), Nr2367, ?_⟩
                        refine oP_intro (.bool (!((decide (u2259.1.From = e2366.From)) && ((decide (u2259.1.To = e2366.To)) && ((decide (u2259.1.E.Time = e2366.E.Time)) && ((decide (u2259.1.E.Place = e2366.E.Place)) && ((decide (u2259.1.E.N = e2366.E.N)) && true))))))) rfl ⟨(!((decide (u2259.1.From = e2366.From)) && ((decide (u2259.1.To = e2366.To)) && ((decide (u2259.1.E.Time = e2366.E.Time)) && ((decide (u2259.1.E.Place = e2366.E.Place)) && ((decide (u2259.1.E.N = e2366.E.N)) && true)))))), rfl, ?_⟩
                        have S : St h none' [own (oSl (fz rLane)) [v117] y119, own (oPtr oBox) [v121] u2259.2.2, own (oSl (fz rMail)) [y129] y873, rowC h2258.n [(.int .i64 u2259.1.From), (.int .i64 u2259.1.To), (.int .i64 u2259.1.E.Time), (.int .i64 u2259.1.E.Place), (.int .i64 u2259.1.E.N)] 0] h2262 := S.sel [2, 1, 3, 0] rfl
                        exact hjj12 _ _  hf rfl S
                      · rw [if_neg (show ¬ (u2259.2.1 = true) from by rw [show u2259.2.1 = false from hc]; exact Bool.false_ne_true)] at hf
                        have S : St h none' [own (oSl (fz rLane)) [v117] y119, own (oPtr oBox) [v121] u2259.2.2, own (oSl (fz rMail)) [y129] y873, rowC h2258.n [(.int .i64 u2259.1.From), (.int .i64 u2259.1.To), (.int .i64 u2259.1.E.Time), (.int .i64 u2259.1.E.Place), (.int .i64 u2259.1.E.N)] 0] h2262 := S.sel [2, 1, 3, 0] rfl
                        exact hjj12 _ _  hf rfl S
                  · rintro m22240 y2164 y2165 y2166 y2167 y2168 y2169 y2170 y2171 y2172 y2173 y2174 h2175 ⟨rfl, rfl, rfl, rfl, rfl, rfl, rfl, rfl, S, hit⟩
                    obtain ⟨m2224, q2223, rfl, hf, hk⟩ := iter_some hit
                    clear hit
                    unfold B7_1
                    unfold p7_l1 at hf
                    try dsimp only at hf
                    refine bP_intro (fun hc => ?_) (fun hc => ?_)
                    · rw [if_pos (show (0 : Int) ≤ y2174 from of_decide_eq_true hc)] at hf
                      obtain ⟨e2225, he2225, hf⟩ := obind hf
                      obtain ⟨qe2225, q0e2225, q1e2225⟩ := SlR.ix (S.sl (r := (fz rMail)) (.tail _ (.tail _ (.head _)))) he2225
                      have pe2225 := (SlR.idx (S.sl (r := (fz rMail)) (.tail _ (.tail _ (.head _)))) (Hp.le_refl _) he2225).1
                      refine ifP_iff.2 ⟨qe2225, q0e2225, (by first | exact q1e2225 | exact (idx_lt he2225).2), ?_⟩
                      refine ifP_iff.2 ⟨pe2225, ?_⟩
                      obtain ⟨_, cr2226, Rr2226, Nr2226, Or2226, Zr2226⟩ := St.idxO (r := rMail) S (.tail _ (.tail _ (.head _))) he2225
                      obtain rfl := rMail_open Rr2226
                      refine ⟨e2225.From, Or2226 0 _ rfl, ?_⟩
                      intro jjj8
                      have hjj8 : ∀ (b2229 : Bool) (h2230 : Heap), p7_j8 y2173 y2174 b2229 = some q2223 → h2175 = h2230 → St h none' [own (oSl (fz rLane)) [v117] y119, own (oPtr oBox) [v121] l872, own (oSl (fz rMail)) [y129] y873] h2175 → jjj8 b2229 h2230 := by
                        rintro b2229 h2230 hf rfl S
                        unfold p7_j8 at hf
                        unfold jjj8
                        intro jjj7
                        have hjj7 : ∀ (y2251 : Int) (h2241 : Heap) , p7_j7 y2174 y2251 = some q2223 → St h none' [own (oSl (fz rLane)) [v117] y119, own (oPtr oBox) [v121] l872, own (oSl (fz rMail)) [y129] y873] h2241 → jjj7 y2251 h2241 := by
                          rintro y2251 h2241 hf S
                          unfold p7_j7 at hf
                          unfold jjj7
                          obtain rfl := Option.some.inj hf
                          exact ⟨m2224, Nat.lt_succ_self _, rfl, rfl, rfl, rfl, rfl, rfl, rfl, rfl, S, hk⟩
                        refine bP_intro (fun hc => ?_) (fun hc => ?_)
                        · rw [if_pos (show b2229 = true from hc)] at hf
                          exact hjj7 _ _  hf  S
                        · rw [if_neg (show ¬ (b2229 = true) from by rw [show b2229 = false from hc]; exact Bool.false_ne_true)] at hf
                          exact hjj7 _ _  hf  S
                      refine bP_intro (fun hc => ?_) (fun hc => ?_)
                      · rw [if_pos (show e2225.From = y1648 from of_decide_eq_true hc)] at hf
                        obtain ⟨e2255, he2255, hf⟩ := obind hf
                        obtain ⟨qe2255, q0e2255, q1e2255⟩ := SlR.ix (S.sl (r := (fz rMail)) (.tail _ (.tail _ (.head _)))) he2255
                        have pe2255 := (SlR.idx (S.sl (r := (fz rMail)) (.tail _ (.tail _ (.head _)))) (Hp.le_refl _) he2255).1
                        refine ifP_iff.2 ⟨qe2255, q0e2255, (by first | exact q1e2255 | exact (idx_lt he2255).2), ?_⟩
                        refine ifP_iff.2 ⟨pe2255, ?_⟩
                        obtain ⟨_, cr2256, Rr2256, Nr2256, Or2256, Zr2256⟩ := St.idxO (r := rMail) S (.tail _ (.tail _ (.head _))) he2255
                        obtain rfl := rMail_open Rr2256
                        refine ⟨e2255.To, Or2256 1 _ rfl, ?_⟩
                        exact hjj8 _ _  hf rfl S
                      · rw [if_neg (show ¬ (e2225.From = y1648) from of_decide_eq_false hc)] at hf
                        exact hjj8 _ _  hf rfl S
                    · rw [if_neg (show ¬ ((0 : Int) ≤ y2174) from of_decide_eq_false hc)] at hf
                      obtain rfl := Option.some.inj hf
                      obtain rfl := hk
                      exact ⟨rfl, rfl, rfl, rfl, rfl, rfl, rfl, rfl, S, rfl⟩
                  · exact ⟨rfl, rfl, rfl, rfl, rfl, rfl, rfl, rfl, S, hL⟩
              · rintro m17360 y1650 y1651 y1652 y1653 y1654 y1655 y1656 y1657 y1658 y1659 y1660 y1661 h1662 ⟨rfl, rfl, rfl, rfl, rfl, rfl, rfl, rfl, rfl, S, hit⟩
                obtain ⟨m1736, q1735, rfl, hf, hk⟩ := iter_some hit
                clear hit
                unfold B7_0
                unfold p7_l0 at hf
                try dsimp only at hf
                refine ifP_iff.2 ⟨((S.sl (r := (fz rLane)) (.head _))).is, ?_⟩
                try rw [((S.sl (r := (fz rLane)) (.head _))).slen]
                refine bP_intro (fun hc => ?_) (fun hc => ?_)
                · rw [if_pos (show y1661 < (y119.length : Int) from of_decide_eq_true hc)] at hf
                  intro jjj0
                  have hjj0 : ∀ (b1758 : Bool) (h1759 : Heap), p7_j0 y1661 b1758 = some q1735 → h1662 = h1759 → St h none' [own (oSl (fz rLane)) [v117] y119, own (oPtr oBox) [v121] l872, own (oSl (fz rMail)) [y129] y873, rowC h871.n [(.int .u8 e1633.K), (.int .i64 e1633.A), (.int .i64 e1633.B), (.int .i64 e1633.E.Time), (.int .i64 e1633.E.Place), (.int .i64 e1633.E.N)] 0] h1662 → jjj0 b1758 h1759 := by
                    rintro b1758 h1759 hf rfl S
                    unfold p7_j0 at hf
                    unfold jjj0
                    obtain rfl := Option.some.inj hf
                    exact ⟨m1736, Nat.lt_succ_self _, rfl, rfl, rfl, rfl, rfl, rfl, rfl, rfl, rfl, S, hk⟩
                  refine bP_intro (fun hc => ?_) (fun hc => ?_)
                  · rw [if_pos (show y1660 = true from hc)] at hf
                    exact hjj0 _ _  hf rfl S
                  · rw [if_neg (show ¬ (y1660 = true) from by rw [show y1660 = false from hc]; exact Bool.false_ne_true)] at hf
                    obtain ⟨e1772, he1772, hf⟩ := obind hf
                    obtain ⟨qe1772, q0e1772, q1e1772⟩ := SlR.ix (S.sl (r := (fz rLane)) (.head _)) he1772
                    have pe1772 := (SlR.idx (S.sl (r := (fz rLane)) (.head _)) (Hp.le_refl _) he1772).1
                    refine ifP_iff.2 ⟨qe1772, q0e1772, (by first | exact q1e1772 | exact (idx_lt he1772).2), ?_⟩
                    refine ifP_iff.2 ⟨pe1772, ?_⟩
                    obtain ⟨_, cr1773, Rr1773, Nr1773, Or1773, Zr1773⟩ := St.idxO (r := rLane) S (.head _) he1772
                    obtain rfl := rLane_open Rr1773
                    refine ⟨e1772.From, Or1773 0 _ rfl, ?_⟩
                    intro jjj1
                    have hjj1 : ∀ (b1776 : Bool) (h1777 : Heap), p7_j1 y1661 b1776 = some q1735 → h1662 = h1777 → St h none' [own (oSl (fz rLane)) [v117] y119, own (oPtr oBox) [v121] l872, own (oSl (fz rMail)) [y129] y873, rowC h871.n [(.int .u8 e1633.K), (.int .i64 e1633.A), (.int .i64 e1633.B), (.int .i64 e1633.E.Time), (.int .i64 e1633.E.Place), (.int .i64 e1633.E.N)] 0] h1662 → jjj1 b1776 h1777 := by
                      rintro b1776 h1777 hf rfl S
                      unfold p7_j1 at hf
                      unfold jjj1
                      exact hjj0 _ _  hf rfl S
                    refine bP_intro (fun hc => ?_) (fun hc => ?_)
                    · rw [if_pos (show e1772.From = y1648 from of_decide_eq_true hc)] at hf
                      obtain ⟨e1791, he1791, hf⟩ := obind hf
                      obtain ⟨qe1791, q0e1791, q1e1791⟩ := SlR.ix (S.sl (r := (fz rLane)) (.head _)) he1791
                      have pe1791 := (SlR.idx (S.sl (r := (fz rLane)) (.head _)) (Hp.le_refl _) he1791).1
                      refine ifP_iff.2 ⟨qe1791, q0e1791, (by first | exact q1e1791 | exact (idx_lt he1791).2), ?_⟩
                      refine ifP_iff.2 ⟨pe1791, ?_⟩
                      obtain ⟨_, cr1792, Rr1792, Nr1792, Or1792, Zr1792⟩ := St.idxO (r := rLane) S (.head _) he1791
                      obtain rfl := rLane_open Rr1792
                      refine ⟨e1791.To, Or1792 1 _ rfl, ?_⟩
                      exact hjj1 _ _  hf rfl S
                    · rw [if_neg (show ¬ (e1772.From = y1648) from of_decide_eq_false hc)] at hf
                      exact hjj1 _ _  hf rfl S
                · rw [if_neg (show ¬ (y1661 < (y119.length : Int)) from of_decide_eq_false hc)] at hf
                  obtain rfl := Option.some.inj hf
                  obtain rfl := hk
                  exact ⟨rfl, rfl, rfl, rfl, rfl, rfl, rfl, rfl, rfl, S, rfl⟩
              · exact ⟨rfl, rfl, rfl, rfl, rfl, rfl, rfl, rfl, rfl, S, hL⟩
            refine bP_intro (fun hc => ?_) (fun hc => ?_)
            · rw [if_pos (show (200 : Int) ≤ e1633.K from of_decide_eq_true hc)] at hf
              refine ⟨e1633.A, S.rd1 (.head _) rfl, ?_⟩
              have S : St h none' [own (oSl (fz rLane)) [v117] y119, own (oPtr oBox) [v121] l872, own (oSl (fz rMail)) [y129] y873, rowC h871.n [(.int .u8 e1633.K), (.int .i64 e1633.A), (.int .i64 e1633.B), (.int .i64 e1633.E.Time), (.int .i64 e1633.E.Place), (.int .i64 e1633.E.N)] 0] h1637 := S.sel [1, 2, 3, 0] rfl
              exact hjj13 _ _  hf  S
            · rw [if_neg (show ¬ ((200 : Int) ≤ e1633.K) from of_decide_eq_false hc)] at hf
              have S : St h none' [own (oSl (fz rLane)) [v117] y119, own (oPtr oBox) [v121] l872, own (oSl (fz rMail)) [y129] y873, rowC h871.n [(.int .u8 e1633.K), (.int .i64 e1633.A), (.int .i64 e1633.B), (.int .i64 e1633.E.Time), (.int .i64 e1633.E.Place), (.int .i64 e1633.E.N)] 0] h1637 := S.sel [1, 2, 3, 0] rfl
              exact hjj13 _ _  hf  S
          · rw [if_neg (show ¬ (y131 < (x1.length : Int)) from of_decide_eq_false hc)] at hf
            have S : St h none' [] h871 := S.sel [] rfl
            obtain rfl := Option.some.inj hf
            obtain rfl := hk
            exact ⟨S, rfl⟩
        · exact ⟨y123, [], rfl, rfl, rfl, S, hL⟩
    refine bP_intro (fun hc => ?_) (fun hc => ?_)
    · rw [if_pos (show b104 = true from hc)] at hf
      exact hjj14 _ _  hf rfl S
    · rw [if_neg (show ¬ (b104 = true) from by rw [show b104 = false from hc]; exact Bool.false_ne_true)] at hf
      refine ifP_iff.2 ⟨(f1_0).is, ?_⟩
      try rw [(f1_0).slen]
      exact hjj14 _ _  hf rfl S
  refine bP_intro (fun hc => ?_) (fun hc => ?_)
  · rw [if_pos (show (!y103) = true from hc)] at hf
    exact hjj15 _ _  hf rfl S
  · rw [if_neg (show ¬ ((!y103) = true) from by rw [show (!y103) = false from hc]; exact Bool.false_ne_true)] at hf
    refine ifP_iff.2 ⟨(f0_0).is, ?_⟩
    try rw [(f0_0).slen]
    exact hjj15 _ _  hf rfl S
end Go.Proofs.Ytgbkpiaonlabgaa
