/- Pure functions, and that the machine's functions answer as they do. No condition. Own work. -/
import Derived.Test.YtgbkpiaonlabgaaSMailTwice
import Derived.Test.YtgbkpiaonlabgaaTMailTwice
/- Pure functions, and that the machine's functions answer as they do; printed by a program of mine (pm.py). Own work. -/
namespace Go.Proofs.Ytgbkpiaonlabgaa
open Go Go.Am
set_option linter.unusedVariables false
set_option linter.unusedSimpArgs false
/-! 51: marblerun/lane.Find$1 -/
noncomputable def p51_j0 (b103 : Bool) : Option Bool := some b103
noncomputable def p51 (x0 : TLane) (c1 : Int) (c2 : Int) : Option Bool := if x0.From = c1 then (p51_j0 (decide (x0.To = c2))) else (p51_j0 false)
theorem r51 {h : Heap} {o1 v1 : Nat} {o2 v2 : Nat} {x0 : TLane} {c1 : Int} {c2 : Int} (g1 : Snap h o1 [(.int .i64 c1)] v1) (g2 : Snap h o2 [(.int .i64 c2)] v2) {r : Bool} (hf : p51 x0 c1 c2 = some r) : ZCalls F 51 [(.agg [(.int .i64 x0.From), (.int .i64 x0.To), (.int .i64 x0.Ahead)]), (.ptr o1 v1 0), (.ptr o2 v2 0)] h fun v h' => v = .bool r ∧ St h none' [] h' := by
  refine w51 ?_
  unfold W51
  unfold p51 at hf
  have S : St h none' [] h := St.refl _ _
  intro h101
  have S : St h none' [rowC h.n [(.int .i64 x0.From), (.int .i64 x0.To), (.int .i64 x0.Ahead)] 0] h101 := S.pushRow [(.int .i64 x0.From), (.int .i64 x0.To), (.int .i64 x0.Ahead)]
  refine ⟨x0.From, S.rd1 (.head _) rfl, ?_⟩
  refine ⟨c1, snap_rd1 (snap_mono S.le _ _ _ g1) rfl, ?_⟩
  intro jjj0
  have hjj0 : ∀ (b103 : Bool) (h104 : Heap), p51_j0 b103 = some r → h101 = h104 → St h none' [] h101 → jjj0 b103 h104 := by
    rintro b103 h104 hf rfl S
    unfold p51_j0 at hf
    unfold jjj0
    obtain rfl := Option.some.inj hf
    exact ⟨rfl, S.sel [] rfl⟩
  refine bP_intro (fun hc => ?_) (fun hc => ?_)
  · rw [if_pos (show x0.From = c1 from of_decide_eq_true hc)] at hf
    refine ⟨x0.To, S.rd1 (.head _) rfl, ?_⟩
    refine ⟨c2, snap_rd1 (snap_mono S.le _ _ _ g2) rfl, ?_⟩
    have S : St h none' [] h101 := S.sel [] rfl
    exact hjj0 _ _  hf rfl S
  · rw [if_neg (show ¬ (x0.From = c1) from of_decide_eq_false hc)] at hf
    have S : St h none' [] h101 := S.sel [] rfl
    exact hjj0 _ _  hf rfl S
/-! 50: slices.IndexFunc[[]marblerun/lane.Lane,marblerun/lane.Lane] -/
noncomputable def p50_l0 (s0 : List TLane) (f1 : TLane → Option Bool) (y105 : Int) : Option (Int ⊕ (Int ⊕ Unit)) := if y105 < (s0.length : Int) then ((idx s0 y105).bind fun e129 => (f1 e129).bind fun r131 => if r131 = true then (some (.inr (.inl y105))) else (some (.inl (IntKind.wrap .i64 (y105 + (1 : Int)))))) else (some (.inr (.inr ())))
noncomputable def p50 (s0 : List TLane) (f1 : TLane → Option Bool) : Option Int := (loopC (p50_l0 s0 f1) (0 : Int)).bind fun res125 => (match res125 with | .inl y115 => some y115 | .inr _ => some ((-1) : Int))
theorem r50 {h : Heap} {a0_0 : AV} {a1_0 : AV} {s0 : List TLane} {f1 : TLane → Option Bool} (f0_0 : SlR rLane (Snap h) a0_0 s0) (f1_0 : ∀ (h' : Heap) (y0 : TLane) r, HLe h h' → f1 y0 = some r → callW F a1_0 [.agg [.int .i64 y0.From, .int .i64 y0.To, .int .i64 y0.Ahead]] h' fun v h2 => v = .bool r ∧ St h' none' [] h2) {r : Int} (hf : p50 s0 f1 = some r) : ZCalls F 50 [a0_0, a1_0] h fun v h' => v = .int .i64 r ∧ St h none' [] h' := by
  refine w50 ?_
  unfold W50
  unfold p50 at hf
  have S : St h none' [] h := St.refl _ _
  refine ifP_iff.2 ⟨(f0_0).is, ?_⟩
  try rw [(f0_0).slen]
  obtain ⟨res125, hL, hf⟩ := obind hf
  obtain ⟨n126, hL⟩ := loopC_iff.1 hL
  refine loopm50_0 (R := fun (s113 : AV) (f114 : AV) (y115 : Int) (y116 : Int) (y117 : Int) (h118 : Heap) => St h none' [] h118 ∧ (.inl y115) = res125) (X0 := fun (s119 : AV) (f120 : AV) (y121 : Int) (y122 : Int) (y123 : Int) (h124 : Heap) => St h none' [] h124 ∧ (.inr ()) = res125) ?_ ?_ (loop50_0 (I := fun (m128 : Nat) (s101 : AV) (f102 : AV) (y103 : Int) (y104 : Int) (y105 : Int) (h106 : Heap) => a0_0 = s101 ∧ a1_0 = f102 ∧ (s0.length : Int) = y104 ∧ St h none' [] h106 ∧ iter (p50_l0 s0 f1) m128 y105 = some res125) ?_ (m := n126) ?_)
  · rintro s113 f114 y115 y116 y117 h118 ⟨S, rfl⟩
    try dsimp only at hf
    obtain rfl := Option.some.inj hf
    exact ⟨rfl, S.sel [] rfl⟩
  · rintro s119 f120 y121 y122 y123 h124 ⟨S, rfl⟩
    try dsimp only at hf
    obtain rfl := Option.some.inj hf
    exact ⟨rfl, S.sel [] rfl⟩
  · rintro m1280 s101 f102 y103 y104 y105 h106 ⟨rfl, rfl, rfl, S, hit⟩
    obtain ⟨m128, q127, rfl, hf, hk⟩ := iter_some hit
    clear hit
    unfold B50_0
    unfold p50_l0 at hf
    try dsimp only at hf
    refine bP_intro (fun hc => ?_) (fun hc => ?_)
    · rw [if_pos (show y105 < (s0.length : Int) from of_decide_eq_true hc)] at hf
      obtain ⟨e129, he129, hf⟩ := obind hf
      obtain ⟨qe129, q0e129, q1e129⟩ := SlR.ix f0_0 he129
      have pe129 := (SlR.idx f0_0 (snap_mono S.le) he129).1
      refine ifP_iff.2 ⟨qe129, q0e129, (by first | exact q1e129 | exact (idx_lt he129).2), ?_⟩
      obtain ⟨_, cr130, Rr130, Nr130, Or130, Zr130⟩ := SlR.idx f0_0 (snap_mono S.le) he129
      obtain rfl := rLane_open Rr130
      refine ⟨(.int .i64 e129.From), (.int .i64 e129.To), (.int .i64 e129.Ahead), Nr130, ?_⟩
      obtain ⟨r131, hr131, hf⟩ := obind hf
      refine ⟨_, Fz.refl _, ?_⟩
      refine callW_mono (f1_0 _ e129 _ S.le hr131) fun v132 h133 T => ?_
      obtain ⟨rfl, T⟩ := T
      have S : St h none' [] h133 := S.comp T
      refine ⟨r131, rfl, ?_⟩
      refine bP_intro (fun hc => ?_) (fun hc => ?_)
      · rw [if_pos (show r131 = true from hc)] at hf
        obtain rfl := Option.some.inj hf
        obtain rfl := hk
        exact ⟨S, rfl⟩
      · rw [if_neg (show ¬ (r131 = true) from by rw [show r131 = false from hc]; exact Bool.false_ne_true)] at hf
        obtain rfl := Option.some.inj hf
        exact ⟨m128, Nat.lt_succ_self _, rfl, rfl, rfl, S, hk⟩
    · rw [if_neg (show ¬ (y105 < (s0.length : Int)) from of_decide_eq_false hc)] at hf
      obtain rfl := Option.some.inj hf
      obtain rfl := hk
      exact ⟨S, rfl⟩
  · exact ⟨rfl, rfl, rfl, S, hL⟩
/-! 37: marblerun/lane.Find -/
noncomputable def p37 (l0 : List TLane) (from1 : Int) (to2 : Int) : Option Int := (p50 l0 (fun (y0 : TLane) => p51 y0 from1 to2)).bind fun y107 => some y107
theorem r37 {h : Heap} {a0_0 : AV} {l0 : List TLane} {from1 : Int} {to2 : Int} (f0_0 : SlR rLane (Snap h) a0_0 l0) {r : Int} (hf : p37 l0 from1 to2 = some r) : ZCalls F 37 [a0_0, (.int .i64 from1), (.int .i64 to2)] h fun v h' => v = .int .i64 r ∧ St h none' [] h' := by
  refine w37 ?_
  unfold W37
  unfold p37 at hf
  have S : St h none' [] h := St.refl _ _
  intro h101
  have S : St h none' [rowC h.n [(.int .i64 from1)] 0] h101 := S.pushRow [(.int .i64 from1)]
  intro h103
  have S : St h none' [rowC h101.n [(.int .i64 to2)] 0, rowC h.n [(.int .i64 from1)] 0] h103 := S.pushRow [(.int .i64 to2)]
  obtain ⟨y107, hy107, hf⟩ := obind hf
  refine ⟨_, Fz.refl _, ?_⟩
  refine (r50 (s0 := l0) (f1 := (fun (y0 : TLane) => p51 y0 from1 to2)) (f0_0 := (SlR.mono (snap_mono S.le) f0_0)) (f1_0 := fun h1 y0 r hl hr => by show ZCalls F 51 _ h1 _; exact r51 (g1 := snap_mono hl _ _ _ (S.row (.tail _ (.head _)))) (g2 := snap_mono hl _ _ _ (S.row (.head _))) hr) hy107).mono fun v105 h106 T => ?_
  obtain ⟨rfl, T⟩ := T
  have S : St h none' [rowC h101.n [(.int .i64 to2)] 0, rowC h.n [(.int .i64 from1)] 0] h106 := S.comp T
  refine ⟨y107, rfl, ?_⟩
  obtain rfl := Option.some.inj hf
  exact ⟨rfl, S.sel [] rfl⟩
/-! 26: marblerun/mail.New -/
noncomputable def p26 (lanes0 : List TLane) : Option (Option TBox) := (app 24 [] lanes0).bind fun y101 => (mkS 24 (lanes0.length : Int) (lanes0.length : Int) []).bind fun y105 => some (some (TBox.mk y101 y105 (0 : Int)))
theorem r26 {h : Heap} {a0_0 : AV} {lanes0 : List TLane} (f0_0 : SlR rLane (Snap h) a0_0 lanes0) {r : (Option TBox)} (hf : p26 lanes0 = some r) : ZCalls F 26 [a0_0] h fun v h' => St h none' [own (oPtr oBox) [v] r] h' := by
  refine w26 ?_
  unfold W26
  unfold p26 at hf
  have S : St h none' [] h := St.refl _ _
  obtain ⟨y101, hy101, hf⟩ := obind hf
  have my101 := app_nil hy101
  obtain ⟨o103, gy101, S⟩ := St.clone (r := rLane) (b := 24) S (snap_mono S.le) f0_0 (.inl flat_Lane) my101.1
  refine oP_intro _ gy101 ?_
  intro h102
  have S : St h none' [own (oSl (fz rLane)) [(NOp.mk (.appendNil 3 24) [a0_0] h.n)] y101] h102 := S.cast (by rw [my101.2] <;> rfl)
  refine ifP_iff.2 ⟨(f0_0).is, ?_⟩
  try rw [(f0_0).slen]
  obtain ⟨y105, hy105, hf⟩ := obind hf
  obtain ⟨my105, ey105⟩ := mkS_some hy105
  refine ⟨my105, ?_⟩
  intro h106
  have S : St h none' [own (oSl (oSl (fz rEvent))) [(.slice h102.n 0 0 ((lanes0.length : Int) : Int).toNat 1)] y105, own (oSl (fz rLane)) [(NOp.mk (.appendNil 3 24) [a0_0] h.n)] y101] h106 := (S.make (r := (oSl (fz rEvent))) (zero := [.nilSlice]) (x := []) (fun _ => ⟨_, rfl, .inl ⟨rfl, rfl, rfl⟩⟩) _).cast (by rw [ey105]; rfl)
  refine oP_intro (.agg [(NOp.mk (.appendNil 3 24) [a0_0] h.n), (.slice h102.n 0 0 ((lanes0.length : Int) : Int).toNat 1), (.int .i64 (0 : Int))]) (by simp only [POp.ev, place, sl_cells ((S.sl (r := (fz rLane)) (.tail _ (.head _)))).is, sl_tup ((S.sl (r := (fz rLane)) (.tail _ (.head _)))).is, sl_cells ((S.sl (r := (oSl (fz rEvent))) (.head _))).is, sl_tup ((S.sl (r := (oSl (fz rEvent))) (.head _))).is] <;> first | rfl | (simp [AV.cells, AV.isTup, splice]; done) | (simp [AV.cells, AV.isTup, splice]; rfl)) ?_
  refine ifP_iff.2 ⟨rfl, ?_⟩
  intro h108
  have S : St h none' [rowC h106.n [(NOp.mk (.appendNil 3 24) [a0_0] h.n), (.slice h102.n 0 0 ((lanes0.length : Int) : Int).toNat 1), (.int .i64 (0 : Int))] 0, own (oSl (oSl (fz rEvent))) [(.slice h102.n 0 0 ((lanes0.length : Int) : Int).toNat 1)] y105, own (oSl (fz rLane)) [(NOp.mk (.appendNil 3 24) [a0_0] h.n)] y101] h108 := S.pushRow [(NOp.mk (.appendNil 3 24) [a0_0] h.n), (.slice h102.n 0 0 ((lanes0.length : Int) : Int).toNat 1), (.int .i64 (0 : Int))]
  have S : St h none' [own (oSl (fz rLane)) [(NOp.mk (.appendNil 3 24) [a0_0] h.n)] y101, own (oSl (oSl (fz rEvent))) [(.slice h102.n 0 0 ((lanes0.length : Int) : Int).toNat 1)] y105, rowC h106.n [(NOp.mk (.appendNil 3 24) [a0_0] h.n), (.slice h102.n 0 0 ((lanes0.length : Int) : Int).toNat 1), (.int .i64 (0 : Int))] 0] h108 := S.sel [2, 1, 0] rfl
  have S : St h none' [own oBox [(NOp.mk (.appendNil 3 24) [a0_0] h.n), (.slice h102.n 0 0 ((lanes0.length : Int) : Int).toNat 1), (.int .i64 (0 : Int))] (TBox.mk y101 y105 (0 : Int)), rowC h106.n [(NOp.mk (.appendNil 3 24) [a0_0] h.n), (.slice h102.n 0 0 ((lanes0.length : Int) : Int).toNat 1), (.int .i64 (0 : Int))] 0] h108 := oBox_close (x := (TBox.mk y101 y105 (0 : Int))) S
  have S : St h none' [rowC h106.n [(NOp.mk (.appendNil 3 24) [a0_0] h.n), (.slice h102.n 0 0 ((lanes0.length : Int) : Int).toNat 1), (.int .i64 (0 : Int))] 0, own oBox [(NOp.mk (.appendNil 3 24) [a0_0] h.n), (.slice h102.n 0 0 ((lanes0.length : Int) : Int).toNat 1), (.int .i64 (0 : Int))] (TBox.mk y101 y105 (0 : Int))] h108 := S.sel [1, 0] rfl
  have S : St h none' [own (oPtr oBox) [(.ptr h106.n 0 0)] (some (TBox.mk y101 y105 (0 : Int)))] h108 := S.ptrClose
  obtain rfl := Option.some.inj hf
  exact S.sel [0] rfl
/-! 29: (*marblerun/mail.Box).Len -/
noncomputable def p29_j0 (b0 : Option TBox) (from1 : Int) (to2 : Int) (b107 : Bool) : Option Int := if b107 = true then (some (0 : Int)) else (b0.bind fun b112 => (p37 b112.lanes from1 to2).bind fun y117 => (idx b112.l y117).bind fun e118 => some (e118.length : Int))
noncomputable def p29 (b0 : Option TBox) (from1 : Int) (to2 : Int) : Option Int := if b0.isNone = true then (p29_j0 b0 from1 to2 true) else (b0.bind fun b121 => (p37 b121.lanes from1 to2).bind fun y126 => p29_j0 b0 from1 to2 (decide (y126 < (0 : Int))))
theorem r29 {h : Heap} {a0_0 : AV} {b0 : Option TBox} {from1 : Int} {to2 : Int} (f0_0 : PtR rBox (Snap h) a0_0 b0) {r : Int} (hf : p29 b0 from1 to2 = some r) : ZCalls F 29 [a0_0, (.int .i64 from1), (.int .i64 to2)] h fun v h' => v = .int .i64 r ∧ St h none' [] h' := by
  refine w29 ?_
  unfold W29
  unfold p29 at hf
  have S : St h none' [] h := St.refl _ _
  refine oP_intro (.bool b0.isNone) (ptr_eq f0_0) ⟨_, rfl, ?_⟩
  intro jjj0
  have hjj0 : ∀ (b107 : Bool) (h108 : Heap), p29_j0 b0 from1 to2 b107 = some r → St h none' [] h108 → jjj0 b107 h108 := by
    rintro b107 h108 hf S
    unfold p29_j0 at hf
    unfold jjj0
    refine bP_intro (fun hc => ?_) (fun hc => ?_)
    · rw [if_pos (show b107 = true from hc)] at hf
      obtain rfl := Option.some.inj hf
      exact ⟨rfl, S.sel [] rfl⟩
    · rw [if_neg (show ¬ (b107 = true) from by rw [show b107 = false from hc]; exact Bool.false_ne_true)] at hf
      obtain ⟨b112, hb112, hf⟩ := obind hf
      obtain ⟨o113, v114, rwb112, eP, gb112, Rb112⟩ := PtR.open (hb112 ▸ f0_0)
      subst eP
      obtain ⟨b112c_0, b112c_1, rfl, Fb112_0, Fb112_1⟩ := rBox_open Rb112
      refine oP_intro _ rfl ?_
      refine ifP_iff.2 ⟨rfl, ?_⟩
      have S_3 := S
      refine ⟨b112c_1, snap_rd1 (snap_mono S.le _ _ _ gb112) rfl, ?_⟩
      refine oP_intro (.ptr o113 v114 0) rfl ?_
      refine ifP_iff.2 ⟨rfl, ?_⟩
      refine ⟨b112c_0, snap_rd1 (snap_mono S.le _ _ _ gb112) rfl, ?_⟩
      have S_10 := S
      obtain ⟨y117, hy117, hf⟩ := obind hf
      refine (r37 (l0 := b112.lanes) (from1 := from1) (to2 := to2) (f0_0 := (SlR.mono (snap_mono S.le) Fb112_0)) hy117).mono fun v115 h116 T => ?_
      obtain ⟨rfl, T⟩ := T
      have S : St h none' [] h116 := S.comp T
      refine ⟨y117, rfl, ?_⟩
      have S_11 := S
      obtain ⟨e118, he118, hf⟩ := obind hf
      obtain ⟨qe118, q0e118, q1e118⟩ := SlR.ix Fb112_1 he118
      have pe118 := (SlR.idx Fb112_1 (snap_mono S.le) he118).1
      refine ifP_iff.2 ⟨qe118, q0e118, (by first | exact q1e118 | exact (idx_lt he118).2), ?_⟩
      obtain ⟨_, cr119, Rr119, Nr119, Or119, Zr119⟩ := SlR.idx Fb112_1 (snap_mono S.le) he118
      obtain ⟨cr119, rfl, Fr119⟩ := Rr119
      refine ⟨cr119, Zr119 _ rfl, ?_⟩
      refine ifP_iff.2 ⟨(Fr119).is, ?_⟩
      try rw [(Fr119).slen]
      refine ⟨⟨b112c_1, snap_rd1 (snap_mono S_3.le _ _ _ gb112) rfl, snap_rd1 (snap_mono S_10.le _ _ _ gb112) rfl, snap_rd1 (snap_mono S_11.le _ _ _ gb112) rfl⟩, ?_⟩
      obtain rfl := Option.some.inj hf
      exact ⟨rfl, S.sel [] rfl⟩
  refine bP_intro (fun hc => ?_) (fun hc => ?_)
  · rw [if_pos (show b0.isNone = true from hc)] at hf
    exact hjj0 _ _  hf  S
  · rw [if_neg (show ¬ (b0.isNone = true) from by rw [show b0.isNone = false from hc]; exact Bool.false_ne_true)] at hf
    obtain ⟨b121, hb121, hf⟩ := obind hf
    obtain ⟨o122, v123, rwb121, eP, gb121, Rb121⟩ := PtR.open (hb121 ▸ f0_0)
    subst eP
    obtain ⟨b121c_0, b121c_1, rfl, Fb121_0, Fb121_1⟩ := rBox_open Rb121
    refine oP_intro _ rfl ?_
    refine ifP_iff.2 ⟨rfl, ?_⟩
    refine ⟨b121c_0, snap_rd1 (snap_mono S.le _ _ _ gb121) rfl, ?_⟩
    obtain ⟨y126, hy126, hf⟩ := obind hf
    refine ⟨_, Fz.refl _, ?_⟩
    refine (r37 (l0 := b121.lanes) (from1 := from1) (to2 := to2) (f0_0 := (SlR.mono (snap_mono S.le) Fb121_0)) hy126).mono fun v124 h125 T => ?_
    obtain ⟨rfl, T⟩ := T
    have S : St h none' [] h125 := S.comp T
    refine ⟨y126, rfl, ?_⟩
    exact hjj0 _ _  hf  S
/-! 30: (*marblerun/mail.Box).All -/
noncomputable def p30_l0 (b101 : TBox) (st : Int × Int) : Option ((Int × Int) ⊕ Int) := match st with | (n104, y107) => if y107 < (b101.l.length : Int) then ((idx b101.l y107).bind fun e121 => some (.inl ((IntKind.wrap .i64 (n104 + (e121.length : Int))), (IntKind.wrap .i64 (y107 + (1 : Int)))))) else (some (.inr n104))
noncomputable def p30 (b0 : Option TBox) : Option Int := if b0.isNone = true then (some (0 : Int)) else (b0.bind fun b101 => (loopC (p30_l0 b101) ((0 : Int), (0 : Int))).bind fun res117 => ((fun (n112 : Int) => some n112) res117))
theorem r30 {h : Heap} {a0_0 : AV} {b0 : Option TBox} (f0_0 : PtR rBox (Snap h) a0_0 b0) {r : Int} (hf : p30 b0 = some r) : ZCalls F 30 [a0_0] h fun v h' => v = .int .i64 r ∧ St h none' [] h' := by
  refine w30 ?_
  unfold W30
  unfold p30 at hf
  have S : St h none' [] h := St.refl _ _
  refine oP_intro (.bool b0.isNone) (ptr_eq f0_0) ⟨_, rfl, ?_⟩
  refine bP_intro (fun hc => ?_) (fun hc => ?_)
  · rw [if_pos (show b0.isNone = true from hc)] at hf
    obtain rfl := Option.some.inj hf
    exact ⟨rfl, S.sel [] rfl⟩
  · rw [if_neg (show ¬ (b0.isNone = true) from by rw [show b0.isNone = false from hc]; exact Bool.false_ne_true)] at hf
    obtain ⟨b101, hb101, hf⟩ := obind hf
    obtain ⟨o102, v103, rwb101, eP, gb101, Rb101⟩ := PtR.open (hb101 ▸ f0_0)
    subst eP
    obtain ⟨b101c_0, b101c_1, rfl, Fb101_0, Fb101_1⟩ := rBox_open Rb101
    refine oP_intro _ rfl ?_
    refine ifP_iff.2 ⟨rfl, ?_⟩
    refine ⟨b101c_1, snap_rd1 (snap_mono S.le _ _ _ gb101) rfl, ?_⟩
    refine ifP_iff.2 ⟨(Fb101_1).is, ?_⟩
    try rw [(Fb101_1).slen]
    obtain ⟨res117, hL, hf⟩ := obind hf
    obtain ⟨n118, hL⟩ := loopC_iff.1 hL
    refine loopm30_0 (X0 := fun (n112 : Int) (y113 : AV) (y114 : Int) (y115 : Int) (h116 : Heap) => St h none' [] h116 ∧ n112 = res117) ?_ (loop30_0 (I := fun (m120 : Nat) (n104 : Int) (y105 : AV) (y106 : Int) (y107 : Int) (h108 : Heap) => b101c_1 = y105 ∧ (b101.l.length : Int) = y106 ∧ St h none' [] h108 ∧ iter (p30_l0 b101) m120 (n104, y107) = some res117) ?_ (m := n118) ?_)
    · rintro n112 y113 y114 y115 h116 ⟨S, rfl⟩
      try dsimp only at hf
      obtain rfl := Option.some.inj hf
      exact ⟨rfl, S.sel [] rfl⟩
    · rintro m1200 n104 y105 y106 y107 h108 ⟨rfl, rfl, S, hit⟩
      obtain ⟨m120, q119, rfl, hf, hk⟩ := iter_some hit
      clear hit
      unfold B30_0
      unfold p30_l0 at hf
      try dsimp only at hf
      refine bP_intro (fun hc => ?_) (fun hc => ?_)
      · rw [if_pos (show y107 < (b101.l.length : Int) from of_decide_eq_true hc)] at hf
        obtain ⟨e121, he121, hf⟩ := obind hf
        obtain ⟨qe121, q0e121, q1e121⟩ := SlR.ix Fb101_1 he121
        have pe121 := (SlR.idx Fb101_1 (snap_mono S.le) he121).1
        refine ifP_iff.2 ⟨qe121, q0e121, (by first | exact q1e121 | exact (idx_lt he121).2), ?_⟩
        obtain ⟨_, cr122, Rr122, Nr122, Or122, Zr122⟩ := SlR.idx Fb101_1 (snap_mono S.le) he121
        obtain ⟨cr122, rfl, Fr122⟩ := Rr122
        refine ⟨cr122, Zr122 _ rfl, ?_⟩
        refine ifP_iff.2 ⟨(Fr122).is, ?_⟩
        try rw [(Fr122).slen]
        obtain rfl := Option.some.inj hf
        exact ⟨m120, Nat.lt_succ_self _, rfl, rfl, S, hk⟩
      · rw [if_neg (show ¬ (y107 < (b101.l.length : Int)) from of_decide_eq_false hc)] at hf
        obtain rfl := Option.some.inj hf
        obtain rfl := hk
        exact ⟨S, rfl⟩
    · exact ⟨rfl, rfl, S, hL⟩
/-! 31: (*marblerun/mail.Box).Sent -/
noncomputable def p31 (b0 : Option TBox) : Option Int := if b0.isNone = true then (some (0 : Int)) else (b0.bind fun b101 => some b101.sent)
theorem r31 {h : Heap} {a0_0 : AV} {b0 : Option TBox} (f0_0 : PtR rBox (Snap h) a0_0 b0) {r : Int} (hf : p31 b0 = some r) : ZCalls F 31 [a0_0] h fun v h' => v = .int .i64 r ∧ St h none' [] h' := by
  refine w31 ?_
  unfold W31
  unfold p31 at hf
  have S : St h none' [] h := St.refl _ _
  refine oP_intro (.bool b0.isNone) (ptr_eq f0_0) ⟨_, rfl, ?_⟩
  refine bP_intro (fun hc => ?_) (fun hc => ?_)
  · rw [if_pos (show b0.isNone = true from hc)] at hf
    obtain rfl := Option.some.inj hf
    exact ⟨rfl, S.sel [] rfl⟩
  · rw [if_neg (show ¬ (b0.isNone = true) from by rw [show b0.isNone = false from hc]; exact Bool.false_ne_true)] at hf
    obtain ⟨b101, hb101, hf⟩ := obind hf
    obtain ⟨o102, v103, rwb101, eP, gb101, Rb101⟩ := PtR.open (hb101 ▸ f0_0)
    subst eP
    obtain ⟨b101c_0, b101c_1, rfl, Fb101_0, Fb101_1⟩ := rBox_open Rb101
    refine oP_intro _ rfl ?_
    refine ifP_iff.2 ⟨rfl, ?_⟩
    refine ⟨b101.sent, snap_rd1 (snap_mono S.le _ _ _ gb101) rfl, ?_⟩
    obtain rfl := Option.some.inj hf
    exact ⟨rfl, S.sel [] rfl⟩
/-! 27: (*marblerun/mail.Box).Send -/
noncomputable def p27_j0 (m1 : TMail) (b113 : Bool) (l117 : Option TBox) : Option (Bool × (Option TBox)) := if b113 = true then (some (false, l117)) else (l117.bind fun b118 => (p37 b118.lanes m1.From m1.To).bind fun y126 => (idx b118.l y126).bind fun e127 => (app 24 e127 [(TEvent.mk m1.E.Time m1.E.Place m1.E.N)]).bind fun e136 => some (true, (some (TBox.mk b118.lanes (b118.l.set (y126 : Int).toNat e136) (IntKind.wrap .i64 (b118.sent + (1 : Int)))))))
noncomputable def p27 (b0 : Option TBox) (m1 : TMail) : Option (Bool × (Option TBox)) := if b0.isNone = true then (p27_j0 m1 true b0) else (b0.bind fun b146 => (p37 b146.lanes m1.From m1.To).bind fun y154 => p27_j0 m1 (decide (y154 < (0 : Int))) (some b146))
theorem r27 {h : Heap} {a0_0 : AV} {M : Nat → Prop} {b0 : Option TBox} {m1 : TMail} (S : St h M [own (oPtr oBox) [a0_0] b0] h) {r : Bool × (Option TBox)} (hf : p27 b0 m1 = some r) : ZCalls F 27 [a0_0, (.agg [(.int .i64 m1.From), (.int .i64 m1.To), (.int .i64 m1.E.Time), (.int .i64 m1.E.Place), (.int .i64 m1.E.N)])] h fun v h' => v = .bool r.1 ∧ St h M [own (oPtr oBox) [a0_0] r.2] h' := by
  refine w27 ?_
  unfold W27
  unfold p27 at hf
  intro h102
  have S : St h M [rowC h.n [(.int .i64 m1.From), (.int .i64 m1.To), (.int .i64 m1.E.Time), (.int .i64 m1.E.Place), (.int .i64 m1.E.N)] 0, own (oPtr oBox) [a0_0] b0] h102 := S.pushRow [(.int .i64 m1.From), (.int .i64 m1.To), (.int .i64 m1.E.Time), (.int .i64 m1.E.Place), (.int .i64 m1.E.N)]
  refine oP_intro (.bool b0.isNone) (ptr_eq (S.pt (r := oBox) (.tail _ (.head _)))) ⟨_, rfl, ?_⟩
  intro jjj0
  have hjj0 : ∀ (b113 : Bool) (h114 : Heap) (l117 : Option TBox), p27_j0 m1 b113 l117 = some r → St h M [own (oPtr oBox) [a0_0] l117, rowC h.n [(.int .i64 m1.From), (.int .i64 m1.To), (.int .i64 m1.E.Time), (.int .i64 m1.E.Place), (.int .i64 m1.E.N)] 0] h114 → jjj0 b113 h114 := by
    rintro b113 h114 l117 hf S
    unfold p27_j0 at hf
    unfold jjj0
    refine bP_intro (fun hc => ?_) (fun hc => ?_)
    · rw [if_pos (show b113 = true from hc)] at hf
      obtain rfl := Option.some.inj hf
      exact ⟨rfl, S.sel [0] rfl⟩
    · rw [if_neg (show ¬ (b113 = true) from by rw [show b113 = false from hc]; exact Bool.false_ne_true)] at hf
      obtain ⟨b118, hb118, hf⟩ := obind hf
      have S : St h M [own (oPtr oBox) [a0_0] (some b118), rowC h.n [(.int .i64 m1.From), (.int .i64 m1.To), (.int .i64 m1.E.Time), (.int .i64 m1.E.Place), (.int .i64 m1.E.N)] 0] h114 := S.cast (by rw [hb118])
      obtain ⟨o119, v120, rwb118, eP, S2⟩ := St.ptrOpen S
      subst eP
      have S := S2
      have S := S.swap
      obtain ⟨b118c_0, b118c_1, eS, S2⟩ := oBox_open S
      subst eS
      have S := S2
      have S : St h M [own (oSl (fz rLane)) [b118c_0] b118.lanes, own (oSl (oSl (fz rEvent))) [b118c_1] b118.l, rowC o119 [b118c_0, b118c_1, (.int .i64 b118.sent)] v120, rowC h.n [(.int .i64 m1.From), (.int .i64 m1.To), (.int .i64 m1.E.Time), (.int .i64 m1.E.Place), (.int .i64 m1.E.N)] 0] h114 := S
      refine oP_intro _ rfl ?_
      refine ifP_iff.2 ⟨rfl, ?_⟩
      refine ⟨b118c_0, S.rd1 (.tail _ (.tail _ (.head _))) rfl, ?_⟩
      refine ifP_iff.2 ⟨rfl, ?_⟩
      refine ⟨m1.From, S.rd1 (.tail _ (.tail _ (.tail _ (.head _)))) rfl, ?_⟩
      refine ifP_iff.2 ⟨rfl, ?_⟩
      refine ⟨m1.To, S.rd1 (.tail _ (.tail _ (.tail _ (.head _)))) rfl, ?_⟩
      obtain ⟨y126, hy126, hf⟩ := obind hf
      refine ⟨_, Fz.refl _, ?_⟩
      refine (r37 (l0 := b118.lanes) (from1 := m1.From) (to2 := m1.To) (f0_0 := (S.sl (r := (fz rLane)) (.head _))) hy126).mono fun v124 h125 T => ?_
      obtain ⟨rfl, T⟩ := T
      have S : St h M [own (oSl (fz rLane)) [b118c_0] b118.lanes, own (oSl (oSl (fz rEvent))) [b118c_1] b118.l, rowC o119 [b118c_0, b118c_1, (.int .i64 b118.sent)] v120, rowC h.n [(.int .i64 m1.From), (.int .i64 m1.To), (.int .i64 m1.E.Time), (.int .i64 m1.E.Place), (.int .i64 m1.E.N)] 0] h125 := S.comp T
      refine ⟨y126, rfl, ?_⟩
      refine oP_intro (.ptr o119 v120 0) rfl ?_
      refine ifP_iff.2 ⟨rfl, ?_⟩
      have S_3 := S
      refine ⟨b118c_1, S.rd1 (.tail _ (.tail _ (.head _))) rfl, ?_⟩
      refine oP_intro (.ptr o119 v120 0) rfl ?_
      refine ifP_iff.2 ⟨rfl, ?_⟩
      refine ⟨b118c_1, S.rd1 (.tail _ (.tail _ (.head _))) rfl, ?_⟩
      obtain ⟨e127, he127, hf⟩ := obind hf
      obtain ⟨qe127, q0e127, q1e127⟩ := SlR.ix (S.sl (r := (oSl (fz rEvent))) (.tail _ (.head _))) he127
      have pe127 := (SlR.idx (S.sl (r := (oSl (fz rEvent))) (.tail _ (.head _))) (Hp.le_refl _) he127).1
      refine ifP_iff.2 ⟨qe127, q0e127, (by first | exact q1e127 | exact (idx_lt he127).2), ?_⟩
      have S : St h M [own (oSl (oSl (fz rEvent))) [b118c_1] b118.l, own (oSl (fz rLane)) [b118c_0] b118.lanes, rowC o119 [b118c_0, b118c_1, (.int .i64 b118.sent)] v120, rowC h.n [(.int .i64 m1.From), (.int .i64 m1.To), (.int .i64 m1.E.Time), (.int .i64 m1.E.Place), (.int .i64 m1.E.N)] 0] h125 := S.sel [1, 0, 2, 3] rfl
      obtain ⟨cc129, lc129, S⟩ := St.out S he127
      obtain ⟨c129, rfl⟩ : ∃ a, cc129 = [a] := len1' lc129
      have S : St h M [own (oSl (fz rEvent)) [c129] e127, hole (oSl (fz rEvent)) b118c_1 b118.l (y126 : Int).toNat [c129], own (oSl (fz rLane)) [b118c_0] b118.lanes, rowC o119 [b118c_0, b118c_1, (.int .i64 b118.sent)] v120, rowC h.n [(.int .i64 m1.From), (.int .i64 m1.To), (.int .i64 m1.E.Time), (.int .i64 m1.E.Place), (.int .i64 m1.E.N)] 0] h125 := S
      refine ⟨c129, (S.hrd (.tail _ (.head _))).2.2.2.2.2 _ rfl, ?_⟩
      refine ifP_iff.2 ⟨rfl, ?_⟩
      refine ⟨(.int .i64 m1.E.Time), (.int .i64 m1.E.Place), (.int .i64 m1.E.N), S.rdN (.tail _ (.tail _ (.tail _ (.tail _ (.head _))))) (Nat.le_of_ble_eq_true rfl) rfl, ?_⟩
      intro h132
      have S : St h M [rowC h125.n [(.int .i64 m1.E.Time), (.int .i64 m1.E.Place), (.int .i64 m1.E.N)] 0, own (oSl (fz rEvent)) [c129] e127, hole (oSl (fz rEvent)) b118c_1 b118.l (y126 : Int).toNat [c129], own (oSl (fz rLane)) [b118c_0] b118.lanes, rowC o119 [b118c_0, b118c_1, (.int .i64 b118.sent)] v120, rowC h.n [(.int .i64 m1.From), (.int .i64 m1.To), (.int .i64 m1.E.Time), (.int .i64 m1.E.Place), (.int .i64 m1.E.N)] 0] h132 := S.pushRow [(.int .i64 m1.E.Time), (.int .i64 m1.E.Place), (.int .i64 m1.E.N)]
      have S_15 := S
      obtain ⟨e136, he136, hf⟩ := obind hf
      have S : St h M [own (fz rEvent) [(.int .i64 m1.E.Time), (.int .i64 m1.E.Place), (.int .i64 m1.E.N)] (TEvent.mk m1.E.Time m1.E.Place m1.E.N), rowC h125.n [(.int .i64 m1.E.Time), (.int .i64 m1.E.Place), (.int .i64 m1.E.N)] 0, own (oSl (fz rEvent)) [c129] e127, hole (oSl (fz rEvent)) b118c_1 b118.l (y126 : Int).toNat [c129], own (oSl (fz rLane)) [b118c_0] b118.lanes, rowC o119 [b118c_0, b118c_1, (.int .i64 b118.sent)] v120, rowC h.n [(.int .i64 m1.From), (.int .i64 m1.To), (.int .i64 m1.E.Time), (.int .i64 m1.E.Place), (.int .i64 m1.E.N)] 0] h132 := S.add (r := rEvent) (x := (TEvent.mk m1.E.Time m1.E.Place m1.E.N)) (rEvent_mk (x := (TEvent.mk m1.E.Time m1.E.Place m1.E.N)))
      have S : St h M [own (oSl (fz rEvent)) [c129] e127, own (fz rEvent) [(.int .i64 m1.E.Time), (.int .i64 m1.E.Place), (.int .i64 m1.E.N)] (TEvent.mk m1.E.Time m1.E.Place m1.E.N), rowC h125.n [(.int .i64 m1.E.Time), (.int .i64 m1.E.Place), (.int .i64 m1.E.N)] 0, hole (oSl (fz rEvent)) b118c_1 b118.l (y126 : Int).toNat [c129], own (oSl (fz rLane)) [b118c_0] b118.lanes, rowC o119 [b118c_0, b118c_1, (.int .i64 b118.sent)] v120, rowC h.n [(.int .i64 m1.From), (.int .i64 m1.To), (.int .i64 m1.E.Time), (.int .i64 m1.E.Place), (.int .i64 m1.E.N)] 0] h132 := S.sel [2, 0, 1, 3, 4, 5, 6] rfl
      have me136 := app_some he136
      obtain ⟨v135, h134, e137, S⟩ := St.app1R (r := (fz rEvent)) (b := 24) S me136.1
      have S : St h M [own (oSl (fz rEvent)) [v135] e136, hole (oSl (fz rEvent)) b118c_1 b118.l (y126 : Int).toNat [c129], own (oSl (fz rLane)) [b118c_0] b118.lanes, rowC o119 [b118c_0, b118c_1, (.int .i64 b118.sent)] v120, rowC h.n [(.int .i64 m1.From), (.int .i64 m1.To), (.int .i64 m1.E.Time), (.int .i64 m1.E.Place), (.int .i64 m1.E.N)] 0] h134 := S.cast (by rw [← me136.2] <;> rfl)
      refine ⟨v135, h134, e137, ?_⟩
      have S_16 := S
      have p139 := (S.hrd (.tail _ (.head _))).2.2.1
      refine ifP_iff.2 ⟨(S.hrd (.tail _ (.head _))).1, (idx_lt he127).1, (by first | exact (idx_lt he127).2 | (have hq := (S.hrd (.tail _ (.head _))).2.1; have hq0 := (idx_lt he127).1; omega)), ?_⟩
      have S : St h M [hole (oSl (fz rEvent)) b118c_1 b118.l (y126 : Int).toNat [c129], own (oSl (fz rEvent)) [v135] e136, own (oSl (fz rLane)) [b118c_0] b118.lanes, rowC o119 [b118c_0, b118c_1, (.int .i64 b118.sent)] v120, rowC h.n [(.int .i64 m1.From), (.int .i64 m1.To), (.int .i64 m1.E.Time), (.int .i64 m1.E.Place), (.int .i64 m1.E.N)] 0] h134 := S.sel [1, 0, 2, 3, 4] rfl
      obtain ⟨h140, e141, S⟩ := S.hset (k := 0) (n := 1) (y := v135) (c' := [v135]) (by rw [sl_cells ((S.sl (r := (fz rEvent)) (.tail _ (.head _)))).is]; rfl) (sl_tup ((S.sl (r := (fz rEvent)) (.tail _ (.head _)))).is) (Nat.le_of_ble_eq_true rfl) (by rw [sl_cells ((S.sl (r := (fz rEvent)) (.tail _ (.head _)))).is]; rfl)
      rw [padd_zero] at e141
      have S : St h M [hole (oSl (fz rEvent)) b118c_1 b118.l (y126 : Int).toNat [v135], own (oSl (fz rEvent)) [v135] e136, own (oSl (fz rLane)) [b118c_0] b118.lanes, rowC o119 [b118c_0, b118c_1, (.int .i64 b118.sent)] v120, rowC h.n [(.int .i64 m1.From), (.int .i64 m1.To), (.int .i64 m1.E.Time), (.int .i64 m1.E.Place), (.int .i64 m1.E.N)] 0] h140 := S
      refine ⟨h140, e141, ?_⟩
      refine ⟨⟨b118c_1, S_3.rd1 (.tail _ (.tail _ (.head _))) rfl, S_15.rd1 (.tail _ (.tail _ (.tail _ (.tail _ (.head _))))) rfl, S_16.rd1 (.tail _ (.tail _ (.tail _ (.head _)))) rfl⟩, ?_⟩
      have S : St h M [own (oSl (fz rEvent)) [v135] e136, hole (oSl (fz rEvent)) b118c_1 b118.l (y126 : Int).toNat [v135], own (oSl (fz rLane)) [b118c_0] b118.lanes, rowC o119 [b118c_0, b118c_1, (.int .i64 b118.sent)] v120, rowC h.n [(.int .i64 m1.From), (.int .i64 m1.To), (.int .i64 m1.E.Time), (.int .i64 m1.E.Place), (.int .i64 m1.E.N)] 0] h140 := S.sel [1, 0, 2, 3, 4] rfl
      have S : St h M [own (oSl (oSl (fz rEvent))) [b118c_1] (b118.l.set (y126 : Int).toNat e136), own (oSl (fz rLane)) [b118c_0] b118.lanes, rowC o119 [b118c_0, b118c_1, (.int .i64 b118.sent)] v120, rowC h.n [(.int .i64 m1.From), (.int .i64 m1.To), (.int .i64 m1.E.Time), (.int .i64 m1.E.Place), (.int .i64 m1.E.N)] 0] h140 := S.back
      refine oP_intro (.ptr o119 v120 0) rfl ?_
      refine ifP_iff.2 ⟨rfl, ?_⟩
      refine ⟨b118.sent, S.rd1 (.tail _ (.tail _ (.head _))) rfl, ?_⟩
      refine oP_intro (.ptr o119 v120 0) rfl ?_
      refine ifP_iff.2 ⟨rfl, ?_⟩
      have S : St h M [rowC o119 [b118c_0, b118c_1, (.int .i64 b118.sent)] v120, own (oSl (oSl (fz rEvent))) [b118c_1] (b118.l.set (y126 : Int).toNat e136), own (oSl (fz rLane)) [b118c_0] b118.lanes, rowC h.n [(.int .i64 m1.From), (.int .i64 m1.To), (.int .i64 m1.E.Time), (.int .i64 m1.E.Place), (.int .i64 m1.E.N)] 0] h140 := S.sel [2, 0, 1, 3] rfl
      obtain ⟨h142, e143, S⟩ := S.store (off := 2) (n := 1) (x := (.int .i64 (IntKind.wrap .i64 (b118.sent + (1 : Int))))) (cs' := [b118c_0, b118c_1, (.int .i64 (IntKind.wrap .i64 (b118.sent + (1 : Int))))]) (Nat.le_of_ble_eq_true rfl) rfl rfl rfl
      have S : St h M [rowC o119 [b118c_0, b118c_1, (.int .i64 (IntKind.wrap .i64 (b118.sent + (1 : Int))))] v120, own (oSl (oSl (fz rEvent))) [b118c_1] (b118.l.set (y126 : Int).toNat e136), own (oSl (fz rLane)) [b118c_0] b118.lanes, rowC h.n [(.int .i64 m1.From), (.int .i64 m1.To), (.int .i64 m1.E.Time), (.int .i64 m1.E.Place), (.int .i64 m1.E.N)] 0] h142 := S
      refine ⟨h142, e143, ?_⟩
      have S : St h M [own (oSl (fz rLane)) [b118c_0] b118.lanes, own (oSl (oSl (fz rEvent))) [b118c_1] (b118.l.set (y126 : Int).toNat e136), rowC o119 [b118c_0, b118c_1, (.int .i64 (IntKind.wrap .i64 (b118.sent + (1 : Int))))] v120, rowC h.n [(.int .i64 m1.From), (.int .i64 m1.To), (.int .i64 m1.E.Time), (.int .i64 m1.E.Place), (.int .i64 m1.E.N)] 0] h142 := S.sel [2, 1, 0, 3] rfl
      have S : St h M [own oBox [b118c_0, b118c_1, (.int .i64 (IntKind.wrap .i64 (b118.sent + (1 : Int))))] (TBox.mk b118.lanes (b118.l.set (y126 : Int).toNat e136) (IntKind.wrap .i64 (b118.sent + (1 : Int)))), rowC o119 [b118c_0, b118c_1, (.int .i64 (IntKind.wrap .i64 (b118.sent + (1 : Int))))] v120, rowC h.n [(.int .i64 m1.From), (.int .i64 m1.To), (.int .i64 m1.E.Time), (.int .i64 m1.E.Place), (.int .i64 m1.E.N)] 0] h142 := oBox_close (x := (TBox.mk b118.lanes (b118.l.set (y126 : Int).toNat e136) (IntKind.wrap .i64 (b118.sent + (1 : Int))))) S
      have S : St h M [rowC o119 [b118c_0, b118c_1, (.int .i64 (IntKind.wrap .i64 (b118.sent + (1 : Int))))] v120, own oBox [b118c_0, b118c_1, (.int .i64 (IntKind.wrap .i64 (b118.sent + (1 : Int))))] (TBox.mk b118.lanes (b118.l.set (y126 : Int).toNat e136) (IntKind.wrap .i64 (b118.sent + (1 : Int)))), rowC h.n [(.int .i64 m1.From), (.int .i64 m1.To), (.int .i64 m1.E.Time), (.int .i64 m1.E.Place), (.int .i64 m1.E.N)] 0] h142 := S.sel [1, 0, 2] rfl
      have S : St h M [own (oPtr oBox) [(.ptr o119 v120 0)] (some (TBox.mk b118.lanes (b118.l.set (y126 : Int).toNat e136) (IntKind.wrap .i64 (b118.sent + (1 : Int))))), rowC h.n [(.int .i64 m1.From), (.int .i64 m1.To), (.int .i64 m1.E.Time), (.int .i64 m1.E.Place), (.int .i64 m1.E.N)] 0] h142 := S.ptrClose
      obtain rfl := Option.some.inj hf
      exact ⟨rfl, S.sel [0] rfl⟩
  refine bP_intro (fun hc => ?_) (fun hc => ?_)
  · rw [if_pos (show b0.isNone = true from hc)] at hf
    have S : St h M [own (oPtr oBox) [a0_0] b0, rowC h.n [(.int .i64 m1.From), (.int .i64 m1.To), (.int .i64 m1.E.Time), (.int .i64 m1.E.Place), (.int .i64 m1.E.N)] 0] h102 := S.sel [1, 0] rfl
    exact hjj0 _ _ b0 hf  S
  · rw [if_neg (show ¬ (b0.isNone = true) from by rw [show b0.isNone = false from hc]; exact Bool.false_ne_true)] at hf
    obtain ⟨b146, hb146, hf⟩ := obind hf
    have S : St h M [own (oPtr oBox) [a0_0] b0, rowC h.n [(.int .i64 m1.From), (.int .i64 m1.To), (.int .i64 m1.E.Time), (.int .i64 m1.E.Place), (.int .i64 m1.E.N)] 0] h102 := S.sel [1, 0] rfl
    have S : St h M [own (oPtr oBox) [a0_0] (some b146), rowC h.n [(.int .i64 m1.From), (.int .i64 m1.To), (.int .i64 m1.E.Time), (.int .i64 m1.E.Place), (.int .i64 m1.E.N)] 0] h102 := S.cast (by rw [hb146])
    obtain ⟨o147, v148, rwb146, eP, S2⟩ := St.ptrOpen S
    subst eP
    have S := S2
    have S := S.swap
    obtain ⟨b146c_0, b146c_1, eS, S2⟩ := oBox_open S
    subst eS
    have S := S2
    have S : St h M [own (oSl (fz rLane)) [b146c_0] b146.lanes, own (oSl (oSl (fz rEvent))) [b146c_1] b146.l, rowC o147 [b146c_0, b146c_1, (.int .i64 b146.sent)] v148, rowC h.n [(.int .i64 m1.From), (.int .i64 m1.To), (.int .i64 m1.E.Time), (.int .i64 m1.E.Place), (.int .i64 m1.E.N)] 0] h102 := S
    refine oP_intro _ rfl ?_
    refine ifP_iff.2 ⟨rfl, ?_⟩
    refine ⟨b146c_0, S.rd1 (.tail _ (.tail _ (.head _))) rfl, ?_⟩
    refine ⟨m1.From, S.rd1 (.tail _ (.tail _ (.tail _ (.head _)))) rfl, ?_⟩
    refine ⟨m1.To, S.rd1 (.tail _ (.tail _ (.tail _ (.head _)))) rfl, ?_⟩
    obtain ⟨y154, hy154, hf⟩ := obind hf
    refine ⟨_, Fz.refl _, ?_⟩
    refine (r37 (l0 := b146.lanes) (from1 := m1.From) (to2 := m1.To) (f0_0 := (S.sl (r := (fz rLane)) (.head _))) hy154).mono fun v152 h153 T => ?_
    obtain ⟨rfl, T⟩ := T
    have S : St h M [own (oSl (fz rLane)) [b146c_0] b146.lanes, own (oSl (oSl (fz rEvent))) [b146c_1] b146.l, rowC o147 [b146c_0, b146c_1, (.int .i64 b146.sent)] v148, rowC h.n [(.int .i64 m1.From), (.int .i64 m1.To), (.int .i64 m1.E.Time), (.int .i64 m1.E.Place), (.int .i64 m1.E.N)] 0] h153 := S.comp T
    refine ⟨y154, rfl, ?_⟩
    have S : St h M [own oBox [b146c_0, b146c_1, (.int .i64 b146.sent)] b146, rowC o147 [b146c_0, b146c_1, (.int .i64 b146.sent)] v148, rowC h.n [(.int .i64 m1.From), (.int .i64 m1.To), (.int .i64 m1.E.Time), (.int .i64 m1.E.Place), (.int .i64 m1.E.N)] 0] h153 := oBox_close (x := b146) S
    have S : St h M [rowC o147 [b146c_0, b146c_1, (.int .i64 b146.sent)] v148, own oBox [b146c_0, b146c_1, (.int .i64 b146.sent)] b146, rowC h.n [(.int .i64 m1.From), (.int .i64 m1.To), (.int .i64 m1.E.Time), (.int .i64 m1.E.Place), (.int .i64 m1.E.N)] 0] h153 := S.sel [1, 0, 2] rfl
    have S : St h M [own (oPtr oBox) [(.ptr o147 v148 0)] (some b146), rowC h.n [(.int .i64 m1.From), (.int .i64 m1.To), (.int .i64 m1.E.Time), (.int .i64 m1.E.Place), (.int .i64 m1.E.N)] 0] h153 := S.ptrClose
    exact hjj0 _ _ (some b146) hf  S
/-! 28: (*marblerun/mail.Box).Take -/
noncomputable def p28 (b0 : Option TBox) (from1 : Int) (to2 : Int) : Option (TMail × Bool × (Option TBox)) := (p29 b0 from1 to2).bind fun y106 => if y106 = (0 : Int) then (some ((TMail.mk (0 : Int) (0 : Int) (TEvent.mk (0 : Int) (0 : Int) (0 : Int))), false, b0)) else (b0.bind fun b109 => (p37 b109.lanes from1 to2).bind fun y117 => (idx b109.l y117).bind fun e118 => (idx e118 (0 : Int)).bind fun e120 => (idx b109.l y117).bind fun e126 => (slc e126 (1 : Int) (e126.length : Int)).bind fun y131 => some ((TMail.mk from1 to2 e120), true, (some (TBox.mk b109.lanes (b109.l.set (y117 : Int).toNat y131) b109.sent))))
theorem r28 {h : Heap} {a0_0 : AV} {M : Nat → Prop} {b0 : Option TBox} {from1 : Int} {to2 : Int} (S : St h M [own (oPtr oBox) [a0_0] b0] h) {r : TMail × Bool × (Option TBox)} (hf : p28 b0 from1 to2 = some r) : ZCalls F 28 [a0_0, (.int .i64 from1), (.int .i64 to2)] h fun v h' => v = .tuple [.agg [.int .i64 r.1.From, .int .i64 r.1.To, .int .i64 r.1.E.Time, .int .i64 r.1.E.Place, .int .i64 r.1.E.N], .bool r.2.1] ∧ St h M [own (oPtr oBox) [a0_0] r.2.2] h' := by
  refine w28 ?_
  unfold W28
  unfold p28 at hf
  intro h102
  have S : St h M [rowC h.n [(.int .i64 (0 : Int)), (.int .i64 (0 : Int)), (.int .i64 (0 : Int)), (.int .i64 (0 : Int)), (.int .i64 (0 : Int))] 0, own (oPtr oBox) [a0_0] b0] h102 := S.pushRow [(.int .i64 (0 : Int)), (.int .i64 (0 : Int)), (.int .i64 (0 : Int)), (.int .i64 (0 : Int)), (.int .i64 (0 : Int))]
  obtain ⟨y106, hy106, hf⟩ := obind hf
  refine ⟨_, Fz.refl _, ?_⟩
  refine (r29 (b0 := b0) (from1 := from1) (to2 := to2) (f0_0 := S.pt (r := oBox) (.tail _ (.head _))) hy106).mono fun v104 h105 T => ?_
  obtain ⟨rfl, T⟩ := T
  have S : St h M [rowC h.n [(.int .i64 (0 : Int)), (.int .i64 (0 : Int)), (.int .i64 (0 : Int)), (.int .i64 (0 : Int)), (.int .i64 (0 : Int))] 0, own (oPtr oBox) [a0_0] b0] h105 := S.comp T
  refine ⟨y106, rfl, ?_⟩
  refine bP_intro (fun hc => ?_) (fun hc => ?_)
  · rw [if_pos (show y106 = (0 : Int) from of_decide_eq_true hc)] at hf
    obtain ⟨h107, e108, S⟩ := S.store (off := 0) (n := 5) (x := (.agg [(.int .i64 (0 : Int)), (.int .i64 (0 : Int)), (.int .i64 (0 : Int)), (.int .i64 (0 : Int)), (.int .i64 (0 : Int))])) (cs' := [(.int .i64 (0 : Int)), (.int .i64 (0 : Int)), (.int .i64 (0 : Int)), (.int .i64 (0 : Int)), (.int .i64 (0 : Int))]) (Nat.le_of_ble_eq_true rfl) rfl rfl rfl
    have S : St h M [rowC h.n [(.int .i64 (0 : Int)), (.int .i64 (0 : Int)), (.int .i64 (0 : Int)), (.int .i64 (0 : Int)), (.int .i64 (0 : Int))] 0, own (oPtr oBox) [a0_0] b0] h107 := S
    refine ⟨h107, e108, ?_⟩
    refine ⟨(.int .i64 (0 : Int)), (.int .i64 (0 : Int)), (.int .i64 (0 : Int)), (.int .i64 (0 : Int)), (.int .i64 (0 : Int)), S.rdN (.head _) (Nat.le_of_ble_eq_true rfl) rfl, ?_⟩
    obtain rfl := Option.some.inj hf
    exact ⟨rfl, S.sel [1] rfl⟩
  · rw [if_neg (show ¬ (y106 = (0 : Int)) from of_decide_eq_false hc)] at hf
    obtain ⟨b109, hb109, hf⟩ := obind hf
    have S : St h M [own (oPtr oBox) [a0_0] b0, rowC h.n [(.int .i64 (0 : Int)), (.int .i64 (0 : Int)), (.int .i64 (0 : Int)), (.int .i64 (0 : Int)), (.int .i64 (0 : Int))] 0] h105 := S.sel [1, 0] rfl
    have S : St h M [own (oPtr oBox) [a0_0] (some b109), rowC h.n [(.int .i64 (0 : Int)), (.int .i64 (0 : Int)), (.int .i64 (0 : Int)), (.int .i64 (0 : Int)), (.int .i64 (0 : Int))] 0] h105 := S.cast (by rw [hb109])
    obtain ⟨o110, v111, rwb109, eP, S2⟩ := St.ptrOpen S
    subst eP
    have S := S2
    have S := S.swap
    obtain ⟨b109c_0, b109c_1, eS, S2⟩ := oBox_open S
    subst eS
    have S := S2
    have S : St h M [own (oSl (fz rLane)) [b109c_0] b109.lanes, own (oSl (oSl (fz rEvent))) [b109c_1] b109.l, rowC o110 [b109c_0, b109c_1, (.int .i64 b109.sent)] v111, rowC h.n [(.int .i64 (0 : Int)), (.int .i64 (0 : Int)), (.int .i64 (0 : Int)), (.int .i64 (0 : Int)), (.int .i64 (0 : Int))] 0] h105 := S
    refine oP_intro _ rfl ?_
    refine ifP_iff.2 ⟨rfl, ?_⟩
    refine ⟨b109c_0, S.rd1 (.tail _ (.tail _ (.head _))) rfl, ?_⟩
    obtain ⟨y117, hy117, hf⟩ := obind hf
    refine ⟨_, Fz.refl _, ?_⟩
    refine (r37 (l0 := b109.lanes) (from1 := from1) (to2 := to2) (f0_0 := (S.sl (r := (fz rLane)) (.head _))) hy117).mono fun v115 h116 T => ?_
    obtain ⟨rfl, T⟩ := T
    have S : St h M [own (oSl (fz rLane)) [b109c_0] b109.lanes, own (oSl (oSl (fz rEvent))) [b109c_1] b109.l, rowC o110 [b109c_0, b109c_1, (.int .i64 b109.sent)] v111, rowC h.n [(.int .i64 (0 : Int)), (.int .i64 (0 : Int)), (.int .i64 (0 : Int)), (.int .i64 (0 : Int)), (.int .i64 (0 : Int))] 0] h116 := S.comp T
    refine ⟨y117, rfl, ?_⟩
    refine oP_intro (.ptr o110 v111 0) rfl ?_
    refine ifP_iff.2 ⟨rfl, ?_⟩
    refine ⟨b109c_1, S.rd1 (.tail _ (.tail _ (.head _))) rfl, ?_⟩
    obtain ⟨e118, he118, hf⟩ := obind hf
    obtain ⟨qe118, q0e118, q1e118⟩ := SlR.ix (S.sl (r := (oSl (fz rEvent))) (.tail _ (.head _))) he118
    have pe118 := (SlR.idx (S.sl (r := (oSl (fz rEvent))) (.tail _ (.head _))) (Hp.le_refl _) he118).1
    refine ifP_iff.2 ⟨qe118, q0e118, (by first | exact q1e118 | exact (idx_lt he118).2), ?_⟩
    obtain ⟨_, cr119, Rr119, Nr119, Or119, Zr119⟩ := SlR.idx (S.sl (r := (oSl (fz rEvent))) (.tail _ (.head _))) (Hp.le_refl _) he118
    obtain ⟨cr119, rfl, Fr119⟩ := Rr119
    refine ⟨cr119, Zr119 _ rfl, ?_⟩
    obtain ⟨e120, he120, hf⟩ := obind hf
    obtain ⟨qe120, q0e120, q1e120⟩ := SlR.ix Fr119 he120
    have pe120 := (SlR.idx Fr119 (Hp.le_refl _) he120).1
    refine ifP_iff.2 ⟨qe120, q0e120, (by first | exact q1e120 | exact (idx_lt he120).2), ?_⟩
    obtain ⟨_, cr121, Rr121, Nr121, Or121, Zr121⟩ := SlR.idx Fr119 (Hp.le_refl _) he120
    obtain rfl := rEvent_open Rr121
    refine ⟨(.int .i64 e120.Time), (.int .i64 e120.Place), (.int .i64 e120.N), Nr121, ?_⟩
    intro h122
    have S : St h M [rowC h116.n [(.int .i64 (0 : Int)), (.int .i64 (0 : Int)), (.int .i64 (0 : Int)), (.int .i64 (0 : Int)), (.int .i64 (0 : Int))] 0, own (oSl (fz rLane)) [b109c_0] b109.lanes, own (oSl (oSl (fz rEvent))) [b109c_1] b109.l, rowC o110 [b109c_0, b109c_1, (.int .i64 b109.sent)] v111, rowC h.n [(.int .i64 (0 : Int)), (.int .i64 (0 : Int)), (.int .i64 (0 : Int)), (.int .i64 (0 : Int)), (.int .i64 (0 : Int))] 0] h122 := S.pushRow [(.int .i64 (0 : Int)), (.int .i64 (0 : Int)), (.int .i64 (0 : Int)), (.int .i64 (0 : Int)), (.int .i64 (0 : Int))]
    obtain ⟨h124, e125, S⟩ := S.store (off := 0) (n := 5) (x := (.agg [(.int .i64 from1), (.int .i64 to2), (.int .i64 e120.Time), (.int .i64 e120.Place), (.int .i64 e120.N)])) (cs' := [(.int .i64 from1), (.int .i64 to2), (.int .i64 e120.Time), (.int .i64 e120.Place), (.int .i64 e120.N)]) (Nat.le_of_ble_eq_true rfl) rfl rfl rfl
    have S : St h M [rowC h116.n [(.int .i64 from1), (.int .i64 to2), (.int .i64 e120.Time), (.int .i64 e120.Place), (.int .i64 e120.N)] 0, own (oSl (fz rLane)) [b109c_0] b109.lanes, own (oSl (oSl (fz rEvent))) [b109c_1] b109.l, rowC o110 [b109c_0, b109c_1, (.int .i64 b109.sent)] v111, rowC h.n [(.int .i64 (0 : Int)), (.int .i64 (0 : Int)), (.int .i64 (0 : Int)), (.int .i64 (0 : Int)), (.int .i64 (0 : Int))] 0] h124 := S
    refine ⟨h124, e125, ?_⟩
    refine oP_intro (.ptr o110 v111 0) rfl ?_
    refine ifP_iff.2 ⟨rfl, ?_⟩
    refine ⟨b109c_1, S.rd1 (.tail _ (.tail _ (.tail _ (.head _)))) rfl, ?_⟩
    refine oP_intro (.ptr o110 v111 0) rfl ?_
    refine ifP_iff.2 ⟨rfl, ?_⟩
    refine ⟨b109c_1, S.rd1 (.tail _ (.tail _ (.tail _ (.head _)))) rfl, ?_⟩
    obtain ⟨e126, he126, hf⟩ := obind hf
    obtain ⟨qe126, q0e126, q1e126⟩ := SlR.ix (S.sl (r := (oSl (fz rEvent))) (.tail _ (.tail _ (.head _)))) he126
    have pe126 := (SlR.idx (S.sl (r := (oSl (fz rEvent))) (.tail _ (.tail _ (.head _)))) (Hp.le_refl _) he126).1
    refine ifP_iff.2 ⟨qe126, q0e126, (by first | exact q1e126 | exact (idx_lt he126).2), ?_⟩
    have S : St h M [own (oSl (oSl (fz rEvent))) [b109c_1] b109.l, rowC h116.n [(.int .i64 from1), (.int .i64 to2), (.int .i64 e120.Time), (.int .i64 e120.Place), (.int .i64 e120.N)] 0, own (oSl (fz rLane)) [b109c_0] b109.lanes, rowC o110 [b109c_0, b109c_1, (.int .i64 b109.sent)] v111, rowC h.n [(.int .i64 (0 : Int)), (.int .i64 (0 : Int)), (.int .i64 (0 : Int)), (.int .i64 (0 : Int)), (.int .i64 (0 : Int))] 0] h124 := S.sel [2, 0, 1, 3, 4] rfl
    obtain ⟨cc128, lc128, S⟩ := St.out S he126
    obtain ⟨c128, rfl⟩ : ∃ a, cc128 = [a] := len1' lc128
    have S : St h M [own (oSl (fz rEvent)) [c128] e126, hole (oSl (fz rEvent)) b109c_1 b109.l (y117 : Int).toNat [c128], rowC h116.n [(.int .i64 from1), (.int .i64 to2), (.int .i64 e120.Time), (.int .i64 e120.Place), (.int .i64 e120.N)] 0, own (oSl (fz rLane)) [b109c_0] b109.lanes, rowC o110 [b109c_0, b109c_1, (.int .i64 b109.sent)] v111, rowC h.n [(.int .i64 (0 : Int)), (.int .i64 (0 : Int)), (.int .i64 (0 : Int)), (.int .i64 (0 : Int)), (.int .i64 (0 : Int))] 0] h124 := S
    refine ⟨c128, (S.hrd (.tail _ (.head _))).2.2.2.2.2 _ rfl, ?_⟩
    obtain ⟨y131, hy131, hf⟩ := obind hf
    have ey131 := (sliceSl_ev10 (k := .i64) (S.sl (r := (fz rEvent)) (.head _)) hy131)
    have S : St h M [own (oSl (fz rEvent)) [(c128.sub 3 ((1 : Int) : Int).toNat ((e126.length : Int) : Int).toNat)] y131, hole (oSl (fz rEvent)) b109c_1 b109.l (y117 : Int).toNat [c128], rowC h116.n [(.int .i64 from1), (.int .i64 to2), (.int .i64 e120.Time), (.int .i64 e120.Place), (.int .i64 e120.N)] 0, own (oSl (fz rLane)) [b109c_0] b109.lanes, rowC o110 [b109c_0, b109c_1, (.int .i64 b109.sent)] v111, rowC h.n [(.int .i64 (0 : Int)), (.int .i64 (0 : Int)), (.int .i64 (0 : Int)), (.int .i64 (0 : Int)), (.int .i64 (0 : Int))] 0] h124 := (S.sub (slc_le hy131).1 (slc_le hy131).2).cast (by rw [← slc_eq hy131] <;> rfl)
    refine oP_intro _ ey131 ?_
    have p132 := (S.hrd (.tail _ (.head _))).2.2.1
    refine ifP_iff.2 ⟨(S.hrd (.tail _ (.head _))).1, (idx_lt he126).1, (by first | exact (idx_lt he126).2 | (have hq := (S.hrd (.tail _ (.head _))).2.1; have hq0 := (idx_lt he126).1; omega)), ?_⟩
    have S : St h M [hole (oSl (fz rEvent)) b109c_1 b109.l (y117 : Int).toNat [c128], own (oSl (fz rEvent)) [(c128.sub 3 ((1 : Int) : Int).toNat ((e126.length : Int) : Int).toNat)] y131, rowC h116.n [(.int .i64 from1), (.int .i64 to2), (.int .i64 e120.Time), (.int .i64 e120.Place), (.int .i64 e120.N)] 0, own (oSl (fz rLane)) [b109c_0] b109.lanes, rowC o110 [b109c_0, b109c_1, (.int .i64 b109.sent)] v111, rowC h.n [(.int .i64 (0 : Int)), (.int .i64 (0 : Int)), (.int .i64 (0 : Int)), (.int .i64 (0 : Int)), (.int .i64 (0 : Int))] 0] h124 := S.sel [1, 0, 2, 3, 4, 5] rfl
    obtain ⟨h133, e134, S⟩ := S.hset (k := 0) (n := 1) (y := (c128.sub 3 ((1 : Int) : Int).toNat ((e126.length : Int) : Int).toNat)) (c' := [(c128.sub 3 ((1 : Int) : Int).toNat ((e126.length : Int) : Int).toNat)]) (by rw [sl_cells ((S.sl (r := (fz rEvent)) (.tail _ (.head _)))).is]; rfl) (sl_tup ((S.sl (r := (fz rEvent)) (.tail _ (.head _)))).is) (Nat.le_of_ble_eq_true rfl) (by rw [sl_cells ((S.sl (r := (fz rEvent)) (.tail _ (.head _)))).is]; rfl)
    rw [padd_zero] at e134
    have S : St h M [hole (oSl (fz rEvent)) b109c_1 b109.l (y117 : Int).toNat [(c128.sub 3 ((1 : Int) : Int).toNat ((e126.length : Int) : Int).toNat)], own (oSl (fz rEvent)) [(c128.sub 3 ((1 : Int) : Int).toNat ((e126.length : Int) : Int).toNat)] y131, rowC h116.n [(.int .i64 from1), (.int .i64 to2), (.int .i64 e120.Time), (.int .i64 e120.Place), (.int .i64 e120.N)] 0, own (oSl (fz rLane)) [b109c_0] b109.lanes, rowC o110 [b109c_0, b109c_1, (.int .i64 b109.sent)] v111, rowC h.n [(.int .i64 (0 : Int)), (.int .i64 (0 : Int)), (.int .i64 (0 : Int)), (.int .i64 (0 : Int)), (.int .i64 (0 : Int))] 0] h133 := S
    refine ⟨h133, e134, ?_⟩
    have S : St h M [own (oSl (fz rEvent)) [(c128.sub 3 ((1 : Int) : Int).toNat ((e126.length : Int) : Int).toNat)] y131, hole (oSl (fz rEvent)) b109c_1 b109.l (y117 : Int).toNat [(c128.sub 3 ((1 : Int) : Int).toNat ((e126.length : Int) : Int).toNat)], rowC h116.n [(.int .i64 from1), (.int .i64 to2), (.int .i64 e120.Time), (.int .i64 e120.Place), (.int .i64 e120.N)] 0, own (oSl (fz rLane)) [b109c_0] b109.lanes, rowC o110 [b109c_0, b109c_1, (.int .i64 b109.sent)] v111, rowC h.n [(.int .i64 (0 : Int)), (.int .i64 (0 : Int)), (.int .i64 (0 : Int)), (.int .i64 (0 : Int)), (.int .i64 (0 : Int))] 0] h133 := S.sel [1, 0, 2, 3, 4, 5] rfl
    have S : St h M [own (oSl (oSl (fz rEvent))) [b109c_1] (b109.l.set (y117 : Int).toNat y131), rowC h116.n [(.int .i64 from1), (.int .i64 to2), (.int .i64 e120.Time), (.int .i64 e120.Place), (.int .i64 e120.N)] 0, own (oSl (fz rLane)) [b109c_0] b109.lanes, rowC o110 [b109c_0, b109c_1, (.int .i64 b109.sent)] v111, rowC h.n [(.int .i64 (0 : Int)), (.int .i64 (0 : Int)), (.int .i64 (0 : Int)), (.int .i64 (0 : Int)), (.int .i64 (0 : Int))] 0] h133 := S.back
    refine ⟨(.int .i64 from1), (.int .i64 to2), (.int .i64 e120.Time), (.int .i64 e120.Place), (.int .i64 e120.N), S.rdN (.tail _ (.head _)) (Nat.le_of_ble_eq_true rfl) rfl, ?_⟩
    have S : St h M [rowC h.n [(.int .i64 (0 : Int)), (.int .i64 (0 : Int)), (.int .i64 (0 : Int)), (.int .i64 (0 : Int)), (.int .i64 (0 : Int))] 0, own (oSl (oSl (fz rEvent))) [b109c_1] (b109.l.set (y117 : Int).toNat y131), rowC h116.n [(.int .i64 from1), (.int .i64 to2), (.int .i64 e120.Time), (.int .i64 e120.Place), (.int .i64 e120.N)] 0, own (oSl (fz rLane)) [b109c_0] b109.lanes, rowC o110 [b109c_0, b109c_1, (.int .i64 b109.sent)] v111] h133 := S.sel [4, 0, 1, 2, 3] rfl
    obtain ⟨h135, e136, S⟩ := S.store (off := 0) (n := 5) (x := (.agg [(.int .i64 from1), (.int .i64 to2), (.int .i64 e120.Time), (.int .i64 e120.Place), (.int .i64 e120.N)])) (cs' := [(.int .i64 from1), (.int .i64 to2), (.int .i64 e120.Time), (.int .i64 e120.Place), (.int .i64 e120.N)]) (Nat.le_of_ble_eq_true rfl) rfl rfl rfl
    have S : St h M [rowC h.n [(.int .i64 from1), (.int .i64 to2), (.int .i64 e120.Time), (.int .i64 e120.Place), (.int .i64 e120.N)] 0, own (oSl (oSl (fz rEvent))) [b109c_1] (b109.l.set (y117 : Int).toNat y131), rowC h116.n [(.int .i64 from1), (.int .i64 to2), (.int .i64 e120.Time), (.int .i64 e120.Place), (.int .i64 e120.N)] 0, own (oSl (fz rLane)) [b109c_0] b109.lanes, rowC o110 [b109c_0, b109c_1, (.int .i64 b109.sent)] v111] h135 := S
    refine ⟨h135, e136, ?_⟩
    refine ⟨(.int .i64 from1), (.int .i64 to2), (.int .i64 e120.Time), (.int .i64 e120.Place), (.int .i64 e120.N), S.rdN (.head _) (Nat.le_of_ble_eq_true rfl) rfl, ?_⟩
    have S : St h M [own (oSl (fz rLane)) [b109c_0] b109.lanes, own (oSl (oSl (fz rEvent))) [b109c_1] (b109.l.set (y117 : Int).toNat y131), rowC h.n [(.int .i64 from1), (.int .i64 to2), (.int .i64 e120.Time), (.int .i64 e120.Place), (.int .i64 e120.N)] 0, rowC h116.n [(.int .i64 from1), (.int .i64 to2), (.int .i64 e120.Time), (.int .i64 e120.Place), (.int .i64 e120.N)] 0, rowC o110 [b109c_0, b109c_1, (.int .i64 b109.sent)] v111] h135 := S.sel [3, 1, 0, 2, 4] rfl
    have S : St h M [own oBox [b109c_0, b109c_1, (.int .i64 b109.sent)] (TBox.mk b109.lanes (b109.l.set (y117 : Int).toNat y131) b109.sent), rowC h.n [(.int .i64 from1), (.int .i64 to2), (.int .i64 e120.Time), (.int .i64 e120.Place), (.int .i64 e120.N)] 0, rowC h116.n [(.int .i64 from1), (.int .i64 to2), (.int .i64 e120.Time), (.int .i64 e120.Place), (.int .i64 e120.N)] 0, rowC o110 [b109c_0, b109c_1, (.int .i64 b109.sent)] v111] h135 := oBox_close (x := (TBox.mk b109.lanes (b109.l.set (y117 : Int).toNat y131) b109.sent)) S
    have S : St h M [rowC o110 [b109c_0, b109c_1, (.int .i64 b109.sent)] v111, own oBox [b109c_0, b109c_1, (.int .i64 b109.sent)] (TBox.mk b109.lanes (b109.l.set (y117 : Int).toNat y131) b109.sent), rowC h.n [(.int .i64 from1), (.int .i64 to2), (.int .i64 e120.Time), (.int .i64 e120.Place), (.int .i64 e120.N)] 0, rowC h116.n [(.int .i64 from1), (.int .i64 to2), (.int .i64 e120.Time), (.int .i64 e120.Place), (.int .i64 e120.N)] 0] h135 := S.sel [3, 0, 1, 2] rfl
    have S : St h M [own (oPtr oBox) [(.ptr o110 v111 0)] (some (TBox.mk b109.lanes (b109.l.set (y117 : Int).toNat y131) b109.sent)), rowC h.n [(.int .i64 from1), (.int .i64 to2), (.int .i64 e120.Time), (.int .i64 e120.Place), (.int .i64 e120.N)] 0, rowC h116.n [(.int .i64 from1), (.int .i64 to2), (.int .i64 e120.Time), (.int .i64 e120.Place), (.int .i64 e120.N)] 0] h135 := S.ptrClose
    obtain rfl := Option.some.inj hf
    exact ⟨rfl, S.sel [0] rfl⟩
/-! 24: marblerun/marblerunlaw18.awake -/
noncomputable def p24_j0 (b127 : Bool) : Option Bool := some b127
noncomputable def p24_j1 (u115 : TMail × Bool × (Option TBox)) (b120 : Bool) : Option Bool := if b120 = true then ((p29 u115.2.2 (0 : Int) (1 : Int)).bind fun y133 => p24_j0 (decide (y133 = (1 : Int)))) else (p24_j0 false)
noncomputable def p24 : Option Bool := (p26 [(TLane.mk (0 : Int) (1 : Int) (0 : Int))]).bind fun y105 => (p27 y105 (TMail.mk (0 : Int) (1 : Int) (TEvent.mk (1 : Int) (0 : Int) (0 : Int)))).bind fun u109 => (p27 u109.2 (TMail.mk (0 : Int) (1 : Int) (TEvent.mk (2 : Int) (0 : Int) (0 : Int)))).bind fun u112 => (p28 u112.2 (0 : Int) (1 : Int)).bind fun u115 => if u115.2.1 = true then (p24_j1 u115 (decide (u115.1.E.Time = (1 : Int)))) else (p24_j1 u115 false)
theorem r24 {h : Heap}   {r : Bool} (hf : p24  = some r) : ZCalls F 24 [] h fun v h' => v = .bool r ∧ St h none' [] h' := by
  refine w24 ?_
  unfold W24
  unfold p24 at hf
  have S : St h none' [] h := St.refl _ _
  intro h101
  have S : St h none' [rowC h.n [(.int .i64 (0 : Int)), (.int .i64 (1 : Int)), (.int .i64 (0 : Int))] 0] h101 := S.pushRow [(.int .i64 (0 : Int)), (.int .i64 (1 : Int)), (.int .i64 (0 : Int))]
  obtain ⟨y105, hy105, hf⟩ := obind hf
  have S : St h none' [own (oSl (fz rLane)) [(.slice h.n 0 0 1 3)] [(TLane.mk (0 : Int) (1 : Int) (0 : Int))]] h101 := St.lit (r := rLane) (els := [[(.int .i64 (0 : Int)), (.int .i64 (1 : Int)), (.int .i64 (0 : Int))]]) (l := [(TLane.mk (0 : Int) (1 : Int) (0 : Int))]) (n := 1) S rfl (.cons (rLane_mk (x := (TLane.mk (0 : Int) (1 : Int) (0 : Int)))) (.nil)) rfl
  refine ⟨_, Fz.refl _, ?_⟩
  refine (r26 (lanes0 := [(TLane.mk (0 : Int) (1 : Int) (0 : Int))]) (f0_0 := (S.sl (r := (fz rLane)) (.head _))) hy105).mono fun v103 h104 T => ?_
  have S : St h none' [own (oPtr oBox) [v103] y105, own (oSl (fz rLane)) [(.slice h.n 0 0 1 3)] [(TLane.mk (0 : Int) (1 : Int) (0 : Int))]] h104 := S.comp T
  obtain ⟨u109, hu109, hf⟩ := obind hf
  refine ⟨_, Fz.refl _, ?_⟩
  obtain ⟨fpu109, S1u109, backu109⟩ := St.lend [_] S
  refine (r27 (b0 := y105) (m1 := (TMail.mk (0 : Int) (1 : Int) (TEvent.mk (1 : Int) (0 : Int) (0 : Int)))) (S := S1u109) hu109).mono fun v107 h108 T => ?_
  obtain ⟨rfl, T⟩ := T
  have S : St h none' [own (oPtr oBox) [v103] u109.2, own (oSl (fz rLane)) [(.slice h.n 0 0 1 3)] [(TLane.mk (0 : Int) (1 : Int) (0 : Int))]] h108 := backu109 _ _ T
  refine ⟨u109.1, rfl, ?_⟩
  obtain ⟨u112, hu112, hf⟩ := obind hf
  refine ⟨_, Fz.refl _, ?_⟩
  obtain ⟨fpu112, S1u112, backu112⟩ := St.lend [_] S
  refine (r27 (b0 := u109.2) (m1 := (TMail.mk (0 : Int) (1 : Int) (TEvent.mk (2 : Int) (0 : Int) (0 : Int)))) (S := S1u112) hu112).mono fun v110 h111 T => ?_
  obtain ⟨rfl, T⟩ := T
  have S : St h none' [own (oPtr oBox) [v103] u112.2, own (oSl (fz rLane)) [(.slice h.n 0 0 1 3)] [(TLane.mk (0 : Int) (1 : Int) (0 : Int))]] h111 := backu112 _ _ T
  refine ⟨u112.1, rfl, ?_⟩
  obtain ⟨u115, hu115, hf⟩ := obind hf
  refine ⟨_, Fz.refl _, ?_⟩
  obtain ⟨fpu115, S1u115, backu115⟩ := St.lend [_] S
  refine (r28 (b0 := u112.2) (from1 := (0 : Int)) (to2 := (1 : Int)) (S := S1u115) hu115).mono fun v113 h114 T => ?_
  obtain ⟨rfl, T⟩ := T
  have S : St h none' [own (oPtr oBox) [v103] u115.2.2, own (oSl (fz rLane)) [(.slice h.n 0 0 1 3)] [(TLane.mk (0 : Int) (1 : Int) (0 : Int))]] h114 := backu115 _ _ T
  refine oP_intro (.agg [(.int .i64 u115.1.From), (.int .i64 u115.1.To), (.int .i64 u115.1.E.Time), (.int .i64 u115.1.E.Place), (.int .i64 u115.1.E.N)]) rfl ?_
  refine oP_intro (.bool u115.2.1) rfl ⟨u115.2.1, rfl, ?_⟩
  intro h116
  have S : St h none' [rowC h114.n [(.int .i64 (0 : Int)), (.int .i64 (0 : Int)), (.int .i64 (0 : Int)), (.int .i64 (0 : Int)), (.int .i64 (0 : Int))] 0, own (oPtr oBox) [v103] u115.2.2, own (oSl (fz rLane)) [(.slice h.n 0 0 1 3)] [(TLane.mk (0 : Int) (1 : Int) (0 : Int))]] h116 := S.pushRow [(.int .i64 (0 : Int)), (.int .i64 (0 : Int)), (.int .i64 (0 : Int)), (.int .i64 (0 : Int)), (.int .i64 (0 : Int))]
  obtain ⟨h118, e119, S⟩ := S.store (off := 0) (n := 5) (x := (.agg [(.int .i64 u115.1.From), (.int .i64 u115.1.To), (.int .i64 u115.1.E.Time), (.int .i64 u115.1.E.Place), (.int .i64 u115.1.E.N)])) (cs' := [(.int .i64 u115.1.From), (.int .i64 u115.1.To), (.int .i64 u115.1.E.Time), (.int .i64 u115.1.E.Place), (.int .i64 u115.1.E.N)]) (Nat.le_of_ble_eq_true rfl) rfl rfl rfl
  have S : St h none' [rowC h114.n [(.int .i64 u115.1.From), (.int .i64 u115.1.To), (.int .i64 u115.1.E.Time), (.int .i64 u115.1.E.Place), (.int .i64 u115.1.E.N)] 0, own (oPtr oBox) [v103] u115.2.2, own (oSl (fz rLane)) [(.slice h.n 0 0 1 3)] [(TLane.mk (0 : Int) (1 : Int) (0 : Int))]] h118 := S
  refine ⟨h118, e119, ?_⟩
  intro jjj1
  have hjj1 : ∀ (b120 : Bool) (h121 : Heap), p24_j1 u115 b120 = some r → h118 = h121 → St h none' [own (oPtr oBox) [v103] u115.2.2] h118 → jjj1 b120 h121 := by
    rintro b120 h121 hf rfl S
    unfold p24_j1 at hf
    unfold jjj1
    intro jjj0
    have hjj0 : ∀ (b127 : Bool) (h128 : Heap), p24_j0 b127 = some r → St h none' [] h128 → jjj0 b127 h128 := by
      rintro b127 h128 hf S
      unfold p24_j0 at hf
      unfold jjj0
      obtain rfl := Option.some.inj hf
      exact ⟨rfl, S.sel [] rfl⟩
    refine bP_intro (fun hc => ?_) (fun hc => ?_)
    · rw [if_pos (show b120 = true from hc)] at hf
      obtain ⟨y133, hy133, hf⟩ := obind hf
      refine ⟨_, Fz.refl _, ?_⟩
      refine (r29 (b0 := u115.2.2) (from1 := (0 : Int)) (to2 := (1 : Int)) (f0_0 := S.pt (r := oBox) (.head _)) hy133).mono fun v131 h132 T => ?_
      obtain ⟨rfl, T⟩ := T
      have S : St h none' [own (oPtr oBox) [v103] u115.2.2] h132 := S.comp T
      refine ⟨y133, rfl, ?_⟩
      have S : St h none' [] h132 := S.sel [] rfl
      exact hjj0 _ _  hf  S
    · rw [if_neg (show ¬ (b120 = true) from by rw [show b120 = false from hc]; exact Bool.false_ne_true)] at hf
      have S : St h none' [] h118 := S.sel [] rfl
      exact hjj0 _ _  hf  S
  refine bP_intro (fun hc => ?_) (fun hc => ?_)
  · rw [if_pos (show u115.2.1 = true from hc)] at hf
    refine ⟨u115.1.E.Time, S.rd1 (.head _) rfl, ?_⟩
    have S : St h none' [own (oPtr oBox) [v103] u115.2.2] h118 := S.sel [1] rfl
    exact hjj1 _ _  hf rfl S
  · rw [if_neg (show ¬ (u115.2.1 = true) from by rw [show u115.2.1 = false from hc]; exact Bool.false_ne_true)] at hf
    have S : St h none' [own (oPtr oBox) [v103] u115.2.2] h118 := S.sel [1] rfl
    exact hjj1 _ _  hf rfl S
/-! 10: marblerun/marblerunlaw18.MailTwice -/
noncomputable def p10_j0 (y115 : Bool) (y117 : Int) (u204 : Bool × (Option TBox)) (b218 : Bool) : Option ((Bool × Int × (Option TBox)) ⊕ (Unit ⊕ (Bool × (Option TBox)))) := if b218 = true then (some (.inr (.inl ()))) else (some (.inl (y115, (IntKind.wrap .i64 (y117 + (1 : Int))), u204.2)))
noncomputable def p10_j1 (y115 : Bool) (y117 : Int) (u204 : Bool × (Option TBox)) (b208 : Bool) : Option ((Bool × Int × (Option TBox)) ⊕ (Unit ⊕ (Bool × (Option TBox)))) := if b208 = true then (p10_j0 y115 y117 u204 true) else ((p29 u204.2 (2 : Int) (1 : Int)).bind fun y228 => p10_j0 y115 y117 u204 (!decide (y228 = (0 : Int))))
noncomputable def p10_l0 (x0 : Int) (x1 : TMail) (st : Bool × Int × (Option TBox)) : Option ((Bool × Int × (Option TBox)) ⊕ (Unit ⊕ (Bool × (Option TBox)))) := match st with | (y115, y117, l151) => if y117 < (IntKind.wrap .i64 x0) then ((p27 l151 (TMail.mk (1 : Int) (2 : Int) (TEvent.mk x1.E.Time x1.E.Place x1.E.N))).bind fun u204 => if (!u204.1) = true then (p10_j1 y115 y117 u204 true) else ((p29 u204.2 (1 : Int) (2 : Int)).bind fun y232 => p10_j1 y115 y117 u204 (!decide (y232 = (IntKind.wrap .i64 (y117 + (1 : Int))))))) else (some (.inr (.inr (y115, l151))))
noncomputable def p10_j2 (y237 : Int) (u290 : TMail × Bool × (Option TBox)) (b295 : Bool) : Option ((Int × (Option TBox)) ⊕ (Unit ⊕ (Option TBox))) := if b295 = true then (some (.inr (.inl ()))) else (some (.inl ((IntKind.wrap .i64 (y237 + (1 : Int))), u290.2.2)))
noncomputable def p10_l1 (x0 : Int) (x1 : TMail) (st : Int × (Option TBox)) : Option ((Int × (Option TBox)) ⊕ (Unit ⊕ (Option TBox))) := match st with | (y237, l254) => if y237 < (IntKind.wrap .i64 x0) then ((p28 l254 (1 : Int) (2 : Int)).bind fun u290 => if (!u290.2.1) = true then (p10_j2 y237 u290 true) else (p10_j2 y237 u290 (!((decide (u290.1.From = (1 : Int))) && ((decide (u290.1.To = (2 : Int))) && ((decide (u290.1.E.Time = x1.E.Time)) && ((decide (u290.1.E.Place = x1.E.Place)) && ((decide (u290.1.E.N = x1.E.N)) && true)))))))) else (some (.inr (.inr l254)))
noncomputable def p10_j3 (b315 : Bool) : Option Bool := some b315
noncomputable def p10_j4 (x0 : Int) (l283 : Option TBox) (b308 : Bool) : Option Bool := if b308 = true then ((p31 l283).bind fun y320 => p10_j3 (decide (y320 = (IntKind.wrap .i64 x0)))) else (p10_j3 false)
noncomputable def p10 (x0 : Int) (x1 : TMail) : Option Bool := (p26 [(TLane.mk (1 : Int) (2 : Int) (1 : Int)), (TLane.mk (1 : Int) (2 : Int) (9 : Int)), (TLane.mk (2 : Int) (1 : Int) (0 : Int))]).bind fun y111 => (loopC (p10_l0 x0 x1) (false, (0 : Int), y111)).bind fun res198 => (match res198 with | .inl _ => some false | .inr (y193, l197) => (loopC (p10_l1 x0 x1) ((0 : Int), l197)).bind fun res284 => (match res284 with | .inl _ => some false | .inr l283 => (p24 ).bind fun y304 => if y304 = true then ((p30 l283).bind fun y324 => p10_j4 x0 l283 (decide (y324 = (0 : Int)))) else (p10_j4 x0 l283 false)))
theorem r10 {h : Heap}  {x0 : Int} {x1 : TMail} {r : Bool} (hf : p10 x0 x1 = some r) : ZCalls F 10 [(.int .u8 x0), (.agg [(.int .i64 x1.From), (.int .i64 x1.To), (.int .i64 x1.E.Time), (.int .i64 x1.E.Place), (.int .i64 x1.E.N)])] h fun v h' => v = .bool r ∧ St h none' [] h' := by
  refine w10 ?_
  unfold W10
  unfold p10 at hf
  have S : St h none' [] h := St.refl _ _
  intro h101
  have S : St h none' [rowC h.n [(.int .i64 x1.From), (.int .i64 x1.To), (.int .i64 x1.E.Time), (.int .i64 x1.E.Place), (.int .i64 x1.E.N)] 0] h101 := S.pushRow [(.int .i64 x1.From), (.int .i64 x1.To), (.int .i64 x1.E.Time), (.int .i64 x1.E.Place), (.int .i64 x1.E.N)]
  obtain ⟨h103, e104, S⟩ := S.store (off := 0) (n := 1) (x := (.int .i64 (1 : Int))) (cs' := [(.int .i64 (1 : Int)), (.int .i64 x1.To), (.int .i64 x1.E.Time), (.int .i64 x1.E.Place), (.int .i64 x1.E.N)]) (Nat.le_of_ble_eq_true rfl) rfl rfl rfl
  have S : St h none' [rowC h.n [(.int .i64 (1 : Int)), (.int .i64 x1.To), (.int .i64 x1.E.Time), (.int .i64 x1.E.Place), (.int .i64 x1.E.N)] 0] h103 := S
  refine ⟨h103, e104, ?_⟩
  obtain ⟨h105, e106, S⟩ := S.store (off := 1) (n := 1) (x := (.int .i64 (2 : Int))) (cs' := [(.int .i64 (1 : Int)), (.int .i64 (2 : Int)), (.int .i64 x1.E.Time), (.int .i64 x1.E.Place), (.int .i64 x1.E.N)]) (Nat.le_of_ble_eq_true rfl) rfl rfl rfl
  have S : St h none' [rowC h.n [(.int .i64 (1 : Int)), (.int .i64 (2 : Int)), (.int .i64 x1.E.Time), (.int .i64 x1.E.Place), (.int .i64 x1.E.N)] 0] h105 := S
  refine ⟨h105, e106, ?_⟩
  intro h107
  have S : St h none' [rowC h105.n [(.int .i64 (1 : Int)), (.int .i64 (2 : Int)), (.int .i64 (1 : Int)), (.int .i64 (1 : Int)), (.int .i64 (2 : Int)), (.int .i64 (9 : Int)), (.int .i64 (2 : Int)), (.int .i64 (1 : Int)), (.int .i64 (0 : Int))] 0, rowC h.n [(.int .i64 (1 : Int)), (.int .i64 (2 : Int)), (.int .i64 x1.E.Time), (.int .i64 x1.E.Place), (.int .i64 x1.E.N)] 0] h107 := S.pushRow [(.int .i64 (1 : Int)), (.int .i64 (2 : Int)), (.int .i64 (1 : Int)), (.int .i64 (1 : Int)), (.int .i64 (2 : Int)), (.int .i64 (9 : Int)), (.int .i64 (2 : Int)), (.int .i64 (1 : Int)), (.int .i64 (0 : Int))]
  obtain ⟨y111, hy111, hf⟩ := obind hf
  have S : St h none' [own (oSl (fz rLane)) [(.slice h105.n 0 0 3 3)] [(TLane.mk (1 : Int) (2 : Int) (1 : Int)), (TLane.mk (1 : Int) (2 : Int) (9 : Int)), (TLane.mk (2 : Int) (1 : Int) (0 : Int))], rowC h.n [(.int .i64 (1 : Int)), (.int .i64 (2 : Int)), (.int .i64 x1.E.Time), (.int .i64 x1.E.Place), (.int .i64 x1.E.N)] 0] h107 := St.lit (r := rLane) (els := [[(.int .i64 (1 : Int)), (.int .i64 (2 : Int)), (.int .i64 (1 : Int))], [(.int .i64 (1 : Int)), (.int .i64 (2 : Int)), (.int .i64 (9 : Int))], [(.int .i64 (2 : Int)), (.int .i64 (1 : Int)), (.int .i64 (0 : Int))]]) (l := [(TLane.mk (1 : Int) (2 : Int) (1 : Int)), (TLane.mk (1 : Int) (2 : Int) (9 : Int)), (TLane.mk (2 : Int) (1 : Int) (0 : Int))]) (n := 3) S rfl (.cons (rLane_mk (x := (TLane.mk (1 : Int) (2 : Int) (1 : Int)))) (.cons (rLane_mk (x := (TLane.mk (1 : Int) (2 : Int) (9 : Int)))) (.cons (rLane_mk (x := (TLane.mk (2 : Int) (1 : Int) (0 : Int)))) (.nil)))) rfl
  refine ⟨_, Fz.refl _, ?_⟩
  refine (r26 (lanes0 := [(TLane.mk (1 : Int) (2 : Int) (1 : Int)), (TLane.mk (1 : Int) (2 : Int) (9 : Int)), (TLane.mk (2 : Int) (1 : Int) (0 : Int))]) (f0_0 := (S.sl (r := (fz rLane)) (.head _))) hy111).mono fun v109 h110 T => ?_
  have S : St h none' [own (oPtr oBox) [v109] y111, own (oSl (fz rLane)) [(.slice h105.n 0 0 3 3)] [(TLane.mk (1 : Int) (2 : Int) (1 : Int)), (TLane.mk (1 : Int) (2 : Int) (9 : Int)), (TLane.mk (2 : Int) (1 : Int) (0 : Int))], rowC h.n [(.int .i64 (1 : Int)), (.int .i64 (2 : Int)), (.int .i64 x1.E.Time), (.int .i64 x1.E.Place), (.int .i64 x1.E.N)] 0] h110 := S.comp T
  obtain ⟨res198, hL, hf⟩ := obind hf
  obtain ⟨n199, hL⟩ := loopC_iff.1 hL
  have S : St h none' [rowC h.n [(.int .i64 (1 : Int)), (.int .i64 (2 : Int)), (.int .i64 x1.E.Time), (.int .i64 x1.E.Place), (.int .i64 x1.E.N)] 0, own (oPtr oBox) [v109] y111] h110 := S.sel [2, 0] rfl
  refine loopm10_0 (R := fun (y185 : Int) (y186 : AV) (y187 : Bool) (y188 : AV) (y189 : Int) (h190 : Heap) => false = y187 ∧ St h none' [] h190 ∧ (.inl ()) = res198) (X0 := fun (y191 : Int) (y192 : AV) (y193 : Bool) (y194 : AV) (y195 : Int) (h196 : Heap) => ∃ (l197 : Option TBox), x0 = y191 ∧ AV.ptr h.n 0 0 = y192 ∧ v109 = y194 ∧ St h none' [rowC h.n [(.int .i64 (1 : Int)), (.int .i64 (2 : Int)), (.int .i64 x1.E.Time), (.int .i64 x1.E.Place), (.int .i64 x1.E.N)] 0, own (oPtr oBox) [v109] l197] h196 ∧ (.inr (y193, l197)) = res198) ?_ ?_ (loop10_0 (I := fun (m201 : Nat) (y113 : Int) (y114 : AV) (y115 : Bool) (y116 : AV) (y117 : Int) (h150 : Heap) => ∃ (l151 : Option TBox), x0 = y113 ∧ AV.ptr h.n 0 0 = y114 ∧ v109 = y116 ∧ St h none' [rowC h.n [(.int .i64 (1 : Int)), (.int .i64 (2 : Int)), (.int .i64 x1.E.Time), (.int .i64 x1.E.Place), (.int .i64 x1.E.N)] 0, own (oPtr oBox) [v109] l151] h150 ∧ iter (p10_l0 x0 x1) m201 (y115, y117, l151) = some res198) ?_ (m := n199) ?_)
  · rintro y185 y186 y187 y188 y189 h190 ⟨rfl, S, rfl⟩
    try dsimp only at hf
    obtain rfl := Option.some.inj hf
    exact ⟨rfl, S.sel [] rfl⟩
  · rintro y191 y192 y193 y194 y195 h196 ⟨l197, rfl, rfl, rfl, S, rfl⟩
    try dsimp only at hf
    obtain ⟨res284, hL, hf⟩ := obind hf
    obtain ⟨n285, hL⟩ := loopC_iff.1 hL
    refine loopm10_1 (R := fun (y271 : Int) (y272 : AV) (y273 : Bool) (y274 : AV) (y275 : Int) (h276 : Heap) => false = y273 ∧ St h none' [] h276 ∧ (.inl ()) = res284) (X2 := fun (y277 : Int) (y278 : AV) (y279 : Bool) (y280 : AV) (y281 : Int) (h282 : Heap) => ∃ (l283 : Option TBox), x0 = y277 ∧ v109 = y280 ∧ St h none' [own (oPtr oBox) [v109] l283] h282 ∧ (.inr l283) = res284) ?_ ?_ (loop10_1 (I := fun (m287 : Nat) (y233 : Int) (y234 : AV) (y235 : Bool) (y236 : AV) (y237 : Int) (h253 : Heap) => ∃ (l254 : Option TBox), x0 = y233 ∧ AV.ptr h.n 0 0 = y234 ∧ v109 = y236 ∧ St h none' [rowC h.n [(.int .i64 (1 : Int)), (.int .i64 (2 : Int)), (.int .i64 x1.E.Time), (.int .i64 x1.E.Place), (.int .i64 x1.E.N)] 0, own (oPtr oBox) [v109] l254] h253 ∧ iter (p10_l1 x0 x1) m287 (y237, l254) = some res284) ?_ (m := n285) ?_)
    · rintro y271 y272 y273 y274 y275 h276 ⟨rfl, S, rfl⟩
      try dsimp only at hf
      obtain rfl := Option.some.inj hf
      exact ⟨rfl, S.sel [] rfl⟩
    · rintro y277 y278 y279 y280 y281 h282 ⟨l283, rfl, rfl, S, rfl⟩
      try dsimp only at hf
      obtain ⟨y304, hy304, hf⟩ := obind hf
      refine ⟨_, Fz.refl _, ?_⟩
      refine (r24  hy304).mono fun v302 h303 T => ?_
      obtain ⟨rfl, T⟩ := T
      have S : St h none' [own (oPtr oBox) [v109] l283] h303 := S.comp T
      refine ⟨y304, rfl, ?_⟩
      intro jjj4
      have hjj4 : ∀ (b308 : Bool) (h309 : Heap), p10_j4 x0 l283 b308 = some r → St h none' [own (oPtr oBox) [v109] l283] h309 → jjj4 b308 h309 := by
        rintro b308 h309 hf S
        unfold p10_j4 at hf
        unfold jjj4
        intro jjj3
        have hjj3 : ∀ (b315 : Bool) (h316 : Heap), p10_j3 b315 = some r → St h none' [] h316 → jjj3 b315 h316 := by
          rintro b315 h316 hf S
          unfold p10_j3 at hf
          unfold jjj3
          obtain rfl := Option.some.inj hf
          exact ⟨rfl, S.sel [] rfl⟩
        refine bP_intro (fun hc => ?_) (fun hc => ?_)
        · rw [if_pos (show b308 = true from hc)] at hf
          obtain ⟨y320, hy320, hf⟩ := obind hf
          refine ⟨_, Fz.refl _, ?_⟩
          refine (r31 (b0 := l283) (f0_0 := S.pt (r := oBox) (.head _)) hy320).mono fun v318 h319 T => ?_
          obtain ⟨rfl, T⟩ := T
          have S : St h none' [own (oPtr oBox) [v109] l283] h319 := S.comp T
          refine ⟨y320, rfl, ?_⟩
          have S : St h none' [] h319 := S.sel [] rfl
          exact hjj3 _ _  hf  S
        · rw [if_neg (show ¬ (b308 = true) from by rw [show b308 = false from hc]; exact Bool.false_ne_true)] at hf
          have S : St h none' [] h309 := S.sel [] rfl
          exact hjj3 _ _  hf  S
      refine bP_intro (fun hc => ?_) (fun hc => ?_)
      · rw [if_pos (show y304 = true from hc)] at hf
        obtain ⟨y324, hy324, hf⟩ := obind hf
        refine ⟨_, Fz.refl _, ?_⟩
        refine (r30 (b0 := l283) (f0_0 := S.pt (r := oBox) (.head _)) hy324).mono fun v322 h323 T => ?_
        obtain ⟨rfl, T⟩ := T
        have S : St h none' [own (oPtr oBox) [v109] l283] h323 := S.comp T
        refine ⟨y324, rfl, ?_⟩
        exact hjj4 _ _  hf  S
      · rw [if_neg (show ¬ (y304 = true) from by rw [show y304 = false from hc]; exact Bool.false_ne_true)] at hf
        exact hjj4 _ _  hf  S
    · rintro m2870 y233 y234 y235 y236 y237 h253 ⟨l254, rfl, rfl, rfl, S, hit⟩
      obtain ⟨m287, q286, rfl, hf, hk⟩ := iter_some hit
      clear hit
      unfold B10_1
      unfold p10_l1 at hf
      try dsimp only at hf
      refine bP_intro (fun hc => ?_) (fun hc => ?_)
      · rw [if_pos (show y237 < (IntKind.wrap .i64 x0) from of_decide_eq_true hc)] at hf
        obtain ⟨u290, hu290, hf⟩ := obind hf
        refine ⟨_, Fz.refl _, ?_⟩
        have S : St h none' [own (oPtr oBox) [v109] l254, rowC h.n [(.int .i64 (1 : Int)), (.int .i64 (2 : Int)), (.int .i64 x1.E.Time), (.int .i64 x1.E.Place), (.int .i64 x1.E.N)] 0] h253 := S.sel [1, 0] rfl
        obtain ⟨fpu290, S1u290, backu290⟩ := St.lend [_] S
        refine (r28 (b0 := l254) (from1 := (1 : Int)) (to2 := (2 : Int)) (S := S1u290) hu290).mono fun v288 h289 T => ?_
        obtain ⟨rfl, T⟩ := T
        have S : St h none' [own (oPtr oBox) [v109] u290.2.2, rowC h.n [(.int .i64 (1 : Int)), (.int .i64 (2 : Int)), (.int .i64 x1.E.Time), (.int .i64 x1.E.Place), (.int .i64 x1.E.N)] 0] h289 := backu290 _ _ T
        refine oP_intro (.agg [(.int .i64 u290.1.From), (.int .i64 u290.1.To), (.int .i64 u290.1.E.Time), (.int .i64 u290.1.E.Place), (.int .i64 u290.1.E.N)]) rfl ?_
        refine oP_intro (.bool u290.2.1) rfl ⟨u290.2.1, rfl, ?_⟩
        intro h291
        have S : St h none' [rowC h289.n [(.int .i64 (0 : Int)), (.int .i64 (0 : Int)), (.int .i64 (0 : Int)), (.int .i64 (0 : Int)), (.int .i64 (0 : Int))] 0, own (oPtr oBox) [v109] u290.2.2, rowC h.n [(.int .i64 (1 : Int)), (.int .i64 (2 : Int)), (.int .i64 x1.E.Time), (.int .i64 x1.E.Place), (.int .i64 x1.E.N)] 0] h291 := S.pushRow [(.int .i64 (0 : Int)), (.int .i64 (0 : Int)), (.int .i64 (0 : Int)), (.int .i64 (0 : Int)), (.int .i64 (0 : Int))]
        obtain ⟨h293, e294, S⟩ := S.store (off := 0) (n := 5) (x := (.agg [(.int .i64 u290.1.From), (.int .i64 u290.1.To), (.int .i64 u290.1.E.Time), (.int .i64 u290.1.E.Place), (.int .i64 u290.1.E.N)])) (cs' := [(.int .i64 u290.1.From), (.int .i64 u290.1.To), (.int .i64 u290.1.E.Time), (.int .i64 u290.1.E.Place), (.int .i64 u290.1.E.N)]) (Nat.le_of_ble_eq_true rfl) rfl rfl rfl
        have S : St h none' [rowC h289.n [(.int .i64 u290.1.From), (.int .i64 u290.1.To), (.int .i64 u290.1.E.Time), (.int .i64 u290.1.E.Place), (.int .i64 u290.1.E.N)] 0, own (oPtr oBox) [v109] u290.2.2, rowC h.n [(.int .i64 (1 : Int)), (.int .i64 (2 : Int)), (.int .i64 x1.E.Time), (.int .i64 x1.E.Place), (.int .i64 x1.E.N)] 0] h293 := S
        refine ⟨h293, e294, ?_⟩
        intro jjj2
        have hjj2 : ∀ (b295 : Bool) (h296 : Heap), p10_j2 y237 u290 b295 = some q286 → h293 = h296 → St h none' [rowC h.n [(.int .i64 (1 : Int)), (.int .i64 (2 : Int)), (.int .i64 x1.E.Time), (.int .i64 x1.E.Place), (.int .i64 x1.E.N)] 0, own (oPtr oBox) [v109] u290.2.2] h293 → jjj2 b295 h296 := by
          rintro b295 h296 hf rfl S
          unfold p10_j2 at hf
          unfold jjj2
          refine bP_intro (fun hc => ?_) (fun hc => ?_)
          · rw [if_pos (show b295 = true from hc)] at hf
            have S : St h none' [] h293 := S.sel [] rfl
            obtain rfl := Option.some.inj hf
            obtain rfl := hk
            exact ⟨rfl, S, rfl⟩
          · rw [if_neg (show ¬ (b295 = true) from by rw [show b295 = false from hc]; exact Bool.false_ne_true)] at hf
            obtain rfl := Option.some.inj hf
            exact ⟨m287, Nat.lt_succ_self _, u290.2.2, rfl, rfl, rfl, S, hk⟩
        refine bP_intro (fun hc => ?_) (fun hc => ?_)
        · rw [if_pos (show (!u290.2.1) = true from hc)] at hf
          have S : St h none' [rowC h.n [(.int .i64 (1 : Int)), (.int .i64 (2 : Int)), (.int .i64 x1.E.Time), (.int .i64 x1.E.Place), (.int .i64 x1.E.N)] 0, own (oPtr oBox) [v109] u290.2.2] h293 := S.sel [2, 1] rfl
          exact hjj2 _ _  hf rfl S
        · rw [if_neg (show ¬ ((!u290.2.1) = true) from by rw [show (!u290.2.1) = false from hc]; exact Bool.false_ne_true)] at hf
          refine ⟨(.int .i64 u290.1.From), (.int .i64 u290.1.To), (.int .i64 u290.1.E.Time), (.int .i64 u290.1.E.Place), (.int .i64 u290.1.E.N), S.rdN (.head _) (Nat.le_of_ble_eq_true rfl) rfl, ?_⟩
          refine ⟨(.int .i64 (1 : Int)), (.int .i64 (2 : Int)), (.int .i64 x1.E.Time), (.int .i64 x1.E.Place), (.int .i64 x1.E.N), S.rdN (.tail _ (.tail _ (.head _))) (Nat.le_of_ble_eq_true rfl) rfl, ?_⟩
          refine oP_intro (.bool (!((decide (u290.1.From = (1 : Int))) && ((decide (u290.1.To = (2 : Int))) && ((decide (u290.1.E.Time = x1.E.Time)) && ((decide (u290.1.E.Place = x1.E.Place)) && ((decide (u290.1.E.N = x1.E.N)) && true))))))) rfl ⟨(!((decide (u290.1.From = (1 : Int))) && ((decide (u290.1.To = (2 : Int))) && ((decide (u290.1.E.Time = x1.E.Time)) && ((decide (u290.1.E.Place = x1.E.Place)) && ((decide (u290.1.E.N = x1.E.N)) && true)))))), rfl, ?_⟩
          have S : St h none' [rowC h.n [(.int .i64 (1 : Int)), (.int .i64 (2 : Int)), (.int .i64 x1.E.Time), (.int .i64 x1.E.Place), (.int .i64 x1.E.N)] 0, own (oPtr oBox) [v109] u290.2.2] h293 := S.sel [2, 1] rfl
          exact hjj2 _ _  hf rfl S
      · rw [if_neg (show ¬ (y237 < (IntKind.wrap .i64 x0)) from of_decide_eq_false hc)] at hf
        have S : St h none' [own (oPtr oBox) [v109] l254] h253 := S.sel [1] rfl
        obtain rfl := Option.some.inj hf
        obtain rfl := hk
        exact ⟨l254, rfl, rfl, S, rfl⟩
    · exact ⟨l197, rfl, rfl, rfl, S, hL⟩
  · rintro m2010 y113 y114 y115 y116 y117 h150 ⟨l151, rfl, rfl, rfl, S, hit⟩
    obtain ⟨m201, q200, rfl, hf, hk⟩ := iter_some hit
    clear hit
    unfold B10_0
    unfold p10_l0 at hf
    try dsimp only at hf
    refine bP_intro (fun hc => ?_) (fun hc => ?_)
    · rw [if_pos (show y117 < (IntKind.wrap .i64 x0) from of_decide_eq_true hc)] at hf
      refine ⟨(.int .i64 (1 : Int)), (.int .i64 (2 : Int)), (.int .i64 x1.E.Time), (.int .i64 x1.E.Place), (.int .i64 x1.E.N), S.rdN (.head _) (Nat.le_of_ble_eq_true rfl) rfl, ?_⟩
      obtain ⟨u204, hu204, hf⟩ := obind hf
      refine ⟨_, Fz.refl _, ?_⟩
      have S : St h none' [own (oPtr oBox) [v109] l151, rowC h.n [(.int .i64 (1 : Int)), (.int .i64 (2 : Int)), (.int .i64 x1.E.Time), (.int .i64 x1.E.Place), (.int .i64 x1.E.N)] 0] h150 := S.sel [1, 0] rfl
      obtain ⟨fpu204, S1u204, backu204⟩ := St.lend [_] S
      refine (r27 (b0 := l151) (m1 := (TMail.mk (1 : Int) (2 : Int) (TEvent.mk x1.E.Time x1.E.Place x1.E.N))) (S := S1u204) hu204).mono fun v202 h203 T => ?_
      obtain ⟨rfl, T⟩ := T
      have S : St h none' [own (oPtr oBox) [v109] u204.2, rowC h.n [(.int .i64 (1 : Int)), (.int .i64 (2 : Int)), (.int .i64 x1.E.Time), (.int .i64 x1.E.Place), (.int .i64 x1.E.N)] 0] h203 := backu204 _ _ T
      refine ⟨u204.1, rfl, ?_⟩
      intro jjj1
      have hjj1 : ∀ (b208 : Bool) (h209 : Heap), p10_j1 y115 y117 u204 b208 = some q200 → St h none' [rowC h.n [(.int .i64 (1 : Int)), (.int .i64 (2 : Int)), (.int .i64 x1.E.Time), (.int .i64 x1.E.Place), (.int .i64 x1.E.N)] 0, own (oPtr oBox) [v109] u204.2] h209 → jjj1 b208 h209 := by
        rintro b208 h209 hf S
        unfold p10_j1 at hf
        unfold jjj1
        intro jjj0
        have hjj0 : ∀ (b218 : Bool) (h219 : Heap), p10_j0 y115 y117 u204 b218 = some q200 → St h none' [rowC h.n [(.int .i64 (1 : Int)), (.int .i64 (2 : Int)), (.int .i64 x1.E.Time), (.int .i64 x1.E.Place), (.int .i64 x1.E.N)] 0, own (oPtr oBox) [v109] u204.2] h219 → jjj0 b218 h219 := by
          rintro b218 h219 hf S
          unfold p10_j0 at hf
          unfold jjj0
          refine bP_intro (fun hc => ?_) (fun hc => ?_)
          · rw [if_pos (show b218 = true from hc)] at hf
            have S : St h none' [] h219 := S.sel [] rfl
            obtain rfl := Option.some.inj hf
            obtain rfl := hk
            exact ⟨rfl, S, rfl⟩
          · rw [if_neg (show ¬ (b218 = true) from by rw [show b218 = false from hc]; exact Bool.false_ne_true)] at hf
            obtain rfl := Option.some.inj hf
            exact ⟨m201, Nat.lt_succ_self _, u204.2, rfl, rfl, rfl, S, hk⟩
        refine bP_intro (fun hc => ?_) (fun hc => ?_)
        · rw [if_pos (show b208 = true from hc)] at hf
          exact hjj0 _ _  hf  S
        · rw [if_neg (show ¬ (b208 = true) from by rw [show b208 = false from hc]; exact Bool.false_ne_true)] at hf
          obtain ⟨y228, hy228, hf⟩ := obind hf
          refine ⟨_, Fz.refl _, ?_⟩
          refine (r29 (b0 := u204.2) (from1 := (2 : Int)) (to2 := (1 : Int)) (f0_0 := S.pt (r := oBox) (.tail _ (.head _))) hy228).mono fun v226 h227 T => ?_
          obtain ⟨rfl, T⟩ := T
          have S : St h none' [rowC h.n [(.int .i64 (1 : Int)), (.int .i64 (2 : Int)), (.int .i64 x1.E.Time), (.int .i64 x1.E.Place), (.int .i64 x1.E.N)] 0, own (oPtr oBox) [v109] u204.2] h227 := S.comp T
          refine ⟨y228, rfl, ?_⟩
          exact hjj0 _ _  hf  S
      refine bP_intro (fun hc => ?_) (fun hc => ?_)
      · rw [if_pos (show (!u204.1) = true from hc)] at hf
        have S : St h none' [rowC h.n [(.int .i64 (1 : Int)), (.int .i64 (2 : Int)), (.int .i64 x1.E.Time), (.int .i64 x1.E.Place), (.int .i64 x1.E.N)] 0, own (oPtr oBox) [v109] u204.2] h203 := S.sel [1, 0] rfl
        exact hjj1 _ _  hf  S
      · rw [if_neg (show ¬ ((!u204.1) = true) from by rw [show (!u204.1) = false from hc]; exact Bool.false_ne_true)] at hf
        obtain ⟨y232, hy232, hf⟩ := obind hf
        refine ⟨_, Fz.refl _, ?_⟩
        refine (r29 (b0 := u204.2) (from1 := (1 : Int)) (to2 := (2 : Int)) (f0_0 := S.pt (r := oBox) (.head _)) hy232).mono fun v230 h231 T => ?_
        obtain ⟨rfl, T⟩ := T
        have S : St h none' [own (oPtr oBox) [v109] u204.2, rowC h.n [(.int .i64 (1 : Int)), (.int .i64 (2 : Int)), (.int .i64 x1.E.Time), (.int .i64 x1.E.Place), (.int .i64 x1.E.N)] 0] h231 := S.comp T
        refine ⟨y232, rfl, ?_⟩
        have S : St h none' [rowC h.n [(.int .i64 (1 : Int)), (.int .i64 (2 : Int)), (.int .i64 x1.E.Time), (.int .i64 x1.E.Place), (.int .i64 x1.E.N)] 0, own (oPtr oBox) [v109] u204.2] h231 := S.sel [1, 0] rfl
        exact hjj1 _ _  hf  S
    · rw [if_neg (show ¬ (y117 < (IntKind.wrap .i64 x0)) from of_decide_eq_false hc)] at hf
      obtain rfl := Option.some.inj hf
      obtain rfl := hk
      exact ⟨l151, rfl, rfl, rfl, S, rfl⟩
  · exact ⟨y111, rfl, rfl, rfl, S, hL⟩
end Go.Proofs.Ytgbkpiaonlabgaa
