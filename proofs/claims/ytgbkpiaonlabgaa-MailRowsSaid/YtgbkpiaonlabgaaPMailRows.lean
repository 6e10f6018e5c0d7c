/- Pure functions, and that the machine's functions answer as they do. No condition. Own work. -/
import Derived.Test.YtgbkpiaonlabgaaSMailRows
import Derived.Test.YtgbkpiaonlabgaaTMailRows
/- Pure functions, and that the machine's functions answer as they do; printed by a program of mine (pm.py). Own work. -/
namespace Go.Proofs.Ytgbkpiaonlabgaa
open Go Go.Am
set_option linter.unusedVariables false
set_option linter.unusedSimpArgs false
/-! 51: marblerun/lane.Find$1 -/
noncomputable def p51_j0 (b103 : Bool) : Option Bool := some b103
noncomputable def p51 (x0 : TLane) (c1 : Int) (c2 : Int) : Option Bool := if x0.From = c1 then (p51_j0 (decide (x0.To = c2))) else (p51_j0 false)
theorem r51 {h : Heap} {o1 v1 : Nat} {o2 v2 : Nat} {x0 : TLane} {c1 : Int} {c2 : Int} (g1 : Snap h o1 [(.int .i64 c1)] v1) (g2 : Snap h o2 [(.int .i64 c2)] v2) {r : Bool} (hf : p51 x0 c1 c2 = some r) : ZCalls F 51 [(.agg [(.int .i64 x0.From), (.int .i64 x0.To), (.int .i64 x0.Ahead)]), (.ptr o1 v1 0), (.ptr o2 v2 0)] h fun v h' => v = .bool r ∧ St h none' [] h' := by
  refine w51 ?_
  unfold W51
  unfold p51 at hf
  have S : St h none' [] h := St.refl _ _
  intro h101
  have S : St h none' [rowC h.n [(.int .i64 x0.From), (.int .i64 x0.To), (.int .i64 x0.Ahead)] 0] h101 := S.pushRow [(.int .i64 x0.From), (.int .i64 x0.To), (.int .i64 x0.Ahead)]
  refine ⟨x0.From, S.rd1 (.head _) rfl, ?_⟩
  refine ⟨c1, snap_rd1 (snap_mono S.le _ _ _ g1) rfl, ?_⟩
  intro jjj0
  have hjj0 : ∀ (b103 : Bool) (h104 : Heap), p51_j0 b103 = some r → h101 = h104 → St h none' [] h101 → jjj0 b103 h104 := by
    rintro b103 h104 hf rfl S
    unfold p51_j0 at hf
    unfold jjj0
    obtain rfl := Option.some.inj hf
    exact ⟨rfl, S.sel [] rfl⟩
  refine bP_intro (fun hc => ?_) (fun hc => ?_)
  · rw [if_pos (show x0.From = c1 from of_decide_eq_true hc)] at hf
    refine ⟨x0.To, S.rd1 (.head _) rfl, ?_⟩
    refine ⟨c2, snap_rd1 (snap_mono S.le _ _ _ g2) rfl, ?_⟩
    have S : St h none' [] h101 := S.sel [] rfl
    exact hjj0 _ _  hf rfl S
  · rw [if_neg (show ¬ (x0.From = c1) from of_decide_eq_false hc)] at hf
    have S : St h none' [] h101 := S.sel [] rfl
    exact hjj0 _ _  hf rfl S
/-! 50: slices.IndexFunc[[]marblerun/lane.Lane,marblerun/lane.Lane] -/
noncomputable def p50_l0 (s0 : List TLane) (f1 : TLane → Option Bool) (y105 : Int) : Option (Int ⊕ (Int ⊕ Unit)) := if y105 < (s0.length : Int) then ((idx s0 y105).bind fun e129 => (f1 e129).bind fun r131 => if r131 = true then (some (.inr (.inl y105))) else (some (.inl (IntKind.wrap .i64 (y105 + (1 : Int)))))) else (some (.inr (.inr ())))
noncomputable def p50 (s0 : List TLane) (f1 : TLane → Option Bool) : Option Int := (loopC (p50_l0 s0 f1) (0 : Int)).bind fun res125 => (match res125 with | .inl y115 => some y115 | .inr _ => some ((-1) : Int))
theorem r50 {h : Heap} {a0_0 : AV} {a1_0 : AV} {s0 : List TLane} {f1 : TLane → Option Bool} (f0_0 : SlR rLane (Snap h) a0_0 s0) (f1_0 : ∀ (h' : Heap) (y0 : TLane) r, HLe h h' → f1 y0 = some r → callW F a1_0 [.agg [.int .i64 y0.From, .int .i64 y0.To, .int .i64 y0.Ahead]] h' fun v h2 => v = .bool r ∧ St h' none' [] h2) {r : Int} (hf : p50 s0 f1 = some r) : ZCalls F 50 [a0_0, a1_0] h fun v h' => v = .int .i64 r ∧ St h none' [] h' := by
  refine w50 ?_
  unfold W50
  unfold p50 at hf
  have S : St h none' [] h := St.refl _ _
  refine ifP_iff.2 ⟨(f0_0).is, ?_⟩
  try rw [(f0_0).slen]
  obtain ⟨res125, hL, hf⟩ := obind hf
  obtain ⟨n126, hL⟩ := loopC_iff.1 hL
  refine loopm50_0 (R := fun (s113 : AV) (f114 : AV) (y115 : Int) (y116 : Int) (y117 : Int) (h118 : Heap) => St h none' [] h118 ∧ (.inl y115) = res125) (X0 := fun (s119 : AV) (f120 : AV) (y121 : Int) (y122 : Int) (y123 : Int) (h124 : Heap) => St h none' [] h124 ∧ (.inr ()) = res125) ?_ ?_ (loop50_0 (I := fun (m128 : Nat) (s101 : AV) (f102 : AV) (y103 : Int) (y104 : Int) (y105 : Int) (h106 : Heap) => a0_0 = s101 ∧ a1_0 = f102 ∧ (s0.length : Int) = y104 ∧ St h none' [] h106 ∧ iter (p50_l0 s0 f1) m128 y105 = some res125) ?_ (m := n126) ?_)
  · rintro s113 f114 y115 y116 y117 h118 ⟨S, rfl⟩
    try dsimp only at hf
    obtain rfl := Option.some.inj hf
    exact ⟨rfl, S.sel [] rfl⟩
  · rintro s119 f120 y121 y122 y123 h124 ⟨S, rfl⟩
    try dsimp only at hf
    obtain rfl := Option.some.inj hf
    exact ⟨rfl, S.sel [] rfl⟩
  · rintro m1280 s101 f102 y103 y104 y105 h106 ⟨rfl, rfl, rfl, S, hit⟩
    obtain ⟨m128, q127, rfl, hf, hk⟩ := iter_some hit
    clear hit
    unfold B50_0
    unfold p50_l0 at hf
    try dsimp only at hf
    refine bP_intro (fun hc => ?_) (fun hc => ?_)
    · rw [if_pos (show y105 < (s0.length : Int) from of_decide_eq_true hc)] at hf
      obtain ⟨e129, he129, hf⟩ := obind hf
      obtain ⟨qe129, q0e129, q1e129⟩ := SlR.ix f0_0 he129
      have pe129 := (SlR.idx f0_0 (snap_mono S.le) he129).1
      refine ifP_iff.2 ⟨qe129, q0e129, (by first | exact q1e129 | exact (idx_lt he129).2), ?_⟩
      obtain ⟨_, cr130, Rr130, Nr130, Or130, Zr130⟩ := SlR.idx f0_0 (snap_mono S.le) he129
      obtain rfl := rLane_open Rr130
      refine ⟨(.int .i64 e129.From), (.int .i64 e129.To), (.int .i64 e129.Ahead), Nr130, ?_⟩
      obtain ⟨r131, hr131, hf⟩ := obind hf
      refine ⟨_, Fz.refl _, ?_⟩
      refine callW_mono (f1_0 _ e129 _ S.le hr131) fun v132 h133 T => ?_
      obtain ⟨rfl, T⟩ := T
      have S : St h none' [] h133 := S.comp T
      refine ⟨r131, rfl, ?_⟩
      refine bP_intro (fun hc => ?_) (fun hc => ?_)
      · rw [if_pos (show r131 = true from hc)] at hf
        obtain rfl := Option.some.inj hf
        obtain rfl := hk
        exact ⟨S, rfl⟩
      · rw [if_neg (show ¬ (r131 = true) from by rw [show r131 = false from hc]; exact Bool.false_ne_true)] at hf
        obtain rfl := Option.some.inj hf
        exact ⟨m128, Nat.lt_succ_self _, rfl, rfl, rfl, S, hk⟩
    · rw [if_neg (show ¬ (y105 < (s0.length : Int)) from of_decide_eq_false hc)] at hf
      obtain rfl := Option.some.inj hf
      obtain rfl := hk
      exact ⟨S, rfl⟩
  · exact ⟨rfl, rfl, rfl, S, hL⟩
/-! 37: marblerun/lane.Find -/
noncomputable def p37 (l0 : List TLane) (from1 : Int) (to2 : Int) : Option Int := (p50 l0 (fun (y0 : TLane) => p51 y0 from1 to2)).bind fun y107 => some y107
theorem r37 {h : Heap} {a0_0 : AV} {l0 : List TLane} {from1 : Int} {to2 : Int} (f0_0 : SlR rLane (Snap h) a0_0 l0) {r : Int} (hf : p37 l0 from1 to2 = some r) : ZCalls F 37 [a0_0, (.int .i64 from1), (.int .i64 to2)] h fun v h' => v = .int .i64 r ∧ St h none' [] h' := by
  refine w37 ?_
  unfold W37
  unfold p37 at hf
  have S : St h none' [] h := St.refl _ _
  intro h101
  have S : St h none' [rowC h.n [(.int .i64 from1)] 0] h101 := S.pushRow [(.int .i64 from1)]
  intro h103
  have S : St h none' [rowC h101.n [(.int .i64 to2)] 0, rowC h.n [(.int .i64 from1)] 0] h103 := S.pushRow [(.int .i64 to2)]
  obtain ⟨y107, hy107, hf⟩ := obind hf
  refine ⟨_, Fz.refl _, ?_⟩
  refine (r50 (s0 := l0) (f1 := (fun (y0 : TLane) => p51 y0 from1 to2)) (f0_0 := (SlR.mono (snap_mono S.le) f0_0)) (f1_0 := fun h1 y0 r hl hr => by show ZCalls F 51 _ h1 _; exact r51 (g1 := snap_mono hl _ _ _ (S.row (.tail _ (.head _)))) (g2 := snap_mono hl _ _ _ (S.row (.head _))) hr) hy107).mono fun v105 h106 T => ?_
  obtain ⟨rfl, T⟩ := T
  have S : St h none' [rowC h101.n [(.int .i64 to2)] 0, rowC h.n [(.int .i64 from1)] 0] h106 := S.comp T
  refine ⟨y107, rfl, ?_⟩
  obtain rfl := Option.some.inj hf
  exact ⟨rfl, S.sel [] rfl⟩
/-! 26: marblerun/mail.New -/
noncomputable def p26 (lanes0 : List TLane) : Option (Option TBox) := (app 24 [] lanes0).bind fun y101 => (mkS 24 (lanes0.length : Int) (lanes0.length : Int) []).bind fun y105 => some (some (TBox.mk y101 y105 (0 : Int)))
theorem r26 {h : Heap} {a0_0 : AV} {lanes0 : List TLane} (f0_0 : SlR rLane (Snap h) a0_0 lanes0) {r : (Option TBox)} (hf : p26 lanes0 = some r) : ZCalls F 26 [a0_0] h fun v h' => St h none' [own (oPtr oBox) [v] r] h' := by
  refine w26 ?_
  unfold W26
  unfold p26 at hf
  have S : St h none' [] h := St.refl _ _
  obtain ⟨y101, hy101, hf⟩ := obind hf
  have my101 := app_nil hy101
  obtain ⟨o103, gy101, S⟩ := St.clone (r := rLane) (b := 24) S (snap_mono S.le) f0_0 (.inl flat_Lane) my101.1
  refine oP_intro _ gy101 ?_
  intro h102
  have S : St h none' [own (oSl (fz rLane)) [(NOp.mk (.appendNil 3 24) [a0_0] h.n)] y101] h102 := S.cast (by rw [my101.2] <;> rfl)
  refine ifP_iff.2 ⟨(f0_0).is, ?_⟩
  try rw [(f0_0).slen]
  obtain ⟨y105, hy105, hf⟩ := obind hf
  obtain ⟨my105, ey105⟩ := mkS_some hy105
  refine ⟨my105, ?_⟩
  intro h106
  have S : St h none' [own (oSl (oSl (fz rEvent))) [(.slice h102.n 0 0 ((lanes0.length : Int) : Int).toNat 1)] y105, own (oSl (fz rLane)) [(NOp.mk (.appendNil 3 24) [a0_0] h.n)] y101] h106 := (S.make (r := (oSl (fz rEvent))) (zero := [.nilSlice]) (x := []) (fun _ => ⟨_, rfl, .inl ⟨rfl, rfl, rfl⟩⟩) _).cast (by rw [ey105]; rfl)
  refine oP_intro (.agg [(NOp.mk (.appendNil 3 24) [a0_0] h.n), (.slice h102.n 0 0 ((lanes0.length : Int) : Int).toNat 1), (.int .i64 (0 : Int))]) (by simp only [POp.ev, place, sl_cells ((S.sl (r := (fz rLane)) (.tail _ (.head _)))).is, sl_tup ((S.sl (r := (fz rLane)) (.tail _ (.head _)))).is, sl_cells ((S.sl (r := (oSl (fz rEvent))) (.head _))).is, sl_tup ((S.sl (r := (oSl (fz rEvent))) (.head _))).is] <;> first | rfl | (simp [AV.cells, AV.isTup, splice]; done) | (simp [AV.cells, AV.isTup, splice]; rfl)) ?_
  refine ifP_iff.2 ⟨rfl, ?_⟩
  intro h108
  have S : St h none' [rowC h106.n [(NOp.mk (.appendNil 3 24) [a0_0] h.n), (.slice h102.n 0 0 ((lanes0.length : Int) : Int).toNat 1), (.int .i64 (0 : Int))] 0, own (oSl (oSl (fz rEvent))) [(.slice h102.n 0 0 ((lanes0.length : Int) : Int).toNat 1)] y105, own (oSl (fz rLane)) [(NOp.mk (.appendNil 3 24) [a0_0] h.n)] y101] h108 := S.pushRow [(NOp.mk (.appendNil 3 24) [a0_0] h.n), (.slice h102.n 0 0 ((lanes0.length : Int) : Int).toNat 1), (.int .i64 (0 : Int))]
  have S : St h none' [own (oSl (fz rLane)) [(NOp.mk (.appendNil 3 24) [a0_0] h.n)] y101, own (oSl (oSl (fz rEvent))) [(.slice h102.n 0 0 ((lanes0.length : Int) : Int).toNat 1)] y105, rowC h106.n [(NOp.mk (.appendNil 3 24) [a0_0] h.n), (.slice h102.n 0 0 ((lanes0.length : Int) : Int).toNat 1), (.int .i64 (0 : Int))] 0] h108 := S.sel [2, 1, 0] rfl
  have S : St h none' [own oBox [(NOp.mk (.appendNil 3 24) [a0_0] h.n), (.slice h102.n 0 0 ((lanes0.length : Int) : Int).toNat 1), (.int .i64 (0 : Int))] (TBox.mk y101 y105 (0 : Int)), rowC h106.n [(NOp.mk (.appendNil 3 24) [a0_0] h.n), (.slice h102.n 0 0 ((lanes0.length : Int) : Int).toNat 1), (.int .i64 (0 : Int))] 0] h108 := oBox_close (x := (TBox.mk y101 y105 (0 : Int))) S
  have S : St h none' [rowC h106.n [(NOp.mk (.appendNil 3 24) [a0_0] h.n), (.slice h102.n 0 0 ((lanes0.length : Int) : Int).toNat 1), (.int .i64 (0 : Int))] 0, own oBox [(NOp.mk (.appendNil 3 24) [a0_0] h.n), (.slice h102.n 0 0 ((lanes0.length : Int) : Int).toNat 1), (.int .i64 (0 : Int))] (TBox.mk y101 y105 (0 : Int))] h108 := S.sel [1, 0] rfl
  have S : St h none' [own (oPtr oBox) [(.ptr h106.n 0 0)] (some (TBox.mk y101 y105 (0 : Int)))] h108 := S.ptrClose
  obtain rfl := Option.some.inj hf
  exact S.sel [0] rfl
/-! 29: (*marblerun/mail.Box).Len -/
noncomputable def p29_j0 (b0 : Option TBox) (from1 : Int) (to2 : Int) (b107 : Bool) : Option Int := if b107 = true then (some (0 : Int)) else (b0.bind fun b112 => (p37 b112.lanes from1 to2).bind fun y117 => (idx b112.l y117).bind fun e118 => some (e118.length : Int))
noncomputable def p29 (b0 : Option TBox) (from1 : Int) (to2 : Int) : Option Int := if b0.isNone = true then (p29_j0 b0 from1 to2 true) else (b0.bind fun b121 => (p37 b121.lanes from1 to2).bind fun y126 => p29_j0 b0 from1 to2 (decide (y126 < (0 : Int))))
theorem r29 {h : Heap} {a0_0 : AV} {b0 : Option TBox} {from1 : Int} {to2 : Int} (f0_0 : PtR rBox (Snap h) a0_0 b0) {r : Int} (hf : p29 b0 from1 to2 = some r) : ZCalls F 29 [a0_0, (.int .i64 from1), (.int .i64 to2)] h fun v h' => v = .int .i64 r ∧ St h none' [] h' := by
  refine w29 ?_
  unfold W29
  unfold p29 at hf
  have S : St h none' [] h := St.refl _ _
  refine oP_intro (.bool b0.isNone) (ptr_eq f0_0) ⟨_, rfl, ?_⟩
  intro jjj0
  have hjj0 : ∀ (b107 : Bool) (h108 : Heap), p29_j0 b0 from1 to2 b107 = some r → St h none' [] h108 → jjj0 b107 h108 := by
    rintro b107 h108 hf S
    unfold p29_j0 at hf
    unfold jjj0
    refine bP_intro (fun hc => ?_) (fun hc => ?_)
    · rw [if_pos (show b107 = true from hc)] at hf
      obtain rfl := Option.some.inj hf
      exact ⟨rfl, S.sel [] rfl⟩
    · rw [if_neg (show ¬ (b107 = true) from by rw [show b107 = false from hc]; exact Bool.false_ne_true)] at hf
      obtain ⟨b112, hb112, hf⟩ := obind hf
      obtain ⟨o113, v114, rwb112, eP, gb112, Rb112⟩ := PtR.open (hb112 ▸ f0_0)
      subst eP
      obtain ⟨b112c_0, b112c_1, rfl, Fb112_0, Fb112_1⟩ := rBox_open Rb112
      refine oP_intro _ rfl ?_
      refine ifP_iff.2 ⟨rfl, ?_⟩
      have S_3 := S
      refine ⟨b112c_1, snap_rd1 (snap_mono S.le _ _ _ gb112) rfl, ?_⟩
      refine oP_intro (.ptr o113 v114 0) rfl ?_
      refine ifP_iff.2 ⟨rfl, ?_⟩
      refine ⟨b112c_0, snap_rd1 (snap_mono S.le _ _ _ gb112) rfl, ?_⟩
      have S_10 := S
      obtain ⟨y117, hy117, hf⟩ := obind hf
      refine (r37 (l0 := b112.lanes) (from1 := from1) (to2 := to2) (f0_0 := (SlR.mono (snap_mono S.le) Fb112_0)) hy117).mono fun v115 h116 T => ?_
      obtain ⟨rfl, T⟩ := T
      have S : St h none' [] h116 := S.comp T
      refine ⟨y117, rfl, ?_⟩
      have S_11 := S
      obtain ⟨e118, he118, hf⟩ := obind hf
      obtain ⟨qe118, q0e118, q1e118⟩ := SlR.ix Fb112_1 he118
      have pe118 := (SlR.idx Fb112_1 (snap_mono S.le) he118).1
      refine ifP_iff.2 ⟨qe118, q0e118, (by first | exact q1e118 | exact (idx_lt he118).2), ?_⟩
      obtain ⟨_, cr119, Rr119, Nr119, Or119, Zr119⟩ := SlR.idx Fb112_1 (snap_mono S.le) he118
      obtain ⟨cr119, rfl, Fr119⟩ := Rr119
      refine ⟨cr119, Zr119 _ rfl, ?_⟩
      refine ifP_iff.2 ⟨(Fr119).is, ?_⟩
      try rw [(Fr119).slen]
      refine ⟨⟨b112c_1, snap_rd1 (snap_mono S_3.le _ _ _ gb112) rfl, snap_rd1 (snap_mono S_10.le _ _ _ gb112) rfl, snap_rd1 (snap_mono S_11.le _ _ _ gb112) rfl⟩, ?_⟩
      obtain rfl := Option.some.inj hf
      exact ⟨rfl, S.sel [] rfl⟩
  refine bP_intro (fun hc => ?_) (fun hc => ?_)
  · rw [if_pos (show b0.isNone = true from hc)] at hf
    exact hjj0 _ _  hf  S
  · rw [if_neg (show ¬ (b0.isNone = true) from by rw [show b0.isNone = false from hc]; exact Bool.false_ne_true)] at hf
    obtain ⟨b121, hb121, hf⟩ := obind hf
    obtain ⟨o122, v123, rwb121, eP, gb121, Rb121⟩ := PtR.open (hb121 ▸ f0_0)
    subst eP
    obtain ⟨b121c_0, b121c_1, rfl, Fb121_0, Fb121_1⟩ := rBox_open Rb121
    refine oP_intro _ rfl ?_
    refine ifP_iff.2 ⟨rfl, ?_⟩
    refine ⟨b121c_0, snap_rd1 (snap_mono S.le _ _ _ gb121) rfl, ?_⟩
    obtain ⟨y126, hy126, hf⟩ := obind hf
    refine ⟨_, Fz.refl _, ?_⟩
    refine (r37 (l0 := b121.lanes) (from1 := from1) (to2 := to2) (f0_0 := (SlR.mono (snap_mono S.le) Fb121_0)) hy126).mono fun v124 h125 T => ?_
    obtain ⟨rfl, T⟩ := T
    have S : St h none' [] h125 := S.comp T
    refine ⟨y126, rfl, ?_⟩
    exact hjj0 _ _  hf  S
/-! 30: (*marblerun/mail.Box).All -/
noncomputable def p30_l0 (b101 : TBox) (st : Int × Int) : Option ((Int × Int) ⊕ Int) := match st with | (n104, y107) => if y107 < (b101.l.length : Int) then ((idx b101.l y107).bind fun e121 => some (.inl ((IntKind.wrap .i64 (n104 + (e121.length : Int))), (IntKind.wrap .i64 (y107 + (1 : Int)))))) else (some (.inr n104))
noncomputable def p30 (b0 : Option TBox) : Option Int := if b0.isNone = true then (some (0 : Int)) else (b0.bind fun b101 => (loopC (p30_l0 b101) ((0 : Int), (0 : Int))).bind fun res117 => ((fun (n112 : Int) => some n112) res117))
theorem r30 {h : Heap} {a0_0 : AV} {b0 : Option TBox} (f0_0 : PtR rBox (Snap h) a0_0 b0) {r : Int} (hf : p30 b0 = some r) : ZCalls F 30 [a0_0] h fun v h' => v = .int .i64 r ∧ St h none' [] h' := by
  refine w30 ?_
  unfold W30
  unfold p30 at hf
  have S : St h none' [] h := St.refl _ _
  refine oP_intro (.bool b0.isNone) (ptr_eq f0_0) ⟨_, rfl, ?_⟩
  refine bP_intro (fun hc => ?_) (fun hc => ?_)
  · rw [if_pos (show b0.isNone = true from hc)] at hf
    obtain rfl := Option.some.inj hf
    exact ⟨rfl, S.sel [] rfl⟩
  · rw [if_neg (show ¬ (b0.isNone = true) from by rw [show b0.isNone = false from hc]; exact Bool.false_ne_true)] at hf
    obtain ⟨b101, hb101, hf⟩ := obind hf
    obtain ⟨o102, v103, rwb101, eP, gb101, Rb101⟩ := PtR.open (hb101 ▸ f0_0)
    subst eP
    obtain ⟨b101c_0, b101c_1, rfl, Fb101_0, Fb101_1⟩ := rBox_open Rb101
    refine oP_intro _ rfl ?_
    refine ifP_iff.2 ⟨rfl, ?_⟩
    refine ⟨b101c_1, snap_rd1 (snap_mono S.le _ _ _ gb101) rfl, ?_⟩
    refine ifP_iff.2 ⟨(Fb101_1).is, ?_⟩
    try rw [(Fb101_1).slen]
    obtain ⟨res117, hL, hf⟩ := obind hf
    obtain ⟨n118, hL⟩ := loopC_iff.1 hL
    refine loopm30_0 (X0 := fun (n112 : Int) (y113 : AV) (y114 : Int) (y115 : Int) (h116 : Heap) => St h none' [] h116 ∧ n112 = res117) ?_ (loop30_0 (I := fun (m120 : Nat) (n104 : Int) (y105 : AV) (y106 : Int) (y107 : Int) (h108 : Heap) => b101c_1 = y105 ∧ (b101.l.length : Int) = y106 ∧ St h none' [] h108 ∧ iter (p30_l0 b101) m120 (n104, y107) = some res117) ?_ (m := n118) ?_)
    · rintro n112 y113 y114 y115 h116 ⟨S, rfl⟩
      try dsimp only at hf
      obtain rfl := Option.some.inj hf
      exact ⟨rfl, S.sel [] rfl⟩
    · rintro m1200 n104 y105 y106 y107 h108 ⟨rfl, rfl, S, hit⟩
      obtain ⟨m120, q119, rfl, hf, hk⟩ := iter_some hit
      clear hit
      unfold B30_0
      unfold p30_l0 at hf
      try dsimp only at hf
      refine bP_intro (fun hc => ?_) (fun hc => ?_)
      · rw [if_pos (show y107 < (b101.l.length : Int) from of_decide_eq_true hc)] at hf
        obtain ⟨e121, he121, hf⟩ := obind hf
        obtain ⟨qe121, q0e121, q1e121⟩ := SlR.ix Fb101_1 he121
        have pe121 := (SlR.idx Fb101_1 (snap_mono S.le) he121).1
        refine ifP_iff.2 ⟨qe121, q0e121, (by first | exact q1e121 | exact (idx_lt he121).2), ?_⟩
        obtain ⟨_, cr122, Rr122, Nr122, Or122, Zr122⟩ := SlR.idx Fb101_1 (snap_mono S.le) he121
        obtain ⟨cr122, rfl, Fr122⟩ := Rr122
        refine ⟨cr122, Zr122 _ rfl, ?_⟩
        refine ifP_iff.2 ⟨(Fr122).is, ?_⟩
        try rw [(Fr122).slen]
        obtain rfl := Option.some.inj hf
        exact ⟨m120, Nat.lt_succ_self _, rfl, rfl, S, hk⟩
      · rw [if_neg (show ¬ (y107 < (b101.l.length : Int)) from of_decide_eq_false hc)] at hf
        obtain rfl := Option.some.inj hf
        obtain rfl := hk
        exact ⟨S, rfl⟩
    · exact ⟨rfl, rfl, S, hL⟩
/-! 31: (*marblerun/mail.Box).Sent -/
noncomputable def p31 (b0 : Option TBox) : Option Int := if b0.isNone = true then (some (0 : Int)) else (b0.bind fun b101 => some b101.sent)
theorem r31 {h : Heap} {a0_0 : AV} {b0 : Option TBox} (f0_0 : PtR rBox (Snap h) a0_0 b0) {r : Int} (hf : p31 b0 = some r) : ZCalls F 31 [a0_0] h fun v h' => v = .int .i64 r ∧ St h none' [] h' := by
  refine w31 ?_
  unfold W31
  unfold p31 at hf
  have S : St h none' [] h := St.refl _ _
  refine oP_intro (.bool b0.isNone) (ptr_eq f0_0) ⟨_, rfl, ?_⟩
  refine bP_intro (fun hc => ?_) (fun hc => ?_)
  · rw [if_pos (show b0.isNone = true from hc)] at hf
    obtain rfl := Option.some.inj hf
    exact ⟨rfl, S.sel [] rfl⟩
  · rw [if_neg (show ¬ (b0.isNone = true) from by rw [show b0.isNone = false from hc]; exact Bool.false_ne_true)] at hf
    obtain ⟨b101, hb101, hf⟩ := obind hf
    obtain ⟨o102, v103, rwb101, eP, gb101, Rb101⟩ := PtR.open (hb101 ▸ f0_0)
    subst eP
    obtain ⟨b101c_0, b101c_1, rfl, Fb101_0, Fb101_1⟩ := rBox_open Rb101
    refine oP_intro _ rfl ?_
    refine ifP_iff.2 ⟨rfl, ?_⟩
    refine ⟨b101.sent, snap_rd1 (snap_mono S.le _ _ _ gb101) rfl, ?_⟩
    obtain rfl := Option.some.inj hf
    exact ⟨rfl, S.sel [] rfl⟩
/-! 27: (*marblerun/mail.Box).Send -/
noncomputable def p27_j0 (m1 : TMail) (b113 : Bool) (l117 : Option TBox) : Option (Bool × (Option TBox)) := if b113 = true then (some (false, l117)) else (l117.bind fun b118 => (p37 b118.lanes m1.From m1.To).bind fun y126 => (idx b118.l y126).bind fun e127 => (app 24 e127 [(TEvent.mk m1.E.Time m1.E.Place m1.E.N)]).bind fun e136 => some (true, (some (TBox.mk b118.lanes (b118.l.set (y126 : Int).toNat e136) (IntKind.wrap .i64 (b118.sent + (1 : Int)))))))
noncomputable def p27 (b0 : Option TBox) (m1 : TMail) : Option (Bool × (Option TBox)) := if b0.isNone = true then (p27_j0 m1 true b0) else (b0.bind fun b146 => (p37 b146.lanes m1.From m1.To).bind fun y154 => p27_j0 m1 (decide (y154 < (0 : Int))) (some b146))
theorem r27 {h : Heap} {a0_0 : AV} {M : Nat → Prop} {b0 : Option TBox} {m1 : TMail} (S : St h M [own (oPtr oBox) [a0_0] b0] h) {r : Bool × (Option TBox)} (hf : p27 b0 m1 = some r) : ZCalls F 27 [a0_0, (.agg [(.int .i64 m1.From), (.int .i64 m1.To), (.int .i64 m1.E.Time), (.int .i64 m1.E.Place), (.int .i64 m1.E.N)])] h fun v h' => v = .bool r.1 ∧ St h M [own (oPtr oBox) [a0_0] r.2] h' := by
  refine w27 ?_
  unfold W27
  unfold p27 at hf
  intro h102
  have S : St h M [rowC h.n [(.int .i64 m1.From), (.int .i64 m1.To), (.int .i64 m1.E.Time), (.int .i64 m1.E.Place), (.int .i64 m1.E.N)] 0, own (oPtr oBox) [a0_0] b0] h102 := S.pushRow [(.int .i64 m1.From), (.int .i64 m1.To), (.int .i64 m1.E.Time), (.int .i64 m1.E.Place), (.int .i64 m1.E.N)]
  refine oP_intro (.bool b0.isNone) (ptr_eq (S.pt (r := oBox) (.tail _ (.head _)))) ⟨_, rfl, ?_⟩
  intro jjj0
  have hjj0 : ∀ (b113 : Bool) (h114 : Heap) (l117 : Option TBox), p27_j0 m1 b113 l117 = some r → St h M [own (oPtr oBox) [a0_0] l117, rowC h.n [(.int .i64 m1.From), (.int .i64 m1.To), (.int .i64 m1.E.Time), (.int .i64 m1.E.Place), (.int .i64 m1.E.N)] 0] h114 → jjj0 b113 h114 := by
    rintro b113 h114 l117 hf S
    unfold p27_j0 at hf
    unfold jjj0
    refine bP_intro (fun hc => ?_) (fun hc => ?_)
    · rw [if_pos (show b113 = true from hc)] at hf
      obtain rfl := Option.some.inj hf
      exact ⟨rfl, S.sel [0] rfl⟩
    · rw [if_neg (show ¬ (b113 = true) from by rw [show b113 = false from hc]; exact Bool.false_ne_true)] at hf
      obtain ⟨b118, hb118, hf⟩ := obind hf
      have S : St h M [own (oPtr oBox) [a0_0] (some b118), rowC h.n [(.int .i64 m1.From), (.int .i64 m1.To), (.int .i64 m1.E.Time), (.int .i64 m1.E.Place), (.int .i64 m1.E.N)] 0] h114 := S.cast (by rw [hb118])
      obtain ⟨o119, v120, rwb118, eP, S2⟩ := St.ptrOpen S
      subst eP
      have S := S2
      have S := S.swap
      obtain ⟨b118c_0, b118c_1, eS, S2⟩ := oBox_open S
      subst eS
      have S := S2
      have S : St h M [own (oSl (fz rLane)) [b118c_0] b118.lanes, own (oSl (oSl (fz rEvent))) [b118c_1] b118.l, rowC o119 [b118c_0, b118c_1, (.int .i64 b118.sent)] v120, rowC h.n [(.int .i64 m1.From), (.int .i64 m1.To), (.int .i64 m1.E.Time), (.int .i64 m1.E.Place), (.int .i64 m1.E.N)] 0] h114 := S
      refine oP_intro _ rfl ?_
      refine ifP_iff.2 ⟨rfl, ?_⟩
      refine ⟨b118c_0, S.rd1 (.tail _ (.tail _ (.head _))) rfl, ?_⟩
      refine ifP_iff.2 ⟨rfl, ?_⟩
      refine ⟨m1.From, S.rd1 (.tail _ (.tail _ (.tail _ (.head _)))) rfl, ?_⟩
      refine ifP_iff.2 ⟨rfl, ?_⟩
      refine ⟨m1.To, S.rd1 (.tail _ (.tail _ (.tail _ (.head _)))) rfl, ?_⟩
      obtain ⟨y126, hy126, hf⟩ := obind hf
      refine ⟨_, Fz.refl _, ?_⟩
      refine (r37 (l0 := b118.lanes) (from1 := m1.From) (to2 := m1.To) (f0_0 := (S.sl (r := (fz rLane)) (.head _))) hy126).mono fun v124 h125 T => ?_
      obtain ⟨rfl, T⟩ := T
      have S : St h M [own (oSl (fz rLane)) [b118c_0] b118.lanes, own (oSl (oSl (fz rEvent))) [b118c_1] b118.l, rowC o119 [b118c_0, b118c_1, (.int .i64 b118.sent)] v120, rowC h.n [(.int .i64 m1.From), (.int .i64 m1.To), (.int .i64 m1.E.Time), (.int .i64 m1.E.Place), (.int .i64 m1.E.N)] 0] h125 := S.comp T
      refine ⟨y126, rfl, ?_⟩
      refine oP_intro (.ptr o119 v120 0) rfl ?_
      refine ifP_iff.2 ⟨rfl, ?_⟩
      have S_3 := S
      refine ⟨b118c_1, S.rd1 (.tail _ (.tail _ (.head _))) rfl, ?_⟩
      refine oP_intro (.ptr o119 v120 0) rfl ?_
      refine ifP_iff.2 ⟨rfl, ?_⟩
      refine ⟨b118c_1, S.rd1 (.tail _ (.tail _ (.head _))) rfl, ?_⟩
      obtain ⟨e127, he127, hf⟩ := obind hf
      obtain ⟨qe127, q0e127, q1e127⟩ := SlR.ix (S.sl (r := (oSl (fz rEvent))) (.tail _ (.head _))) he127
      have pe127 := (SlR.idx (S.sl (r := (oSl (fz rEvent))) (.tail _ (.head _))) (Hp.le_refl _) he127).1
      refine ifP_iff.2 ⟨qe127, q0e127, (by first | exact q1e127 | exact (idx_lt he127).2), ?_⟩
      have S : St h M [own (oSl (oSl (fz rEvent))) [b118c_1] b118.l, own (oSl (fz rLane)) [b118c_0] b118.lanes, rowC o119 [b118c_0, b118c_1, (.int .i64 b118.sent)] v120, rowC h.n [(.int .i64 m1.From), (.int .i64 m1.To), (.int .i64 m1.E.Time), (.int .i64 m1.E.Place), (.int .i64 m1.E.N)] 0] h125 := S.sel [1, 0, 2, 3] rfl
      obtain ⟨cc129, lc129, S⟩ := St.out S he127
      obtain ⟨c129, rfl⟩ : ∃ a, cc129 = [a] := len1' lc129
      have S : St h M [own (oSl (fz rEvent)) [c129] e127, hole (oSl (fz rEvent)) b118c_1 b118.l (y126 : Int).toNat [c129], own (oSl (fz rLane)) [b118c_0] b118.lanes, rowC o119 [b118c_0, b118c_1, (.int .i64 b118.sent)] v120, rowC h.n [(.int .i64 m1.From), (.int .i64 m1.To), (.int .i64 m1.E.Time), (.int .i64 m1.E.Place), (.int .i64 m1.E.N)] 0] h125 := S
      refine ⟨c129, (S.hrd (.tail _ (.head _))).2.2.2.2.2 _ rfl, ?_⟩
      refine ifP_iff.2 ⟨rfl, ?_⟩
      refine ⟨(.int .i64 m1.E.Time), (.int .i64 m1.E.Place), (.int .i64 m1.E.N), S.rdN (.tail _ (.tail _ (.tail _ (.tail _ (.head _))))) (Nat.le_of_ble_eq_true rfl) rfl, ?_⟩
      intro h132
      have S : St h M [rowC h125.n [(.int .i64 m1.E.Time), (.int .i64 m1.E.Place), (.int .i64 m1.E.N)] 0, own (oSl (fz rEvent)) [c129] e127, hole (oSl (fz rEvent)) b118c_1 b118.l (y126 : Int).toNat [c129], own (oSl (fz rLane)) [b118c_0] b118.lanes, rowC o119 [b118c_0, b118c_1, (.int .i64 b118.sent)] v120, rowC h.n [(.int .i64 m1.From), (.int .i64 m1.To), (.int .i64 m1.E.Time), (.int .i64 m1.E.Place), (.int .i64 m1.E.N)] 0] h132 := S.pushRow [(.int .i64 m1.E.Time), (.int .i64 m1.E.Place), (.int .i64 m1.E.N)]
      have S_15 := S
      obtain ⟨e136, he136, hf⟩ := obind hf
      have S : St h M [own (fz rEvent) [(.int .i64 m1.E.Time), (.int .i64 m1.E.Place), (.int .i64 m1.E.N)] (TEvent.mk m1.E.Time m1.E.Place m1.E.N), rowC h125.n [(.int .i64 m1.E.Time), (.int .i64 m1.E.Place), (.int .i64 m1.E.N)] 0, own (oSl (fz rEvent)) [c129] e127, hole (oSl (fz rEvent)) b118c_1 b118.l (y126 : Int).toNat [c129], own (oSl (fz rLane)) [b118c_0] b118.lanes, rowC o119 [b118c_0, b118c_1, (.int .i64 b118.sent)] v120, rowC h.n [(.int .i64 m1.From), (.int .i64 m1.To), (.int .i64 m1.E.Time), (.int .i64 m1.E.Place), (.int .i64 m1.E.N)] 0] h132 := S.add (r := rEvent) (x := (TEvent.mk m1.E.Time m1.E.Place m1.E.N)) (rEvent_mk (x := (TEvent.mk m1.E.Time m1.E.Place m1.E.N)))
      have S : St h M [own (oSl (fz rEvent)) [c129] e127, own (fz rEvent) [(.int .i64 m1.E.Time), (.int .i64 m1.E.Place), (.int .i64 m1.E.N)] (TEvent.mk m1.E.Time m1.E.Place m1.E.N), rowC h125.n [(.int .i64 m1.E.Time), (.int .i64 m1.E.Place), (.int .i64 m1.E.N)] 0, hole (oSl (fz rEvent)) b118c_1 b118.l (y126 : Int).toNat [c129], own (oSl (fz rLane)) [b118c_0] b118.lanes, rowC o119 [b118c_0, b118c_1, (.int .i64 b118.sent)] v120, rowC h.n [(.int .i64 m1.From), (.int .i64 m1.To), (.int .i64 m1.E.Time), (.int .i64 m1.E.Place), (.int .i64 m1.E.N)] 0] h132 := S.sel [2, 0, 1, 3, 4, 5, 6] rfl
      have me136 := app_some he136
      obtain ⟨v135, h134, e137, S⟩ := St.app1R (r := (fz rEvent)) (b := 24) S me136.1
      have S : St h M [own (oSl (fz rEvent)) [v135] e136, hole (oSl (fz rEvent)) b118c_1 b118.l (y126 : Int).toNat [c129], own (oSl (fz rLane)) [b118c_0] b118.lanes, rowC o119 [b118c_0, b118c_1, (.int .i64 b118.sent)] v120, rowC h.n [(.int .i64 m1.From), (.int .i64 m1.To), (.int .i64 m1.E.Time), (.int .i64 m1.E.Place), (.int .i64 m1.E.N)] 0] h134 := S.cast (by rw [← me136.2] <;> rfl)
      refine ⟨v135, h134, e137, ?_⟩
      have S_16 := S
      have p139 := (S.hrd (.tail _ (.head _))).2.2.1
      refine ifP_iff.2 ⟨(S.hrd (.tail _ (.head _))).1, (idx_lt he127).1, (by first | exact (idx_lt he127).2 | (have hq := (S.hrd (.tail _ (.head _))).2.1; have hq0 := (idx_lt he127).1; omega)), ?_⟩
      have S : St h M [hole (oSl (fz rEvent)) b118c_1 b118.l (y126 : Int).toNat [c129], own (oSl (fz rEvent)) [v135] e136, own (oSl (fz rLane)) [b118c_0] b118.lanes, rowC o119 [b118c_0, b118c_1, (.int .i64 b118.sent)] v120, rowC h.n [(.int .i64 m1.From), (.int .i64 m1.To), (.int .i64 m1.E.Time), (.int .i64 m1.E.Place), (.int .i64 m1.E.N)] 0] h134 := S.sel [1, 0, 2, 3, 4] rfl
      obtain ⟨h140, e141, S⟩ := S.hset (k := 0) (n := 1) (y := v135) (c' := [v135]) (by rw [sl_cells ((S.sl (r := (fz rEvent)) (.tail _ (.head _)))).is]; rfl) (sl_tup ((S.sl (r := (fz rEvent)) (.tail _ (.head _)))).is) (Nat.le_of_ble_eq_true rfl) (by rw [sl_cells ((S.sl (r := (fz rEvent)) (.tail _ (.head _)))).is]; rfl)
      rw [padd_zero] at e141
      have S : St h M [hole (oSl (fz rEvent)) b118c_1 b118.l (y126 : Int).toNat [v135], own (oSl (fz rEvent)) [v135] e136, own (oSl (fz rLane)) [b118c_0] b118.lanes, rowC o119 [b118c_0, b118c_1, (.int .i64 b118.sent)] v120, rowC h.n [(.int .i64 m1.From), (.int .i64 m1.To), (.int .i64 m1.E.Time), (.int .i64 m1.E.Place), (.int .i64 m1.E.N)] 0] h140 := S
      refine ⟨h140, e141, ?_⟩
      refine ⟨⟨b118c_1, S_3.rd1 (.tail _ (.tail _ (.head _))) rfl, S_15.rd1 (.tail _ (.tail _ (.tail _ (.tail _ (.head _))))) rfl, S_16.rd1 (.tail _ (.tail _ (.tail _ (.head _)))) rfl⟩, ?_⟩
      have S : St h M [own (oSl (fz rEvent)) [v135] e136, hole (oSl (fz rEvent)) b118c_1 b118.l (y126 : Int).toNat [v135], own (oSl (fz rLane)) [b118c_0] b118.lanes, rowC o119 [b118c_0, b118c_1, (.int .i64 b118.sent)] v120, rowC h.n [(.int .i64 m1.From), (.int .i64 m1.To), (.int .i64 m1.E.Time), (.int .i64 m1.E.Place), (.int .i64 m1.E.N)] 0] h140 := S.sel [1, 0, 2, 3, 4] rfl
      have S : St h M [own (oSl (oSl (fz rEvent))) [b118c_1] (b118.l.set (y126 : Int).toNat e136), own (oSl (fz rLane)) [b118c_0] b118.lanes, rowC o119 [b118c_0, b118c_1, (.int .i64 b118.sent)] v120, rowC h.n [(.int .i64 m1.From), (.int .i64 m1.To), (.int .i64 m1.E.Time), (.int .i64 m1.E.Place), (.int .i64 m1.E.N)] 0] h140 := S.back
      refine oP_intro (.ptr o119 v120 0) rfl ?_
      refine ifP_iff.2 ⟨rfl, ?_⟩
      refine ⟨b118.sent, S.rd1 (.tail _ (.tail _ (.head _))) rfl, ?_⟩
      refine oP_intro (.ptr o119 v120 0) rfl ?_
      refine ifP_iff.2 ⟨rfl, ?_⟩
      have S : St h M [rowC o119 [b118c_0, b118c_1, (.int .i64 b118.sent)] v120, own (oSl (oSl (fz rEvent))) [b118c_1] (b118.l.set (y126 : Int).toNat e136), own (oSl (fz rLane)) [b118c_0] b118.lanes, rowC h.n [(.int .i64 m1.From), (.int .i64 m1.To), (.int .i64 m1.E.Time), (.int .i64 m1.E.Place), (.int .i64 m1.E.N)] 0] h140 := S.sel [2, 0, 1, 3] rfl
      obtain ⟨h142, e143, S⟩ := S.store (off := 2) (n := 1) (x := (.int .i64 (IntKind.wrap .i64 (b118.sent + (1 : Int))))) (cs' := [b118c_0, b118c_1, (.int .i64 (IntKind.wrap .i64 (b118.sent + (1 : Int))))]) (Nat.le_of_ble_eq_true rfl) rfl rfl rfl
      have S : St h M [rowC o119 [b118c_0, b118c_1, (.int .i64 (IntKind.wrap .i64 (b118.sent + (1 : Int))))] v120, own (oSl (oSl (fz rEvent))) [b118c_1] (b118.l.set (y126 : Int).toNat e136), own (oSl (fz rLane)) [b118c_0] b118.lanes, rowC h.n [(.int .i64 m1.From), (.int .i64 m1.To), (.int .i64 m1.E.Time), (.int .i64 m1.E.Place), (.int .i64 m1.E.N)] 0] h142 := S
      refine ⟨h142, e143, ?_⟩
      have S : St h M [own (oSl (fz rLane)) [b118c_0] b118.lanes, own (oSl (oSl (fz rEvent))) [b118c_1] (b118.l.set (y126 : Int).toNat e136), rowC o119 [b118c_0, b118c_1, (.int .i64 (IntKind.wrap .i64 (b118.sent + (1 : Int))))] v120, rowC h.n [(.int .i64 m1.From), (.int .i64 m1.To), (.int .i64 m1.E.Time), (.int .i64 m1.E.Place), (.int .i64 m1.E.N)] 0] h142 := S.sel [2, 1, 0, 3] rfl
      have S : St h M [own oBox [b118c_0, b118c_1, (.int .i64 (IntKind.wrap .i64 (b118.sent + (1 : Int))))] (TBox.mk b118.lanes (b118.l.set (y126 : Int).toNat e136) (IntKind.wrap .i64 (b118.sent + (1 : Int)))), rowC o119 [b118c_0, b118c_1, (.int .i64 (IntKind.wrap .i64 (b118.sent + (1 : Int))))] v120, rowC h.n [(.int .i64 m1.From), (.int .i64 m1.To), (.int .i64 m1.E.Time), (.int .i64 m1.E.Place), (.int .i64 m1.E.N)] 0] h142 := oBox_close (x := (TBox.mk b118.lanes (b118.l.set (y126 : Int).toNat e136) (IntKind.wrap .i64 (b118.sent + (1 : Int))))) S
      have S : St h M [rowC o119 [b118c_0, b118c_1, (.int .i64 (IntKind.wrap .i64 (b118.sent + (1 : Int))))] v120, own oBox [b118c_0, b118c_1, (.int .i64 (IntKind.wrap .i64 (b118.sent + (1 : Int))))] (TBox.mk b118.lanes (b118.l.set (y126 : Int).toNat e136) (IntKind.wrap .i64 (b118.sent + (1 : Int)))), rowC h.n [(.int .i64 m1.From), (.int .i64 m1.To), (.int .i64 m1.E.Time), (.int .i64 m1.E.Place), (.int .i64 m1.E.N)] 0] h142 := S.sel [1, 0, 2] rfl
      have S : St h M [own (oPtr oBox) [(.ptr o119 v120 0)] (some (TBox.mk b118.lanes (b118.l.set (y126 : Int).toNat e136) (IntKind.wrap .i64 (b118.sent + (1 : Int))))), rowC h.n [(.int .i64 m1.From), (.int .i64 m1.To), (.int .i64 m1.E.Time), (.int .i64 m1.E.Place), (.int .i64 m1.E.N)] 0] h142 := S.ptrClose
      obtain rfl := Option.some.inj hf
      exact ⟨rfl, S.sel [0] rfl⟩
  refine bP_intro (fun hc => ?_) (fun hc => ?_)
  · rw [if_pos (show b0.isNone = true from hc)] at hf
    have S : St h M [own (oPtr oBox) [a0_0] b0, rowC h.n [(.int .i64 m1.From), (.int .i64 m1.To), (.int .i64 m1.E.Time), (.int .i64 m1.E.Place), (.int .i64 m1.E.N)] 0] h102 := S.sel [1, 0] rfl
    exact hjj0 _ _ b0 hf  S
  · rw [if_neg (show ¬ (b0.isNone = true) from by rw [show b0.isNone = false from hc]; exact Bool.false_ne_true)] at hf
    obtain ⟨b146, hb146, hf⟩ := obind hf
    have S : St h M [own (oPtr oBox) [a0_0] b0, rowC h.n [(.int .i64 m1.From), (.int .i64 m1.To), (.int .i64 m1.E.Time), (.int .i64 m1.E.Place), (.int .i64 m1.E.N)] 0] h102 := S.sel [1, 0] rfl
    have S : St h M [own (oPtr oBox) [a0_0] (some b146), rowC h.n [(.int .i64 m1.From), (.int .i64 m1.To), (.int .i64 m1.E.Time), (.int .i64 m1.E.Place), (.int .i64 m1.E.N)] 0] h102 := S.cast (by rw [hb146])
    obtain ⟨o147, v148, rwb146, eP, S2⟩ := St.ptrOpen S
    subst eP
    have S := S2
    have S := S.swap
    obtain ⟨b146c_0, b146c_1, eS, S2⟩ := oBox_open S
    subst eS
    have S := S2
    have S : St h M [own (oSl (fz rLane)) [b146c_0] b146.lanes, own (oSl (oSl (fz rEvent))) [b146c_1] b146.l, rowC o147 [b146c_0, b146c_1, (.int .i64 b146.sent)] v148, rowC h.n [(.int .i64 m1.From), (.int .i64 m1.To), (.int .i64 m1.E.Time), (.int .i64 m1.E.Place), (.int .i64 m1.E.N)] 0] h102 := S
    refine oP_intro _ rfl ?_
    refine ifP_iff.2 ⟨rfl, ?_⟩
    refine ⟨b146c_0, S.rd1 (.tail _ (.tail _ (.head _))) rfl, ?_⟩
    refine ⟨m1.From, S.rd1 (.tail _ (.tail _ (.tail _ (.head _)))) rfl, ?_⟩
    refine ⟨m1.To, S.rd1 (.tail _ (.tail _ (.tail _ (.head _)))) rfl, ?_⟩
    obtain ⟨y154, hy154, hf⟩ := obind hf
    refine ⟨_, Fz.refl _, ?_⟩
    refine (r37 (l0 := b146.lanes) (from1 := m1.From) (to2 := m1.To) (f0_0 := (S.sl (r := (fz rLane)) (.head _))) hy154).mono fun v152 h153 T => ?_
    obtain ⟨rfl, T⟩ := T
    have S : St h M [own (oSl (fz rLane)) [b146c_0] b146.lanes, own (oSl (oSl (fz rEvent))) [b146c_1] b146.l, rowC o147 [b146c_0, b146c_1, (.int .i64 b146.sent)] v148, rowC h.n [(.int .i64 m1.From), (.int .i64 m1.To), (.int .i64 m1.E.Time), (.int .i64 m1.E.Place), (.int .i64 m1.E.N)] 0] h153 := S.comp T
    refine ⟨y154, rfl, ?_⟩
    have S : St h M [own oBox [b146c_0, b146c_1, (.int .i64 b146.sent)] b146, rowC o147 [b146c_0, b146c_1, (.int .i64 b146.sent)] v148, rowC h.n [(.int .i64 m1.From), (.int .i64 m1.To), (.int .i64 m1.E.Time), (.int .i64 m1.E.Place), (.int .i64 m1.E.N)] 0] h153 := oBox_close (x := b146) S
    have S : St h M [rowC o147 [b146c_0, b146c_1, (.int .i64 b146.sent)] v148, own oBox [b146c_0, b146c_1, (.int .i64 b146.sent)] b146, rowC h.n [(.int .i64 m1.From), (.int .i64 m1.To), (.int .i64 m1.E.Time), (.int .i64 m1.E.Place), (.int .i64 m1.E.N)] 0] h153 := S.sel [1, 0, 2] rfl
    have S : St h M [own (oPtr oBox) [(.ptr o147 v148 0)] (some b146), rowC h.n [(.int .i64 m1.From), (.int .i64 m1.To), (.int .i64 m1.E.Time), (.int .i64 m1.E.Place), (.int .i64 m1.E.N)] 0] h153 := S.ptrClose
    exact hjj0 _ _ (some b146) hf  S
/-! 28: (*marblerun/mail.Box).Take -/
noncomputable def p28 (b0 : Option TBox) (from1 : Int) (to2 : Int) : Option (TMail × Bool × (Option TBox)) := (p29 b0 from1 to2).bind fun y106 => if y106 = (0 : Int) then (some ((TMail.mk (0 : Int) (0 : Int) (TEvent.mk (0 : Int) (0 : Int) (0 : Int))), false, b0)) else (b0.bind fun b109 => (p37 b109.lanes from1 to2).bind fun y117 => (idx b109.l y117).bind fun e118 => (idx e118 (0 : Int)).bind fun e120 => (idx b109.l y117).bind fun e126 => (slc e126 (1 : Int) (e126.length : Int)).bind fun y131 => some ((TMail.mk from1 to2 e120), true, (some (TBox.mk b109.lanes (b109.l.set (y117 : Int).toNat y131) b109.sent))))
theorem r28 {h : Heap} {a0_0 : AV} {M : Nat → Prop} {b0 : Option TBox} {from1 : Int} {to2 : Int} (S : St h M [own (oPtr oBox) [a0_0] b0] h) {r : TMail × Bool × (Option TBox)} (hf : p28 b0 from1 to2 = some r) : ZCalls F 28 [a0_0, (.int .i64 from1), (.int .i64 to2)] h fun v h' => v = .tuple [.agg [.int .i64 r.1.From, .int .i64 r.1.To, .int .i64 r.1.E.Time, .int .i64 r.1.E.Place, .int .i64 r.1.E.N], .bool r.2.1] ∧ St h M [own (oPtr oBox) [a0_0] r.2.2] h' := by
  refine w28 ?_
  unfold W28
  unfold p28 at hf
  intro h102
  have S : St h M [rowC h.n [(.int .i64 (0 : Int)), (.int .i64 (0 : Int)), (.int .i64 (0 : Int)), (.int .i64 (0 : Int)), (.int .i64 (0 : Int))] 0, own (oPtr oBox) [a0_0] b0] h102 := S.pushRow [(.int .i64 (0 : Int)), (.int .i64 (0 : Int)), (.int .i64 (0 : Int)), (.int .i64 (0 : Int)), (.int .i64 (0 : Int))]
  obtain ⟨y106, hy106, hf⟩ := obind hf
  refine ⟨_, Fz.refl _, ?_⟩
  refine (r29 (b0 := b0) (from1 := from1) (to2 := to2) (f0_0 := S.pt (r := oBox) (.tail _ (.head _))) hy106).mono fun v104 h105 T => ?_
  obtain ⟨rfl, T⟩ := T
  have S : St h M [rowC h.n [(.int .i64 (0 : Int)), (.int .i64 (0 : Int)), (.int .i64 (0 : Int)), (.int .i64 (0 : Int)), (.int .i64 (0 : Int))] 0, own (oPtr oBox) [a0_0] b0] h105 := S.comp T
  refine ⟨y106, rfl, ?_⟩
  refine bP_intro (fun hc => ?_) (fun hc => ?_)
  · rw [if_pos (show y106 = (0 : Int) from of_decide_eq_true hc)] at hf
    obtain ⟨h107, e108, S⟩ := S.store (off := 0) (n := 5) (x := (.agg [(.int .i64 (0 : Int)), (.int .i64 (0 : Int)), (.int .i64 (0 : Int)), (.int .i64 (0 : Int)), (.int .i64 (0 : Int))])) (cs' := [(.int .i64 (0 : Int)), (.int .i64 (0 : Int)), (.int .i64 (0 : Int)), (.int .i64 (0 : Int)), (.int .i64 (0 : Int))]) (Nat.le_of_ble_eq_true rfl) rfl rfl rfl
    have S : St h M [rowC h.n [(.int .i64 (0 : Int)), (.int .i64 (0 : Int)), (.int .i64 (0 : Int)), (.int .i64 (0 : Int)), (.int .i64 (0 : Int))] 0, own (oPtr oBox) [a0_0] b0] h107 := S
    refine ⟨h107, e108, ?_⟩
    refine ⟨(.int .i64 (0 : Int)), (.int .i64 (0 : Int)), (.int .i64 (0 : Int)), (.int .i64 (0 : Int)), (.int .i64 (0 : Int)), S.rdN (.head _) (Nat.le_of_ble_eq_true rfl) rfl, ?_⟩
    obtain rfl := Option.some.inj hf
    exact ⟨rfl, S.sel [1] rfl⟩
  · rw [if_neg (show ¬ (y106 = (0 : Int)) from of_decide_eq_false hc)] at hf
    obtain ⟨b109, hb109, hf⟩ := obind hf
    have S : St h M [own (oPtr oBox) [a0_0] b0, rowC h.n [(.int .i64 (0 : Int)), (.int .i64 (0 : Int)), (.int .i64 (0 : Int)), (.int .i64 (0 : Int)), (.int .i64 (0 : Int))] 0] h105 := S.sel [1, 0] rfl
    have S : St h M [own (oPtr oBox) [a0_0] (some b109), rowC h.n [(.int .i64 (0 : Int)), (.int .i64 (0 : Int)), (.int .i64 (0 : Int)), (.int .i64 (0 : Int)), (.int .i64 (0 : Int))] 0] h105 := S.cast (by rw [hb109])
    obtain ⟨o110, v111, rwb109, eP, S2⟩ := St.ptrOpen S
    subst eP
    have S := S2
    have S := S.swap
    obtain ⟨b109c_0, b109c_1, eS, S2⟩ := oBox_open S
    subst eS
    have S := S2
    have S : St h M [own (oSl (fz rLane)) [b109c_0] b109.lanes, own (oSl (oSl (fz rEvent))) [b109c_1] b109.l, rowC o110 [b109c_0, b109c_1, (.int .i64 b109.sent)] v111, rowC h.n [(.int .i64 (0 : Int)), (.int .i64 (0 : Int)), (.int .i64 (0 : Int)), (.int .i64 (0 : Int)), (.int .i64 (0 : Int))] 0] h105 := S
    refine oP_intro _ rfl ?_
    refine ifP_iff.2 ⟨rfl, ?_⟩
    refine ⟨b109c_0, S.rd1 (.tail _ (.tail _ (.head _))) rfl, ?_⟩
    obtain ⟨y117, hy117, hf⟩ := obind hf
    refine ⟨_, Fz.refl _, ?_⟩
    refine (r37 (l0 := b109.lanes) (from1 := from1) (to2 := to2) (f0_0 := (S.sl (r := (fz rLane)) (.head _))) hy117).mono fun v115 h116 T => ?_
    obtain ⟨rfl, T⟩ := T
    have S : St h M [own (oSl (fz rLane)) [b109c_0] b109.lanes, own (oSl (oSl (fz rEvent))) [b109c_1] b109.l, rowC o110 [b109c_0, b109c_1, (.int .i64 b109.sent)] v111, rowC h.n [(.int .i64 (0 : Int)), (.int .i64 (0 : Int)), (.int .i64 (0 : Int)), (.int .i64 (0 : Int)), (.int .i64 (0 : Int))] 0] h116 := S.comp T
    refine ⟨y117, rfl, ?_⟩
    refine oP_intro (.ptr o110 v111 0) rfl ?_
    refine ifP_iff.2 ⟨rfl, ?_⟩
    refine ⟨b109c_1, S.rd1 (.tail _ (.tail _ (.head _))) rfl, ?_⟩
    obtain ⟨e118, he118, hf⟩ := obind hf
    obtain ⟨qe118, q0e118, q1e118⟩ := SlR.ix (S.sl (r := (oSl (fz rEvent))) (.tail _ (.head _))) he118
    have pe118 := (SlR.idx (S.sl (r := (oSl (fz rEvent))) (.tail _ (.head _))) (Hp.le_refl _) he118).1
    refine ifP_iff.2 ⟨qe118, q0e118, (by first | exact q1e118 | exact (idx_lt he118).2), ?_⟩
    obtain ⟨_, cr119, Rr119, Nr119, Or119, Zr119⟩ := SlR.idx (S.sl (r := (oSl (fz rEvent))) (.tail _ (.head _))) (Hp.le_refl _) he118
    obtain ⟨cr119, rfl, Fr119⟩ := Rr119
    refine ⟨cr119, Zr119 _ rfl, ?_⟩
    obtain ⟨e120, he120, hf⟩ := obind hf
    obtain ⟨qe120, q0e120, q1e120⟩ := SlR.ix Fr119 he120
    have pe120 := (SlR.idx Fr119 (Hp.le_refl _) he120).1
    refine ifP_iff.2 ⟨qe120, q0e120, (by first | exact q1e120 | exact (idx_lt he120).2), ?_⟩
    obtain ⟨_, cr121, Rr121, Nr121, Or121, Zr121⟩ := SlR.idx Fr119 (Hp.le_refl _) he120
    obtain rfl := rEvent_open Rr121
    refine ⟨(.int .i64 e120.Time), (.int .i64 e120.Place), (.int .i64 e120.N), Nr121, ?_⟩
    intro h122
    have S : St h M [rowC h116.n [(.int .i64 (0 : Int)), (.int .i64 (0 : Int)), (.int .i64 (0 : Int)), (.int .i64 (0 : Int)), (.int .i64 (0 : Int))] 0, own (oSl (fz rLane)) [b109c_0] b109.lanes, own (oSl (oSl (fz rEvent))) [b109c_1] b109.l, rowC o110 [b109c_0, b109c_1, (.int .i64 b109.sent)] v111, rowC h.n [(.int .i64 (0 : Int)), (.int .i64 (0 : Int)), (.int .i64 (0 : Int)), (.int .i64 (0 : Int)), (.int .i64 (0 : Int))] 0] h122 := S.pushRow [(.int .i64 (0 : Int)), (.int .i64 (0 : Int)), (.int .i64 (0 : Int)), (.int .i64 (0 : Int)), (.int .i64 (0 : Int))]
    obtain ⟨h124, e125, S⟩ := S.store (off := 0) (n := 5) (x := (.agg [(.int .i64 from1), (.int .i64 to2), (.int .i64 e120.Time), (.int .i64 e120.Place), (.int .i64 e120.N)])) (cs' := [(.int .i64 from1), (.int .i64 to2), (.int .i64 e120.Time), (.int .i64 e120.Place), (.int .i64 e120.N)]) (Nat.le_of_ble_eq_true rfl) rfl rfl rfl
    have S : St h M [rowC h116.n [(.int .i64 from1), (.int .i64 to2), (.int .i64 e120.Time), (.int .i64 e120.Place), (.int .i64 e120.N)] 0, own (oSl (fz rLane)) [b109c_0] b109.lanes, own (oSl (oSl (fz rEvent))) [b109c_1] b109.l, rowC o110 [b109c_0, b109c_1, (.int .i64 b109.sent)] v111, rowC h.n [(.int .i64 (0 : Int)), (.int .i64 (0 : Int)), (.int .i64 (0 : Int)), (.int .i64 (0 : Int)), (.int .i64 (0 : Int))] 0] h124 := S
    refine ⟨h124, e125, ?_⟩
    refine oP_intro (.ptr o110 v111 0) rfl ?_
    refine ifP_iff.2 ⟨rfl, ?_⟩
    refine ⟨b109c_1, S.rd1 (.tail _ (.tail _ (.tail _ (.head _)))) rfl, ?_⟩
    refine oP_intro (.ptr o110 v111 0) rfl ?_
    refine ifP_iff.2 ⟨rfl, ?_⟩
    refine ⟨b109c_1, S.rd1 (.tail _ (.tail _ (.tail _ (.head _)))) rfl, ?_⟩
    obtain ⟨e126, he126, hf⟩ := obind hf
    obtain ⟨qe126, q0e126, q1e126⟩ := SlR.ix (S.sl (r := (oSl (fz rEvent))) (.tail _ (.tail _ (.head _)))) he126
    have pe126 := (SlR.idx (S.sl (r := (oSl (fz rEvent))) (.tail _ (.tail _ (.head _)))) (Hp.le_refl _) he126).1
    refine ifP_iff.2 ⟨qe126, q0e126, (by first | exact q1e126 | exact (idx_lt he126).2), ?_⟩
    have S : St h M [own (oSl (oSl (fz rEvent))) [b109c_1] b109.l, rowC h116.n [(.int .i64 from1), (.int .i64 to2), (.int .i64 e120.Time), (.int .i64 e120.Place), (.int .i64 e120.N)] 0, own (oSl (fz rLane)) [b109c_0] b109.lanes, rowC o110 [b109c_0, b109c_1, (.int .i64 b109.sent)] v111, rowC h.n [(.int .i64 (0 : Int)), (.int .i64 (0 : Int)), (.int .i64 (0 : Int)), (.int .i64 (0 : Int)), (.int .i64 (0 : Int))] 0] h124 := S.sel [2, 0, 1, 3, 4] rfl
    obtain ⟨cc128, lc128, S⟩ := St.out S he126
    obtain ⟨c128, rfl⟩ : ∃ a, cc128 = [a] := len1' lc128
    have S : St h M [own (oSl (fz rEvent)) [c128] e126, hole (oSl (fz rEvent)) b109c_1 b109.l (y117 : Int).toNat [c128], rowC h116.n [(.int .i64 from1), (.int .i64 to2), (.int .i64 e120.Time), (.int .i64 e120.Place), (.int .i64 e120.N)] 0, own (oSl (fz rLane)) [b109c_0] b109.lanes, rowC o110 [b109c_0, b109c_1, (.int .i64 b109.sent)] v111, rowC h.n [(.int .i64 (0 : Int)), (.int .i64 (0 : Int)), (.int .i64 (0 : Int)), (.int .i64 (0 : Int)), (.int .i64 (0 : Int))] 0] h124 := S
    refine ⟨c128, (S.hrd (.tail _ (.head _))).2.2.2.2.2 _ rfl, ?_⟩
    obtain ⟨y131, hy131, hf⟩ := obind hf
    have ey131 := (sliceSl_ev10 (k := .i64) (S.sl (r := (fz rEvent)) (.head _)) hy131)
    have S : St h M [own (oSl (fz rEvent)) [(c128.sub 3 ((1 : Int) : Int).toNat ((e126.length : Int) : Int).toNat)] y131, hole (oSl (fz rEvent)) b109c_1 b109.l (y117 : Int).toNat [c128], rowC h116.n [(.int .i64 from1), (.int .i64 to2), (.int .i64 e120.Time), (.int .i64 e120.Place), (.int .i64 e120.N)] 0, own (oSl (fz rLane)) [b109c_0] b109.lanes, rowC o110 [b109c_0, b109c_1, (.int .i64 b109.sent)] v111, rowC h.n [(.int .i64 (0 : Int)), (.int .i64 (0 : Int)), (.int .i64 (0 : Int)), (.int .i64 (0 : Int)), (.int .i64 (0 : Int))] 0] h124 := (S.sub (slc_le hy131).1 (slc_le hy131).2).cast (by rw [← slc_eq hy131] <;> rfl)
    refine oP_intro _ ey131 ?_
    have p132 := (S.hrd (.tail _ (.head _))).2.2.1
    refine ifP_iff.2 ⟨(S.hrd (.tail _ (.head _))).1, (idx_lt he126).1, (by first | exact (idx_lt he126).2 | (have hq := (S.hrd (.tail _ (.head _))).2.1; have hq0 := (idx_lt he126).1; omega)), ?_⟩
    have S : St h M [hole (oSl (fz rEvent)) b109c_1 b109.l (y117 : Int).toNat [c128], own (oSl (fz rEvent)) [(c128.sub 3 ((1 : Int) : Int).toNat ((e126.length : Int) : Int).toNat)] y131, rowC h116.n [(.int .i64 from1), (.int .i64 to2), (.int .i64 e120.Time), (.int .i64 e120.Place), (.int .i64 e120.N)] 0, own (oSl (fz rLane)) [b109c_0] b109.lanes, rowC o110 [b109c_0, b109c_1, (.int .i64 b109.sent)] v111, rowC h.n [(.int .i64 (0 : Int)), (.int .i64 (0 : Int)), (.int .i64 (0 : Int)), (.int .i64 (0 : Int)), (.int .i64 (0 : Int))] 0] h124 := S.sel [1, 0, 2, 3, 4, 5] rfl
    obtain ⟨h133, e134, S⟩ := S.hset (k := 0) (n := 1) (y := (c128.sub 3 ((1 : Int) : Int).toNat ((e126.length : Int) : Int).toNat)) (c' := [(c128.sub 3 ((1 : Int) : Int).toNat ((e126.length : Int) : Int).toNat)]) (by rw [sl_cells ((S.sl (r := (fz rEvent)) (.tail _ (.head _)))).is]; rfl) (sl_tup ((S.sl (r := (fz rEvent)) (.tail _ (.head _)))).is) (Nat.le_of_ble_eq_true rfl) (by rw [sl_cells ((S.sl (r := (fz rEvent)) (.tail _ (.head _)))).is]; rfl)
    rw [padd_zero] at e134
    have S : St h M [hole (oSl (fz rEvent)) b109c_1 b109.l (y117 : Int).toNat [(c128.sub 3 ((1 : Int) : Int).toNat ((e126.length : Int) : Int).toNat)], own (oSl (fz rEvent)) [(c128.sub 3 ((1 : Int) : Int).toNat ((e126.length : Int) : Int).toNat)] y131, rowC h116.n [(.int .i64 from1), (.int .i64 to2), (.int .i64 e120.Time), (.int .i64 e120.Place), (.int .i64 e120.N)] 0, own (oSl (fz rLane)) [b109c_0] b109.lanes, rowC o110 [b109c_0, b109c_1, (.int .i64 b109.sent)] v111, rowC h.n [(.int .i64 (0 : Int)), (.int .i64 (0 : Int)), (.int .i64 (0 : Int)), (.int .i64 (0 : Int)), (.int .i64 (0 : Int))] 0] h133 := S
    refine ⟨h133, e134, ?_⟩
    have S : St h M [own (oSl (fz rEvent)) [(c128.sub 3 ((1 : Int) : Int).toNat ((e126.length : Int) : Int).toNat)] y131, hole (oSl (fz rEvent)) b109c_1 b109.l (y117 : Int).toNat [(c128.sub 3 ((1 : Int) : Int).toNat ((e126.length : Int) : Int).toNat)], rowC h116.n [(.int .i64 from1), (.int .i64 to2), (.int .i64 e120.Time), (.int .i64 e120.Place), (.int .i64 e120.N)] 0, own (oSl (fz rLane)) [b109c_0] b109.lanes, rowC o110 [b109c_0, b109c_1, (.int .i64 b109.sent)] v111, rowC h.n [(.int .i64 (0 : Int)), (.int .i64 (0 : Int)), (.int .i64 (0 : Int)), (.int .i64 (0 : Int)), (.int .i64 (0 : Int))] 0] h133 := S.sel [1, 0, 2, 3, 4, 5] rfl
    have S : St h M [own (oSl (oSl (fz rEvent))) [b109c_1] (b109.l.set (y117 : Int).toNat y131), rowC h116.n [(.int .i64 from1), (.int .i64 to2), (.int .i64 e120.Time), (.int .i64 e120.Place), (.int .i64 e120.N)] 0, own (oSl (fz rLane)) [b109c_0] b109.lanes, rowC o110 [b109c_0, b109c_1, (.int .i64 b109.sent)] v111, rowC h.n [(.int .i64 (0 : Int)), (.int .i64 (0 : Int)), (.int .i64 (0 : Int)), (.int .i64 (0 : Int)), (.int .i64 (0 : Int))] 0] h133 := S.back
    refine ⟨(.int .i64 from1), (.int .i64 to2), (.int .i64 e120.Time), (.int .i64 e120.Place), (.int .i64 e120.N), S.rdN (.tail _ (.head _)) (Nat.le_of_ble_eq_true rfl) rfl, ?_⟩
    have S : St h M [rowC h.n [(.int .i64 (0 : Int)), (.int .i64 (0 : Int)), (.int .i64 (0 : Int)), (.int .i64 (0 : Int)), (.int .i64 (0 : Int))] 0, own (oSl (oSl (fz rEvent))) [b109c_1] (b109.l.set (y117 : Int).toNat y131), rowC h116.n [(.int .i64 from1), (.int .i64 to2), (.int .i64 e120.Time), (.int .i64 e120.Place), (.int .i64 e120.N)] 0, own (oSl (fz rLane)) [b109c_0] b109.lanes, rowC o110 [b109c_0, b109c_1, (.int .i64 b109.sent)] v111] h133 := S.sel [4, 0, 1, 2, 3] rfl
    obtain ⟨h135, e136, S⟩ := S.store (off := 0) (n := 5) (x := (.agg [(.int .i64 from1), (.int .i64 to2), (.int .i64 e120.Time), (.int .i64 e120.Place), (.int .i64 e120.N)])) (cs' := [(.int .i64 from1), (.int .i64 to2), (.int .i64 e120.Time), (.int .i64 e120.Place), (.int .i64 e120.N)]) (Nat.le_of_ble_eq_true rfl) rfl rfl rfl
    have S : St h M [rowC h.n [(.int .i64 from1), (.int .i64 to2), (.int .i64 e120.Time), (.int .i64 e120.Place), (.int .i64 e120.N)] 0, own (oSl (oSl (fz rEvent))) [b109c_1] (b109.l.set (y117 : Int).toNat y131), rowC h116.n [(.int .i64 from1), (.int .i64 to2), (.int .i64 e120.Time), (.int .i64 e120.Place), (.int .i64 e120.N)] 0, own (oSl (fz rLane)) [b109c_0] b109.lanes, rowC o110 [b109c_0, b109c_1, (.int .i64 b109.sent)] v111] h135 := S
    refine ⟨h135, e136, ?_⟩
    refine ⟨(.int .i64 from1), (.int .i64 to2), (.int .i64 e120.Time), (.int .i64 e120.Place), (.int .i64 e120.N), S.rdN (.head _) (Nat.le_of_ble_eq_true rfl) rfl, ?_⟩
    have S : St h M [own (oSl (fz rLane)) [b109c_0] b109.lanes, own (oSl (oSl (fz rEvent))) [b109c_1] (b109.l.set (y117 : Int).toNat y131), rowC h.n [(.int .i64 from1), (.int .i64 to2), (.int .i64 e120.Time), (.int .i64 e120.Place), (.int .i64 e120.N)] 0, rowC h116.n [(.int .i64 from1), (.int .i64 to2), (.int .i64 e120.Time), (.int .i64 e120.Place), (.int .i64 e120.N)] 0, rowC o110 [b109c_0, b109c_1, (.int .i64 b109.sent)] v111] h135 := S.sel [3, 1, 0, 2, 4] rfl
    have S : St h M [own oBox [b109c_0, b109c_1, (.int .i64 b109.sent)] (TBox.mk b109.lanes (b109.l.set (y117 : Int).toNat y131) b109.sent), rowC h.n [(.int .i64 from1), (.int .i64 to2), (.int .i64 e120.Time), (.int .i64 e120.Place), (.int .i64 e120.N)] 0, rowC h116.n [(.int .i64 from1), (.int .i64 to2), (.int .i64 e120.Time), (.int .i64 e120.Place), (.int .i64 e120.N)] 0, rowC o110 [b109c_0, b109c_1, (.int .i64 b109.sent)] v111] h135 := oBox_close (x := (TBox.mk b109.lanes (b109.l.set (y117 : Int).toNat y131) b109.sent)) S
    have S : St h M [rowC o110 [b109c_0, b109c_1, (.int .i64 b109.sent)] v111, own oBox [b109c_0, b109c_1, (.int .i64 b109.sent)] (TBox.mk b109.lanes (b109.l.set (y117 : Int).toNat y131) b109.sent), rowC h.n [(.int .i64 from1), (.int .i64 to2), (.int .i64 e120.Time), (.int .i64 e120.Place), (.int .i64 e120.N)] 0, rowC h116.n [(.int .i64 from1), (.int .i64 to2), (.int .i64 e120.Time), (.int .i64 e120.Place), (.int .i64 e120.N)] 0] h135 := S.sel [3, 0, 1, 2] rfl
    have S : St h M [own (oPtr oBox) [(.ptr o110 v111 0)] (some (TBox.mk b109.lanes (b109.l.set (y117 : Int).toNat y131) b109.sent)), rowC h.n [(.int .i64 from1), (.int .i64 to2), (.int .i64 e120.Time), (.int .i64 e120.Place), (.int .i64 e120.N)] 0, rowC h116.n [(.int .i64 from1), (.int .i64 to2), (.int .i64 e120.Time), (.int .i64 e120.Place), (.int .i64 e120.N)] 0] h135 := S.ptrClose
    obtain rfl := Option.some.inj hf
    exact ⟨rfl, S.sel [0] rfl⟩
/-! 24: marblerun/marblerunlaw18.awake -/
noncomputable def p24_j0 (b127 : Bool) : Option Bool := some b127
noncomputable def p24_j1 (u115 : TMail × Bool × (Option TBox)) (b120 : Bool) : Option Bool := if b120 = true then ((p29 u115.2.2 (0 : Int) (1 : Int)).bind fun y133 => p24_j0 (decide (y133 = (1 : Int)))) else (p24_j0 false)
noncomputable def p24 : Option Bool := (p26 [(TLane.mk (0 : Int) (1 : Int) (0 : Int))]).bind fun y105 => (p27 y105 (TMail.mk (0 : Int) (1 : Int) (TEvent.mk (1 : Int) (0 : Int) (0 : Int)))).bind fun u109 => (p27 u109.2 (TMail.mk (0 : Int) (1 : Int) (TEvent.mk (2 : Int) (0 : Int) (0 : Int)))).bind fun u112 => (p28 u112.2 (0 : Int) (1 : Int)).bind fun u115 => if u115.2.1 = true then (p24_j1 u115 (decide (u115.1.E.Time = (1 : Int)))) else (p24_j1 u115 false)
theorem r24 {h : Heap}   {r : Bool} (hf : p24  = some r) : ZCalls F 24 [] h fun v h' => v = .bool r ∧ St h none' [] h' := by
  refine w24 ?_
  unfold W24
  unfold p24 at hf
  have S : St h none' [] h := St.refl _ _
  intro h101
  have S : St h none' [rowC h.n [(.int .i64 (0 : Int)), (.int .i64 (1 : Int)), (.int .i64 (0 : Int))] 0] h101 := S.pushRow [(.int .i64 (0 : Int)), (.int .i64 (1 : Int)), (.int .i64 (0 : Int))]
  obtain ⟨y105, hy105, hf⟩ := obind hf
  have S : St h none' [own (oSl (fz rLane)) [(.slice h.n 0 0 1 3)] [(TLane.mk (0 : Int) (1 : Int) (0 : Int))]] h101 := St.lit (r := rLane) (els := [[(.int .i64 (0 : Int)), (.int .i64 (1 : Int)), (.int .i64 (0 : Int))]]) (l := [(TLane.mk (0 : Int) (1 : Int) (0 : Int))]) (n := 1) S rfl (.cons (rLane_mk (x := (TLane.mk (0 : Int) (1 : Int) (0 : Int)))) (.nil)) rfl
  refine ⟨_, Fz.refl _, ?_⟩
  refine (r26 (lanes0 := [(TLane.mk (0 : Int) (1 : Int) (0 : Int))]) (f0_0 := (S.sl (r := (fz rLane)) (.head _))) hy105).mono fun v103 h104 T => ?_
  have S : St h none' [own (oPtr oBox) [v103] y105, own (oSl (fz rLane)) [(.slice h.n 0 0 1 3)] [(TLane.mk (0 : Int) (1 : Int) (0 : Int))]] h104 := S.comp T
  obtain ⟨u109, hu109, hf⟩ := obind hf
  refine ⟨_, Fz.refl _, ?_⟩
  obtain ⟨fpu109, S1u109, backu109⟩ := St.lend [_] S
  refine (r27 (b0 := y105) (m1 := (TMail.mk (0 : Int) (1 : Int) (TEvent.mk (1 : Int) (0 : Int) (0 : Int)))) (S := S1u109) hu109).mono fun v107 h108 T => ?_
  obtain ⟨rfl, T⟩ := T
  have S : St h none' [own (oPtr oBox) [v103] u109.2, own (oSl (fz rLane)) [(.slice h.n 0 0 1 3)] [(TLane.mk (0 : Int) (1 : Int) (0 : Int))]] h108 := backu109 _ _ T
  refine ⟨u109.1, rfl, ?_⟩
  obtain ⟨u112, hu112, hf⟩ := obind hf
  refine ⟨_, Fz.refl _, ?_⟩
  obtain ⟨fpu112, S1u112, backu112⟩ := St.lend [_] S
  refine (r27 (b0 := u109.2) (m1 := (TMail.mk (0 : Int) (1 : Int) (TEvent.mk (2 : Int) (0 : Int) (0 : Int)))) (S := S1u112) hu112).mono fun v110 h111 T => ?_
  obtain ⟨rfl, T⟩ := T
  have S : St h none' [own (oPtr oBox) [v103] u112.2, own (oSl (fz rLane)) [(.slice h.n 0 0 1 3)] [(TLane.mk (0 : Int) (1 : Int) (0 : Int))]] h111 := backu112 _ _ T
  refine ⟨u112.1, rfl, ?_⟩
  obtain ⟨u115, hu115, hf⟩ := obind hf
  refine ⟨_, Fz.refl _, ?_⟩
  obtain ⟨fpu115, S1u115, backu115⟩ := St.lend [_] S
  refine (r28 (b0 := u112.2) (from1 := (0 : Int)) (to2 := (1 : Int)) (S := S1u115) hu115).mono fun v113 h114 T => ?_
  obtain ⟨rfl, T⟩ := T
  have S : St h none' [own (oPtr oBox) [v103] u115.2.2, own (oSl (fz rLane)) [(.slice h.n 0 0 1 3)] [(TLane.mk (0 : Int) (1 : Int) (0 : Int))]] h114 := backu115 _ _ T
  refine oP_intro (.agg [(.int .i64 u115.1.From), (.int .i64 u115.1.To), (.int .i64 u115.1.E.Time), (.int .i64 u115.1.E.Place), (.int .i64 u115.1.E.N)]) rfl ?_
  refine oP_intro (.bool u115.2.1) rfl ⟨u115.2.1, rfl, ?_⟩
  intro h116
  have S : St h none' [rowC h114.n [(.int .i64 (0 : Int)), (.int .i64 (0 : Int)), (.int .i64 (0 : Int)), (.int .i64 (0 : Int)), (.int .i64 (0 : Int))] 0, own (oPtr oBox) [v103] u115.2.2, own (oSl (fz rLane)) [(.slice h.n 0 0 1 3)] [(TLane.mk (0 : Int) (1 : Int) (0 : Int))]] h116 := S.pushRow [(.int .i64 (0 : Int)), (.int .i64 (0 : Int)), (.int .i64 (0 : Int)), (.int .i64 (0 : Int)), (.int .i64 (0 : Int))]
  obtain ⟨h118, e119, S⟩ := S.store (off := 0) (n := 5) (x := (.agg [(.int .i64 u115.1.From), (.int .i64 u115.1.To), (.int .i64 u115.1.E.Time), (.int .i64 u115.1.E.Place), (.int .i64 u115.1.E.N)])) (cs' := [(.int .i64 u115.1.From), (.int .i64 u115.1.To), (.int .i64 u115.1.E.Time), (.int .i64 u115.1.E.Place), (.int .i64 u115.1.E.N)]) (Nat.le_of_ble_eq_true rfl) rfl rfl rfl
  have S : St h none' [rowC h114.n [(.int .i64 u115.1.From), (.int .i64 u115.1.To), (.int .i64 u115.1.E.Time), (.int .i64 u115.1.E.Place), (.int .i64 u115.1.E.N)] 0, own (oPtr oBox) [v103] u115.2.2, own (oSl (fz rLane)) [(.slice h.n 0 0 1 3)] [(TLane.mk (0 : Int) (1 : Int) (0 : Int))]] h118 := S
  refine ⟨h118, e119, ?_⟩
  intro jjj1
  have hjj1 : ∀ (b120 : Bool) (h121 : Heap), p24_j1 u115 b120 = some r → h118 = h121 → St h none' [own (oPtr oBox) [v103] u115.2.2] h118 → jjj1 b120 h121 := by
    rintro b120 h121 hf rfl S
    unfold p24_j1 at hf
    unfold jjj1
    intro jjj0
    have hjj0 : ∀ (b127 : Bool) (h128 : Heap), p24_j0 b127 = some r → St h none' [] h128 → jjj0 b127 h128 := by
      rintro b127 h128 hf S
      unfold p24_j0 at hf
      unfold jjj0
      obtain rfl := Option.some.inj hf
      exact ⟨rfl, S.sel [] rfl⟩
    refine bP_intro (fun hc => ?_) (fun hc => ?_)
    · rw [if_pos (show b120 = true from hc)] at hf
      obtain ⟨y133, hy133, hf⟩ := obind hf
      refine ⟨_, Fz.refl _, ?_⟩
      refine (r29 (b0 := u115.2.2) (from1 := (0 : Int)) (to2 := (1 : Int)) (f0_0 := S.pt (r := oBox) (.head _)) hy133).mono fun v131 h132 T => ?_
      obtain ⟨rfl, T⟩ := T
      have S : St h none' [own (oPtr oBox) [v103] u115.2.2] h132 := S.comp T
      refine ⟨y133, rfl, ?_⟩
      have S : St h none' [] h132 := S.sel [] rfl
      exact hjj0 _ _  hf  S
    · rw [if_neg (show ¬ (b120 = true) from by rw [show b120 = false from hc]; exact Bool.false_ne_true)] at hf
      have S : St h none' [] h118 := S.sel [] rfl
      exact hjj0 _ _  hf  S
  refine bP_intro (fun hc => ?_) (fun hc => ?_)
  · rw [if_pos (show u115.2.1 = true from hc)] at hf
    refine ⟨u115.1.E.Time, S.rd1 (.head _) rfl, ?_⟩
    have S : St h none' [own (oPtr oBox) [v103] u115.2.2] h118 := S.sel [1] rfl
    exact hjj1 _ _  hf rfl S
  · rw [if_neg (show ¬ (u115.2.1 = true) from by rw [show u115.2.1 = false from hc]; exact Bool.false_ne_true)] at hf
    have S : St h none' [own (oPtr oBox) [v103] u115.2.2] h118 := S.sel [1] rfl
    exact hjj1 _ _  hf rfl S
/-! 9: marblerun/marblerunlaw18.MailRows -/
noncomputable def p9_l0 (st : Int × (List TLane)) : Option ((Int × (List TLane)) ⊕ (List TLane)) := match st with | (y121, y124) => if y121 < (4 : Int) then ((app 24 y124 [(TLane.mk y121 (Int.tmod (IntKind.wrap .i64 (y121 + (1 : Int))) (4 : Int)) (0 : Int))]).bind fun y149 => some (.inl ((IntKind.wrap .i64 (y121 + (1 : Int))), y149))) else (some (.inr y124))
noncomputable def p9_l1 (x0 : List Int) (st : Bool × Int × (Option TBox) × (List Int)) : Option ((Bool × Int × (Option TBox) × (List Int)) ⊕ (Unit ⊕ (Bool × (Option TBox) × (List Int)))) := match st with | (y162, y165, l181, y182) => if y165 < (x0.length : Int) then ((idx x0 y165).bind fun e219 => (idx y182 (IntKind.wrap .i64 (Int.tmod e219 (4 : Int)))).bind fun e221 => (p27 l181 (TMail.mk (IntKind.wrap .i64 (Int.tmod e219 (4 : Int))) (Int.tmod (IntKind.wrap .i64 ((IntKind.wrap .i64 (Int.tmod e219 (4 : Int))) + (1 : Int))) (4 : Int)) (TEvent.mk (0 : Int) (0 : Int) e221))).bind fun u225 => if (!u225.1) = true then (some (.inr (.inl ()))) else ((idx y182 (IntKind.wrap .i64 (Int.tmod e219 (4 : Int)))).bind fun e226 => (idx y182 (IntKind.wrap .i64 (Int.tmod e219 (4 : Int)))).bind fun e228 => (some (y182.set ((IntKind.wrap .i64 (Int.tmod e219 (4 : Int))) : Int).toNat (IntKind.wrap .i64 (e226 + (1 : Int))))).bind fun y231 => some (.inl (y162, (IntKind.wrap .i64 (y165 + (1 : Int))), u225.2, y231)))) else (some (.inr (.inr (y162, l181, y182))))
noncomputable def p9_j0 (y241 : Int) (u431 : TMail × Bool × (Option TBox)) (y480 : List Int) : Option ((Int × (Option TBox) × (List Int)) ⊕ (Unit ⊕ ((Option TBox) × (List Int)))) := some (.inl ((IntKind.wrap .i64 (y241 + (1 : Int))), u431.2.2, y480))
noncomputable def p9_j1 (y241 : Int) (y323 : List Int) (e427 : Int) (u431 : TMail × Bool × (Option TBox)) (b456 : Bool) : Option ((Int × (Option TBox) × (List Int)) ⊕ (Unit ⊕ ((Option TBox) × (List Int)))) := if b456 = true then (some (.inr (.inl ()))) else (if u431.2.1 = true then ((idx y323 (IntKind.wrap .i64 (Int.tmod e427 (4 : Int)))).bind fun e482 => (idx y323 (IntKind.wrap .i64 (Int.tmod e427 (4 : Int)))).bind fun e484 => (some (y323.set ((IntKind.wrap .i64 (Int.tmod e427 (4 : Int))) : Int).toNat (IntKind.wrap .i64 (e482 + (1 : Int))))).bind fun y487 => p9_j0 y241 u431 y487) else (p9_j0 y241 u431 y323))
noncomputable def p9_j2 (y241 : Int) (y323 : List Int) (e427 : Int) (u431 : TMail × Bool × (Option TBox)) (b491 : Bool) : Option ((Int × (Option TBox) × (List Int)) ⊕ (Unit ⊕ ((Option TBox) × (List Int)))) := p9_j1 y241 y323 e427 u431 b491
noncomputable def p9_l2 (x1 : List Int) (y214 : List Int) (st : Int × (Option TBox) × (List Int)) : Option ((Int × (Option TBox) × (List Int)) ⊕ (Unit ⊕ ((Option TBox) × (List Int)))) := match st with | (y241, l322, y323) => if y241 < (x1.length : Int) then ((idx x1 y241).bind fun e427 => (p28 l322 (IntKind.wrap .i64 (Int.tmod e427 (4 : Int))) (Int.tmod (IntKind.wrap .i64 ((IntKind.wrap .i64 (Int.tmod e427 (4 : Int))) + (1 : Int))) (4 : Int))).bind fun u431 => (idx y323 (IntKind.wrap .i64 (Int.tmod e427 (4 : Int)))).bind fun e436 => (idx y214 (IntKind.wrap .i64 (Int.tmod e427 (4 : Int)))).bind fun e438 => if (!(u431.2.1 == (decide (e436 < e438)))) = true then (p9_j1 y241 y323 e427 u431 true) else (if u431.2.1 = true then ((idx y323 (IntKind.wrap .i64 (Int.tmod e427 (4 : Int)))).bind fun e503 => p9_j2 y241 y323 e427 u431 (!decide (u431.1.E.N = e503))) else (p9_j2 y241 y323 e427 u431 false))) else (some (.inr (.inr (l322, y323))))
noncomputable def p9_l3 (y214 : List Int) (y422 : List Int) (st : Int × Int) : Option ((Int × Int) ⊕ Int) := match st with | (y509, y510) => if y510 < (4 : Int) then ((idx y214 y510).bind fun e528 => (idx y422 y510).bind fun e530 => some (.inl ((IntKind.wrap .i64 (y509 + (IntKind.wrap .i64 (e528 - e530)))), (IntKind.wrap .i64 (y510 + (1 : Int)))))) else (some (.inr y509))
noncomputable def p9_j3 (b538 : Bool) : Option Bool := some b538
noncomputable def p9_j4 (x0 : List Int) (x1 : List Int) (b109 : Bool) : Option Bool := if b109 = true then ((p24 ).bind fun y116 => some y116) else ((loopC p9_l0 ((0 : Int), [])).bind fun res141 => ((fun (y140 : List TLane) => (p26 y140).bind fun y155 => (mkS 8 (4 : Int) (4 : Int) 0).bind fun y157 => (loopC (p9_l1 x0) (false, (0 : Int), y155, y157)).bind fun res215 => (match res215 with | .inl _ => some false | .inr (y208, l213, y214) => (mkS 8 (4 : Int) (4 : Int) 0).bind fun y232 => (loopC (p9_l2 x1 y214) ((0 : Int), l213, y232)).bind fun res423 => (match res423 with | .inl _ => some false | .inr (l421, y422) => (loopC (p9_l3 y214 y422) ((0 : Int), (0 : Int))).bind fun res524 => ((fun (y521 : Int) => (p30 l421).bind fun y534 => if y534 = y521 then ((p31 l421).bind fun y543 => p9_j3 (decide (y543 = (x0.length : Int)))) else (p9_j3 false)) res524)))) res141))
noncomputable def p9_j5 (x0 : List Int) (x1 : List Int) (b104 : Bool) : Option Bool := if b104 = true then (p9_j4 x0 x1 true) else (p9_j4 x0 x1 (decide ((90 : Int) < (x1.length : Int))))
noncomputable def p9 (x0 : List Int) (x1 : List Int) : Option Bool := (p24 ).bind fun y103 => if (!y103) = true then (p9_j5 x0 x1 true) else (p9_j5 x0 x1 (decide ((60 : Int) < (x0.length : Int))))
theorem r9 {h : Heap} {a0_0 : AV} {a1_0 : AV} {x0 : List Int} {x1 : List Int} (f0_0 : SlR (rI .u8) (Snap h) a0_0 x0) (f1_0 : SlR (rI .u8) (Snap h) a1_0 x1) {r : Bool} (hf : p9 x0 x1 = some r) : ZCalls F 9 [a0_0, a1_0] h fun v h' => v = .bool r ∧ St h none' [] h' := by
  refine w9 ?_
  unfold W9
  unfold p9 at hf
  have S : St h none' [] h := St.refl _ _
  obtain ⟨y103, hy103, hf⟩ := obind hf
  refine ⟨_, Fz.refl _, ?_⟩
  refine (r24  hy103).mono fun v101 h102 T => ?_
  obtain ⟨rfl, T⟩ := T
  have S : St h none' [] h102 := S.comp T
  refine ⟨y103, rfl, ?_⟩
  intro jjj5
  have hjj5 : ∀ (b104 : Bool) (h105 : Heap), p9_j5 x0 x1 b104 = some r → h102 = h105 → St h none' [] h102 → jjj5 b104 h105 := by
    rintro b104 h105 hf rfl S
    unfold p9_j5 at hf
    unfold jjj5
    intro jjj4
    have hjj4 : ∀ (b109 : Bool) (h110 : Heap), p9_j4 x0 x1 b109 = some r → h102 = h110 → St h none' [] h102 → jjj4 b109 h110 := by
      rintro b109 h110 hf rfl S
      unfold p9_j4 at hf
      unfold jjj4
      refine bP_intro (fun hc => ?_) (fun hc => ?_)
      · rw [if_pos (show b109 = true from hc)] at hf
        obtain ⟨y116, hy116, hf⟩ := obind hf
        refine ⟨_, Fz.refl _, ?_⟩
        refine (r24  hy116).mono fun v114 h115 T => ?_
        obtain ⟨rfl, T⟩ := T
        have S : St h none' [] h115 := S.comp T
        refine ⟨y116, rfl, ?_⟩
        obtain rfl := Option.some.inj hf
        exact ⟨rfl, S.sel [] rfl⟩
      · rw [if_neg (show ¬ (b109 = true) from by rw [show b109 = false from hc]; exact Bool.false_ne_true)] at hf
        obtain ⟨res141, hL, hf⟩ := obind hf
        obtain ⟨n142, hL⟩ := loopC_iff.1 hL
        have S : St h none' [own (oSl (fz rLane)) [.nilSlice] []] h102 := S.addE (oSl_nil _ _)
        refine loopm9_0 (X0 := fun (y134 : AV) (y135 : AV) (y136 : Bool) (y137 : AV) (y138 : Int) (h139 : Heap) => ∃ (y140 : List TLane), a0_0 = y134 ∧ a1_0 = y135 ∧ false = y136 ∧ St h none' [own (oSl (fz rLane)) [y137] y140] h139 ∧ y140 = res141) ?_ (loop9_0 (I := fun (m144 : Nat) (y117 : AV) (y118 : AV) (y119 : Bool) (y120 : AV) (y121 : Int) (h122 : Heap) => ∃ (y124 : List TLane), a0_0 = y117 ∧ a1_0 = y118 ∧ false = y119 ∧ St h none' [own (oSl (fz rLane)) [y120] y124] h122 ∧ iter p9_l0 m144 (y121, y124) = some res141) ?_ (m := n142) ?_)
        · rintro y134 y135 y136 y137 y138 h139 ⟨y140, rfl, rfl, rfl, S, rfl⟩
          try dsimp only at hf
          obtain ⟨y155, hy155, hf⟩ := obind hf
          refine ⟨_, Fz.refl _, ?_⟩
          refine (r26 (lanes0 := y140) (f0_0 := (S.sl (r := (fz rLane)) (.head _))) hy155).mono fun v153 h154 T => ?_
          have S : St h none' [own (oPtr oBox) [v153] y155, own (oSl (fz rLane)) [y137] y140] h154 := S.comp T
          obtain ⟨y157, hy157, hf⟩ := obind hf
          obtain ⟨my157, ey157⟩ := mkS_some hy157
          refine ⟨my157, ?_⟩
          intro h158
          have S : St h none' [own (oSl (fz (rI .i64))) [(.slice h154.n 0 0 ((4 : Int) : Int).toNat 1)] y157, own (oPtr oBox) [v153] y155, own (oSl (fz rLane)) [y137] y140] h158 := (S.make (r := (fz (rI .i64))) (zero := [(.int .i64 (0 : Int))]) (x := 0) (fun _ => ⟨rfl, rfl⟩) _).cast (by rw [ey157]; rfl)
          obtain ⟨res215, hL, hf⟩ := obind hf
          obtain ⟨n216, hL⟩ := loopC_iff.1 hL
          have S : St h none' [own (oPtr oBox) [v153] y155, own (oSl (fz (rI .i64))) [(.slice h154.n 0 0 ((4 : Int) : Int).toNat 1)] y157] h158 := S.sel [1, 0] rfl
          refine loopm9_1 (R := fun (y199 : AV) (y200 : AV) (y201 : Bool) (y202 : AV) (y203 : AV) (y204 : Int) (h205 : Heap) => false = y201 ∧ St h none' [] h205 ∧ (.inl ()) = res215) (X2 := fun (y206 : AV) (y207 : AV) (y208 : Bool) (y209 : AV) (y210 : AV) (y211 : Int) (h212 : Heap) => ∃ (l213 : Option TBox), ∃ (y214 : List Int), a0_0 = y206 ∧ a1_0 = y207 ∧ v153 = y209 ∧ (AV.slice h154.n 0 0 ((4 : Int) : Int).toNat 1) = y210 ∧ St h none' [own (oPtr oBox) [v153] l213, own (oSl (fz (rI .i64))) [(.slice h154.n 0 0 ((4 : Int) : Int).toNat 1)] y214] h212 ∧ (.inr (y208, l213, y214)) = res215) ?_ ?_ (loop9_1 (I := fun (m218 : Nat) (y160 : AV) (y161 : AV) (y162 : Bool) (y163 : AV) (y164 : AV) (y165 : Int) (h180 : Heap) => ∃ (l181 : Option TBox), ∃ (y182 : List Int), a0_0 = y160 ∧ a1_0 = y161 ∧ v153 = y163 ∧ (AV.slice h154.n 0 0 ((4 : Int) : Int).toNat 1) = y164 ∧ St h none' [own (oPtr oBox) [v153] l181, own (oSl (fz (rI .i64))) [(.slice h154.n 0 0 ((4 : Int) : Int).toNat 1)] y182] h180 ∧ iter (p9_l1 x0) m218 (y162, y165, l181, y182) = some res215) ?_ (m := n216) ?_)
          · rintro y199 y200 y201 y202 y203 y204 h205 ⟨rfl, S, rfl⟩
            try dsimp only at hf
            obtain rfl := Option.some.inj hf
            exact ⟨rfl, S.sel [] rfl⟩
          · rintro y206 y207 y208 y209 y210 y211 h212 ⟨l213, y214, rfl, rfl, rfl, rfl, S, rfl⟩
            try dsimp only at hf
            obtain ⟨y232, hy232, hf⟩ := obind hf
            obtain ⟨my232, ey232⟩ := mkS_some hy232
            refine ⟨my232, ?_⟩
            intro h233
            have S : St h none' [own (oSl (fz (rI .i64))) [(.slice h212.n 0 0 ((4 : Int) : Int).toNat 1)] y232, own (oPtr oBox) [v153] l213, own (oSl (fz (rI .i64))) [(.slice h154.n 0 0 ((4 : Int) : Int).toNat 1)] y214] h233 := (S.make (r := (fz (rI .i64))) (zero := [(.int .i64 (0 : Int))]) (x := 0) (fun _ => ⟨rfl, rfl⟩) _).cast (by rw [ey232]; rfl)
            obtain ⟨res423, hL, hf⟩ := obind hf
            obtain ⟨n424, hL⟩ := loopC_iff.1 hL
            have S : St h none' [own (oPtr oBox) [v153] l213, own (oSl (fz (rI .i64))) [(.slice h154.n 0 0 ((4 : Int) : Int).toNat 1)] y214, own (oSl (fz (rI .i64))) [(.slice h212.n 0 0 ((4 : Int) : Int).toNat 1)] y232] h233 := S.sel [1, 2, 0] rfl
            refine loopm9_2 (R := fun (y405 : AV) (y406 : AV) (y407 : Bool) (y408 : AV) (y409 : AV) (y410 : AV) (y411 : Int) (h412 : Heap) => false = y407 ∧ St h none' [] h412 ∧ (.inl ()) = res423) (X4 := fun (y413 : AV) (y414 : AV) (y415 : Bool) (y416 : AV) (y417 : AV) (y418 : AV) (y419 : Int) (h420 : Heap) => ∃ (l421 : Option TBox), ∃ (y422 : List Int), a0_0 = y413 ∧ v153 = y416 ∧ (AV.slice h154.n 0 0 ((4 : Int) : Int).toNat 1) = y417 ∧ (AV.slice h212.n 0 0 ((4 : Int) : Int).toNat 1) = y418 ∧ St h none' [own (oPtr oBox) [v153] l421, own (oSl (fz (rI .i64))) [(.slice h154.n 0 0 ((4 : Int) : Int).toNat 1)] y214, own (oSl (fz (rI .i64))) [(.slice h212.n 0 0 ((4 : Int) : Int).toNat 1)] y422] h420 ∧ (.inr (l421, y422)) = res423) ?_ ?_ (loop9_2 (I := fun (m426 : Nat) (y235 : AV) (y236 : AV) (y237 : Bool) (y238 : AV) (y239 : AV) (y240 : AV) (y241 : Int) (h321 : Heap) => ∃ (l322 : Option TBox), ∃ (y323 : List Int), a0_0 = y235 ∧ a1_0 = y236 ∧ v153 = y238 ∧ (AV.slice h154.n 0 0 ((4 : Int) : Int).toNat 1) = y239 ∧ (AV.slice h212.n 0 0 ((4 : Int) : Int).toNat 1) = y240 ∧ St h none' [own (oPtr oBox) [v153] l322, own (oSl (fz (rI .i64))) [(.slice h154.n 0 0 ((4 : Int) : Int).toNat 1)] y214, own (oSl (fz (rI .i64))) [(.slice h212.n 0 0 ((4 : Int) : Int).toNat 1)] y323] h321 ∧ iter (p9_l2 x1 y214) m426 (y241, l322, y323) = some res423) ?_ (m := n424) ?_)
            · rintro y405 y406 y407 y408 y409 y410 y411 h412 ⟨rfl, S, rfl⟩
              try dsimp only at hf
              obtain rfl := Option.some.inj hf
              exact ⟨rfl, S.sel [] rfl⟩
            · rintro y413 y414 y415 y416 y417 y418 y419 h420 ⟨l421, y422, rfl, rfl, rfl, rfl, S, rfl⟩
              try dsimp only at hf
              obtain ⟨res524, hL, hf⟩ := obind hf
              obtain ⟨n525, hL⟩ := loopC_iff.1 hL
              refine loopm9_3 (X6 := fun (y517 : AV) (y518 : AV) (y519 : AV) (y520 : AV) (y521 : Int) (y522 : Int) (h523 : Heap) => a0_0 = y517 ∧ v153 = y518 ∧ St h none' [own (oPtr oBox) [v153] l421] h523 ∧ y521 = res524) ?_ (loop9_3 (I := fun (m527 : Nat) (y505 : AV) (y506 : AV) (y507 : AV) (y508 : AV) (y509 : Int) (y510 : Int) (h511 : Heap) => a0_0 = y505 ∧ v153 = y506 ∧ (AV.slice h154.n 0 0 ((4 : Int) : Int).toNat 1) = y507 ∧ (AV.slice h212.n 0 0 ((4 : Int) : Int).toNat 1) = y508 ∧ St h none' [own (oPtr oBox) [v153] l421, own (oSl (fz (rI .i64))) [(.slice h154.n 0 0 ((4 : Int) : Int).toNat 1)] y214, own (oSl (fz (rI .i64))) [(.slice h212.n 0 0 ((4 : Int) : Int).toNat 1)] y422] h511 ∧ iter (p9_l3 y214 y422) m527 (y509, y510) = some res524) ?_ (m := n525) ?_)
              · rintro y517 y518 y519 y520 y521 y522 h523 ⟨rfl, rfl, S, rfl⟩
                try dsimp only at hf
                obtain ⟨y534, hy534, hf⟩ := obind hf
                refine ⟨_, Fz.refl _, ?_⟩
                refine (r30 (b0 := l421) (f0_0 := S.pt (r := oBox) (.head _)) hy534).mono fun v532 h533 T => ?_
                obtain ⟨rfl, T⟩ := T
                have S : St h none' [own (oPtr oBox) [v153] l421] h533 := S.comp T
                refine ⟨y534, rfl, ?_⟩
                intro jjj3
                have hjj3 : ∀ (b538 : Bool) (h539 : Heap), p9_j3 b538 = some r → St h none' [] h539 → jjj3 b538 h539 := by
                  rintro b538 h539 hf S
                  unfold p9_j3 at hf
                  unfold jjj3
                  obtain rfl := Option.some.inj hf
                  exact ⟨rfl, S.sel [] rfl⟩
                refine bP_intro (fun hc => ?_) (fun hc => ?_)
                · rw [if_pos (show y534 = y521 from of_decide_eq_true hc)] at hf
                  obtain ⟨y543, hy543, hf⟩ := obind hf
                  refine ⟨_, Fz.refl _, ?_⟩
                  refine (r31 (b0 := l421) (f0_0 := S.pt (r := oBox) (.head _)) hy543).mono fun v541 h542 T => ?_
                  obtain ⟨rfl, T⟩ := T
                  have S : St h none' [own (oPtr oBox) [v153] l421] h542 := S.comp T
                  refine ⟨y543, rfl, ?_⟩
                  refine ifP_iff.2 ⟨(f0_0).is, ?_⟩
                  try rw [(f0_0).slen]
                  have S : St h none' [] h542 := S.sel [] rfl
                  exact hjj3 _ _  hf  S
                · rw [if_neg (show ¬ (y534 = y521) from of_decide_eq_false hc)] at hf
                  have S : St h none' [] h533 := S.sel [] rfl
                  exact hjj3 _ _  hf  S
              · rintro m5270 y505 y506 y507 y508 y509 y510 h511 ⟨rfl, rfl, rfl, rfl, S, hit⟩
                obtain ⟨m527, q526, rfl, hf, hk⟩ := iter_some hit
                clear hit
                unfold B9_3
                unfold p9_l3 at hf
                try dsimp only at hf
                refine bP_intro (fun hc => ?_) (fun hc => ?_)
                · rw [if_pos (show y510 < (4 : Int) from of_decide_eq_true hc)] at hf
                  obtain ⟨e528, he528, hf⟩ := obind hf
                  obtain ⟨qe528, q0e528, q1e528⟩ := SlR.ix (S.sl (r := (fz (rI .i64))) (.tail _ (.head _))) he528
                  have pe528 := (SlR.idx (S.sl (r := (fz (rI .i64))) (.tail _ (.head _))) (Hp.le_refl _) he528).1
                  refine ifP_iff.2 ⟨qe528, q0e528, (by first | exact q1e528 | exact (idx_lt he528).2), ?_⟩
                  obtain ⟨_, cr529, Rr529, Nr529, Or529, Zr529⟩ := St.idxO (r := (rI .i64)) S (.tail _ (.head _)) he528
                  obtain rfl : cr529 = [(.int .i64 e528)] := Rr529
                  refine ⟨e528, Zr529 _ rfl, ?_⟩
                  obtain ⟨e530, he530, hf⟩ := obind hf
                  obtain ⟨qe530, q0e530, q1e530⟩ := SlR.ix (S.sl (r := (fz (rI .i64))) (.tail _ (.tail _ (.head _)))) he530
                  have pe530 := (SlR.idx (S.sl (r := (fz (rI .i64))) (.tail _ (.tail _ (.head _)))) (Hp.le_refl _) he530).1
                  refine ifP_iff.2 ⟨qe530, q0e530, (by first | exact q1e530 | exact (idx_lt he530).2), ?_⟩
                  obtain ⟨_, cr531, Rr531, Nr531, Or531, Zr531⟩ := St.idxO (r := (rI .i64)) S (.tail _ (.tail _ (.head _))) he530
                  obtain rfl : cr531 = [(.int .i64 e530)] := Rr531
                  refine ⟨e530, Zr531 _ rfl, ?_⟩
                  obtain rfl := Option.some.inj hf
                  exact ⟨m527, Nat.lt_succ_self _, rfl, rfl, rfl, rfl, S, hk⟩
                · rw [if_neg (show ¬ (y510 < (4 : Int)) from of_decide_eq_false hc)] at hf
                  have S : St h none' [own (oPtr oBox) [v153] l421] h511 := S.sel [0] rfl
                  obtain rfl := Option.some.inj hf
                  obtain rfl := hk
                  exact ⟨rfl, rfl, S, rfl⟩
              · exact ⟨rfl, rfl, rfl, rfl, S, hL⟩
            · rintro m4260 y235 y236 y237 y238 y239 y240 y241 h321 ⟨l322, y323, rfl, rfl, rfl, rfl, rfl, S, hit⟩
              obtain ⟨m426, q425, rfl, hf, hk⟩ := iter_some hit
              clear hit
              unfold B9_2
              unfold p9_l2 at hf
              try dsimp only at hf
              refine ifP_iff.2 ⟨(f1_0).is, ?_⟩
              try rw [(f1_0).slen]
              refine bP_intro (fun hc => ?_) (fun hc => ?_)
              · rw [if_pos (show y241 < (x1.length : Int) from of_decide_eq_true hc)] at hf
                obtain ⟨e427, he427, hf⟩ := obind hf
                obtain ⟨qe427, q0e427, q1e427⟩ := SlR.ix f1_0 he427
                have pe427 := (SlR.idx f1_0 (snap_mono S.le) he427).1
                refine ifP_iff.2 ⟨qe427, q0e427, (by first | exact q1e427 | exact (idx_lt he427).2), ?_⟩
                obtain ⟨_, cr428, Rr428, Nr428, Or428, Zr428⟩ := SlR.idx f1_0 (snap_mono S.le) he427
                obtain rfl : cr428 = [(.int .u8 e427)] := Rr428
                refine ⟨e427, Zr428 _ rfl, ?_⟩
                obtain ⟨u431, hu431, hf⟩ := obind hf
                refine ⟨_, Fz.refl _, ?_⟩
                obtain ⟨fpu431, S1u431, backu431⟩ := St.lend [_] S
                refine (r28 (b0 := l322) (from1 := (IntKind.wrap .i64 (Int.tmod e427 (4 : Int)))) (to2 := (Int.tmod (IntKind.wrap .i64 ((IntKind.wrap .i64 (Int.tmod e427 (4 : Int))) + (1 : Int))) (4 : Int))) (S := S1u431) hu431).mono fun v429 h430 T => ?_
                obtain ⟨rfl, T⟩ := T
                have S : St h none' [own (oPtr oBox) [v153] u431.2.2, own (oSl (fz (rI .i64))) [(.slice h154.n 0 0 ((4 : Int) : Int).toNat 1)] y214, own (oSl (fz (rI .i64))) [(.slice h212.n 0 0 ((4 : Int) : Int).toNat 1)] y323] h430 := backu431 _ _ T
                refine oP_intro (.agg [(.int .i64 u431.1.From), (.int .i64 u431.1.To), (.int .i64 u431.1.E.Time), (.int .i64 u431.1.E.Place), (.int .i64 u431.1.E.N)]) rfl ?_
                refine oP_intro (.bool u431.2.1) rfl ⟨u431.2.1, rfl, ?_⟩
                intro h432
                have S : St h none' [rowC h430.n [(.int .i64 (0 : Int)), (.int .i64 (0 : Int)), (.int .i64 (0 : Int)), (.int .i64 (0 : Int)), (.int .i64 (0 : Int))] 0, own (oPtr oBox) [v153] u431.2.2, own (oSl (fz (rI .i64))) [(.slice h154.n 0 0 ((4 : Int) : Int).toNat 1)] y214, own (oSl (fz (rI .i64))) [(.slice h212.n 0 0 ((4 : Int) : Int).toNat 1)] y323] h432 := S.pushRow [(.int .i64 (0 : Int)), (.int .i64 (0 : Int)), (.int .i64 (0 : Int)), (.int .i64 (0 : Int)), (.int .i64 (0 : Int))]
                obtain ⟨h434, e435, S⟩ := S.store (off := 0) (n := 5) (x := (.agg [(.int .i64 u431.1.From), (.int .i64 u431.1.To), (.int .i64 u431.1.E.Time), (.int .i64 u431.1.E.Place), (.int .i64 u431.1.E.N)])) (cs' := [(.int .i64 u431.1.From), (.int .i64 u431.1.To), (.int .i64 u431.1.E.Time), (.int .i64 u431.1.E.Place), (.int .i64 u431.1.E.N)]) (Nat.le_of_ble_eq_true rfl) rfl rfl rfl
                have S : St h none' [rowC h430.n [(.int .i64 u431.1.From), (.int .i64 u431.1.To), (.int .i64 u431.1.E.Time), (.int .i64 u431.1.E.Place), (.int .i64 u431.1.E.N)] 0, own (oPtr oBox) [v153] u431.2.2, own (oSl (fz (rI .i64))) [(.slice h154.n 0 0 ((4 : Int) : Int).toNat 1)] y214, own (oSl (fz (rI .i64))) [(.slice h212.n 0 0 ((4 : Int) : Int).toNat 1)] y323] h434 := S
                refine ⟨h434, e435, ?_⟩
                obtain ⟨e436, he436, hf⟩ := obind hf
                obtain ⟨qe436, q0e436, q1e436⟩ := SlR.ix (S.sl (r := (fz (rI .i64))) (.tail _ (.tail _ (.tail _ (.head _))))) he436
                have pe436 := (SlR.idx (S.sl (r := (fz (rI .i64))) (.tail _ (.tail _ (.tail _ (.head _))))) (Hp.le_refl _) he436).1
                refine ifP_iff.2 ⟨qe436, q0e436, (by first | exact q1e436 | exact (idx_lt he436).2), ?_⟩
                obtain ⟨_, cr437, Rr437, Nr437, Or437, Zr437⟩ := St.idxO (r := (rI .i64)) S (.tail _ (.tail _ (.tail _ (.head _)))) he436
                obtain rfl : cr437 = [(.int .i64 e436)] := Rr437
                refine ⟨e436, Zr437 _ rfl, ?_⟩
                obtain ⟨e438, he438, hf⟩ := obind hf
                obtain ⟨qe438, q0e438, q1e438⟩ := SlR.ix (S.sl (r := (fz (rI .i64))) (.tail _ (.tail _ (.head _)))) he438
                have pe438 := (SlR.idx (S.sl (r := (fz (rI .i64))) (.tail _ (.tail _ (.head _)))) (Hp.le_refl _) he438).1
                refine ifP_iff.2 ⟨qe438, q0e438, (by first | exact q1e438 | exact (idx_lt he438).2), ?_⟩
                obtain ⟨_, cr439, Rr439, Nr439, Or439, Zr439⟩ := St.idxO (r := (rI .i64)) S (.tail _ (.tail _ (.head _))) he438
                obtain rfl : cr439 = [(.int .i64 e438)] := Rr439
                refine ⟨e438, Zr439 _ rfl, ?_⟩
                intro jjj1
                have hjj1 : ∀ (b456 : Bool) (h457 : Heap), p9_j1 y241 y323 e427 u431 b456 = some q425 → h434 = h457 → St h none' [own (oPtr oBox) [v153] u431.2.2, own (oSl (fz (rI .i64))) [(.slice h154.n 0 0 ((4 : Int) : Int).toNat 1)] y214, own (oSl (fz (rI .i64))) [(.slice h212.n 0 0 ((4 : Int) : Int).toNat 1)] y323] h434 → jjj1 b456 h457 := by
                  rintro b456 h457 hf rfl S
                  unfold p9_j1 at hf
                  unfold jjj1
                  refine bP_intro (fun hc => ?_) (fun hc => ?_)
                  · rw [if_pos (show b456 = true from hc)] at hf
                    have S : St h none' [] h434 := S.sel [] rfl
                    obtain rfl := Option.some.inj hf
                    obtain rfl := hk
                    exact ⟨rfl, S, rfl⟩
                  · rw [if_neg (show ¬ (b456 = true) from by rw [show b456 = false from hc]; exact Bool.false_ne_true)] at hf
                    intro jjj0
                    have hjj0 : ∀  (h472 : Heap) (y480 : List Int), p9_j0 y241 u431 y480 = some q425 → St h none' [own (oPtr oBox) [v153] u431.2.2, own (oSl (fz (rI .i64))) [(.slice h154.n 0 0 ((4 : Int) : Int).toNat 1)] y214, own (oSl (fz (rI .i64))) [(.slice h212.n 0 0 ((4 : Int) : Int).toNat 1)] y480] h472 → jjj0 h472 := by
                      rintro h472 y480 hf S
                      unfold p9_j0 at hf
                      unfold jjj0
                      obtain rfl := Option.some.inj hf
                      exact ⟨m426, Nat.lt_succ_self _, u431.2.2, y480, rfl, rfl, rfl, rfl, rfl, S, hk⟩
                    refine bP_intro (fun hc => ?_) (fun hc => ?_)
                    · rw [if_pos (show u431.2.1 = true from hc)] at hf
                      obtain ⟨e482, he482, hf⟩ := obind hf
                      obtain ⟨qe482, q0e482, q1e482⟩ := SlR.ix (S.sl (r := (fz (rI .i64))) (.tail _ (.tail _ (.head _)))) he482
                      have pe482 := (SlR.idx (S.sl (r := (fz (rI .i64))) (.tail _ (.tail _ (.head _)))) (Hp.le_refl _) he482).1
                      refine ifP_iff.2 ⟨qe482, q0e482, (by first | exact q1e482 | exact (idx_lt he482).2), ?_⟩
                      obtain ⟨_, cr483, Rr483, Nr483, Or483, Zr483⟩ := St.idxO (r := (rI .i64)) S (.tail _ (.tail _ (.head _))) he482
                      obtain rfl : cr483 = [(.int .i64 e482)] := Rr483
                      refine ⟨e482, Zr483 _ rfl, ?_⟩
                      obtain ⟨e484, he484, hf⟩ := obind hf
                      obtain ⟨qe484, q0e484, q1e484⟩ := SlR.ix (S.sl (r := (fz (rI .i64))) (.tail _ (.tail _ (.head _)))) he484
                      have pe484 := (SlR.idx (S.sl (r := (fz (rI .i64))) (.tail _ (.tail _ (.head _)))) (Hp.le_refl _) he484).1
                      refine ifP_iff.2 ⟨qe484, q0e484, (by first | exact q1e484 | exact (idx_lt he484).2), ?_⟩
                      obtain ⟨y487, hy487, hf⟩ := obind hf
                      have S : St h none' [own (oSl (fz (rI .i64))) [(.slice h212.n 0 0 ((4 : Int) : Int).toNat 1)] y323, own (oPtr oBox) [v153] u431.2.2, own (oSl (fz (rI .i64))) [(.slice h154.n 0 0 ((4 : Int) : Int).toNat 1)] y214] h434 := S.sel [2, 0, 1] rfl
                      obtain ⟨h485, e486, S⟩ := St.setE (r := (rI .i64)) (x' := (IntKind.wrap .i64 (e482 + (1 : Int)))) (k := 0) (n := 1) (y := (.int .i64 (IntKind.wrap .i64 (e482 + (1 : Int))))) S he484 rfl rfl (Nat.le_of_ble_eq_true rfl) (by rintro _ h; obtain rfl := h; exact rfl)
                      rw [padd_zero] at e486
                      have S : St h none' [own (oSl (fz (rI .i64))) [(.slice h212.n 0 0 ((4 : Int) : Int).toNat 1)] y487, own (oPtr oBox) [v153] u431.2.2, own (oSl (fz (rI .i64))) [(.slice h154.n 0 0 ((4 : Int) : Int).toNat 1)] y214] h485 := S.cast (by rw [← Option.some.inj hy487] <;> rfl)
                      refine ⟨h485, e486, ?_⟩
                      have S : St h none' [own (oPtr oBox) [v153] u431.2.2, own (oSl (fz (rI .i64))) [(.slice h154.n 0 0 ((4 : Int) : Int).toNat 1)] y214, own (oSl (fz (rI .i64))) [(.slice h212.n 0 0 ((4 : Int) : Int).toNat 1)] y487] h485 := S.sel [1, 2, 0] rfl
                      exact hjj0  _ y487 hf  S
                    · rw [if_neg (show ¬ (u431.2.1 = true) from by rw [show u431.2.1 = false from hc]; exact Bool.false_ne_true)] at hf
                      exact hjj0  _ y323 hf  S
                refine bP_intro (fun hc => ?_) (fun hc => ?_)
                · rw [if_pos (show (!(u431.2.1 == (decide (e436 < e438)))) = true from hc)] at hf
                  have S : St h none' [own (oPtr oBox) [v153] u431.2.2, own (oSl (fz (rI .i64))) [(.slice h154.n 0 0 ((4 : Int) : Int).toNat 1)] y214, own (oSl (fz (rI .i64))) [(.slice h212.n 0 0 ((4 : Int) : Int).toNat 1)] y323] h434 := S.sel [1, 2, 3] rfl
                  exact hjj1 _ _  hf rfl S
                · rw [if_neg (show ¬ ((!(u431.2.1 == (decide (e436 < e438)))) = true) from by rw [show (!(u431.2.1 == (decide (e436 < e438)))) = false from hc]; exact Bool.false_ne_true)] at hf
                  intro jjj2
                  have hjj2 : ∀ (b491 : Bool) (h492 : Heap), p9_j2 y241 y323 e427 u431 b491 = some q425 → h434 = h492 → St h none' [own (oPtr oBox) [v153] u431.2.2, own (oSl (fz (rI .i64))) [(.slice h154.n 0 0 ((4 : Int) : Int).toNat 1)] y214, own (oSl (fz (rI .i64))) [(.slice h212.n 0 0 ((4 : Int) : Int).toNat 1)] y323] h434 → jjj2 b491 h492 := by
                    rintro b491 h492 hf rfl S
                    unfold p9_j2 at hf
                    unfold jjj2
                    exact hjj1 _ _  hf rfl S
                  refine bP_intro (fun hc => ?_) (fun hc => ?_)
                  · rw [if_pos (show u431.2.1 = true from hc)] at hf
                    refine ⟨u431.1.E.N, S.rd1 (.head _) rfl, ?_⟩
                    obtain ⟨e503, he503, hf⟩ := obind hf
                    obtain ⟨qe503, q0e503, q1e503⟩ := SlR.ix (S.sl (r := (fz (rI .i64))) (.tail _ (.tail _ (.tail _ (.head _))))) he503
                    have pe503 := (SlR.idx (S.sl (r := (fz (rI .i64))) (.tail _ (.tail _ (.tail _ (.head _))))) (Hp.le_refl _) he503).1
                    refine ifP_iff.2 ⟨qe503, q0e503, (by first | exact q1e503 | exact (idx_lt he503).2), ?_⟩
                    obtain ⟨_, cr504, Rr504, Nr504, Or504, Zr504⟩ := St.idxO (r := (rI .i64)) S (.tail _ (.tail _ (.tail _ (.head _)))) he503
                    obtain rfl : cr504 = [(.int .i64 e503)] := Rr504
                    refine ⟨e503, Zr504 _ rfl, ?_⟩
                    have S : St h none' [own (oPtr oBox) [v153] u431.2.2, own (oSl (fz (rI .i64))) [(.slice h154.n 0 0 ((4 : Int) : Int).toNat 1)] y214, own (oSl (fz (rI .i64))) [(.slice h212.n 0 0 ((4 : Int) : Int).toNat 1)] y323] h434 := S.sel [1, 2, 3] rfl
                    exact hjj2 _ _  hf rfl S
                  · rw [if_neg (show ¬ (u431.2.1 = true) from by rw [show u431.2.1 = false from hc]; exact Bool.false_ne_true)] at hf
                    have S : St h none' [own (oPtr oBox) [v153] u431.2.2, own (oSl (fz (rI .i64))) [(.slice h154.n 0 0 ((4 : Int) : Int).toNat 1)] y214, own (oSl (fz (rI .i64))) [(.slice h212.n 0 0 ((4 : Int) : Int).toNat 1)] y323] h434 := S.sel [1, 2, 3] rfl
                    exact hjj2 _ _  hf rfl S
              · rw [if_neg (show ¬ (y241 < (x1.length : Int)) from of_decide_eq_false hc)] at hf
                obtain rfl := Option.some.inj hf
                obtain rfl := hk
                exact ⟨l322, y323, rfl, rfl, rfl, rfl, S, rfl⟩
            · exact ⟨l213, y232, rfl, rfl, rfl, rfl, rfl, S, hL⟩
          · rintro m2180 y160 y161 y162 y163 y164 y165 h180 ⟨l181, y182, rfl, rfl, rfl, rfl, S, hit⟩
            obtain ⟨m218, q217, rfl, hf, hk⟩ := iter_some hit
            clear hit
            unfold B9_1
            unfold p9_l1 at hf
            try dsimp only at hf
            refine ifP_iff.2 ⟨(f0_0).is, ?_⟩
            try rw [(f0_0).slen]
            refine bP_intro (fun hc => ?_) (fun hc => ?_)
            · rw [if_pos (show y165 < (x0.length : Int) from of_decide_eq_true hc)] at hf
              obtain ⟨e219, he219, hf⟩ := obind hf
              obtain ⟨qe219, q0e219, q1e219⟩ := SlR.ix f0_0 he219
              have pe219 := (SlR.idx f0_0 (snap_mono S.le) he219).1
              refine ifP_iff.2 ⟨qe219, q0e219, (by first | exact q1e219 | exact (idx_lt he219).2), ?_⟩
              obtain ⟨_, cr220, Rr220, Nr220, Or220, Zr220⟩ := SlR.idx f0_0 (snap_mono S.le) he219
              obtain rfl : cr220 = [(.int .u8 e219)] := Rr220
              refine ⟨e219, Zr220 _ rfl, ?_⟩
              obtain ⟨e221, he221, hf⟩ := obind hf
              obtain ⟨qe221, q0e221, q1e221⟩ := SlR.ix (S.sl (r := (fz (rI .i64))) (.tail _ (.head _))) he221
              have pe221 := (SlR.idx (S.sl (r := (fz (rI .i64))) (.tail _ (.head _))) (Hp.le_refl _) he221).1
              refine ifP_iff.2 ⟨qe221, q0e221, (by first | exact q1e221 | exact (idx_lt he221).2), ?_⟩
              obtain ⟨_, cr222, Rr222, Nr222, Or222, Zr222⟩ := St.idxO (r := (rI .i64)) S (.tail _ (.head _)) he221
              obtain rfl : cr222 = [(.int .i64 e221)] := Rr222
              refine ⟨e221, Zr222 _ rfl, ?_⟩
              obtain ⟨u225, hu225, hf⟩ := obind hf
              refine ⟨_, Fz.refl _, ?_⟩
              obtain ⟨fpu225, S1u225, backu225⟩ := St.lend [_] S
              refine (r27 (b0 := l181) (m1 := (TMail.mk (IntKind.wrap .i64 (Int.tmod e219 (4 : Int))) (Int.tmod (IntKind.wrap .i64 ((IntKind.wrap .i64 (Int.tmod e219 (4 : Int))) + (1 : Int))) (4 : Int)) (TEvent.mk (0 : Int) (0 : Int) e221))) (S := S1u225) hu225).mono fun v223 h224 T => ?_
              obtain ⟨rfl, T⟩ := T
              have S : St h none' [own (oPtr oBox) [v153] u225.2, own (oSl (fz (rI .i64))) [(.slice h154.n 0 0 ((4 : Int) : Int).toNat 1)] y182] h224 := backu225 _ _ T
              refine ⟨u225.1, rfl, ?_⟩
              refine bP_intro (fun hc => ?_) (fun hc => ?_)
              · rw [if_pos (show (!u225.1) = true from hc)] at hf
                have S : St h none' [] h224 := S.sel [] rfl
                obtain rfl := Option.some.inj hf
                obtain rfl := hk
                exact ⟨rfl, S, rfl⟩
              · rw [if_neg (show ¬ ((!u225.1) = true) from by rw [show (!u225.1) = false from hc]; exact Bool.false_ne_true)] at hf
                obtain ⟨e226, he226, hf⟩ := obind hf
                obtain ⟨qe226, q0e226, q1e226⟩ := SlR.ix (S.sl (r := (fz (rI .i64))) (.tail _ (.head _))) he226
                have pe226 := (SlR.idx (S.sl (r := (fz (rI .i64))) (.tail _ (.head _))) (Hp.le_refl _) he226).1
                refine ifP_iff.2 ⟨qe226, q0e226, (by first | exact q1e226 | exact (idx_lt he226).2), ?_⟩
                obtain ⟨_, cr227, Rr227, Nr227, Or227, Zr227⟩ := St.idxO (r := (rI .i64)) S (.tail _ (.head _)) he226
                obtain rfl : cr227 = [(.int .i64 e226)] := Rr227
                refine ⟨e226, Zr227 _ rfl, ?_⟩
                obtain ⟨e228, he228, hf⟩ := obind hf
                obtain ⟨qe228, q0e228, q1e228⟩ := SlR.ix (S.sl (r := (fz (rI .i64))) (.tail _ (.head _))) he228
                have pe228 := (SlR.idx (S.sl (r := (fz (rI .i64))) (.tail _ (.head _))) (Hp.le_refl _) he228).1
                refine ifP_iff.2 ⟨qe228, q0e228, (by first | exact q1e228 | exact (idx_lt he228).2), ?_⟩
                obtain ⟨y231, hy231, hf⟩ := obind hf
                have S : St h none' [own (oSl (fz (rI .i64))) [(.slice h154.n 0 0 ((4 : Int) : Int).toNat 1)] y182, own (oPtr oBox) [v153] u225.2] h224 := S.sel [1, 0] rfl
                obtain ⟨h229, e230, S⟩ := St.setE (r := (rI .i64)) (x' := (IntKind.wrap .i64 (e226 + (1 : Int)))) (k := 0) (n := 1) (y := (.int .i64 (IntKind.wrap .i64 (e226 + (1 : Int))))) S he228 rfl rfl (Nat.le_of_ble_eq_true rfl) (by rintro _ h; obtain rfl := h; exact rfl)
                rw [padd_zero] at e230
                have S : St h none' [own (oSl (fz (rI .i64))) [(.slice h154.n 0 0 ((4 : Int) : Int).toNat 1)] y231, own (oPtr oBox) [v153] u225.2] h229 := S.cast (by rw [← Option.some.inj hy231] <;> rfl)
                refine ⟨h229, e230, ?_⟩
                have S : St h none' [own (oPtr oBox) [v153] u225.2, own (oSl (fz (rI .i64))) [(.slice h154.n 0 0 ((4 : Int) : Int).toNat 1)] y231] h229 := S.sel [1, 0] rfl
                obtain rfl := Option.some.inj hf
                exact ⟨m218, Nat.lt_succ_self _, u225.2, y231, rfl, rfl, rfl, rfl, S, hk⟩
            · rw [if_neg (show ¬ (y165 < (x0.length : Int)) from of_decide_eq_false hc)] at hf
              obtain rfl := Option.some.inj hf
              obtain rfl := hk
              exact ⟨l181, y182, rfl, rfl, rfl, rfl, S, rfl⟩
          · exact ⟨y155, y157, rfl, rfl, rfl, rfl, S, hL⟩
        · rintro m1440 y117 y118 y119 y120 y121 h122 ⟨y124, rfl, rfl, rfl, S, hit⟩
          obtain ⟨m144, q143, rfl, hf, hk⟩ := iter_some hit
          clear hit
          unfold B9_0
          unfold p9_l0 at hf
          try dsimp only at hf
          refine bP_intro (fun hc => ?_) (fun hc => ?_)
          · rw [if_pos (show y121 < (4 : Int) from of_decide_eq_true hc)] at hf
            intro h145
            have S : St h none' [rowC h122.n [(.int .i64 y121), (.int .i64 (Int.tmod (IntKind.wrap .i64 (y121 + (1 : Int))) (4 : Int))), (.int .i64 (0 : Int))] 0, own (oSl (fz rLane)) [y120] y124] h145 := S.pushRow [(.int .i64 y121), (.int .i64 (Int.tmod (IntKind.wrap .i64 (y121 + (1 : Int))) (4 : Int))), (.int .i64 (0 : Int))]
            obtain ⟨y149, hy149, hf⟩ := obind hf
            have S : St h none' [own (fz rLane) [(.int .i64 y121), (.int .i64 (Int.tmod (IntKind.wrap .i64 (y121 + (1 : Int))) (4 : Int))), (.int .i64 (0 : Int))] (TLane.mk y121 (Int.tmod (IntKind.wrap .i64 (y121 + (1 : Int))) (4 : Int)) (0 : Int)), rowC h122.n [(.int .i64 y121), (.int .i64 (Int.tmod (IntKind.wrap .i64 (y121 + (1 : Int))) (4 : Int))), (.int .i64 (0 : Int))] 0, own (oSl (fz rLane)) [y120] y124] h145 := S.add (r := rLane) (x := (TLane.mk y121 (Int.tmod (IntKind.wrap .i64 (y121 + (1 : Int))) (4 : Int)) (0 : Int))) (rLane_mk (x := (TLane.mk y121 (Int.tmod (IntKind.wrap .i64 (y121 + (1 : Int))) (4 : Int)) (0 : Int))))
            have S : St h none' [own (oSl (fz rLane)) [y120] y124, own (fz rLane) [(.int .i64 y121), (.int .i64 (Int.tmod (IntKind.wrap .i64 (y121 + (1 : Int))) (4 : Int))), (.int .i64 (0 : Int))] (TLane.mk y121 (Int.tmod (IntKind.wrap .i64 (y121 + (1 : Int))) (4 : Int)) (0 : Int)), rowC h122.n [(.int .i64 y121), (.int .i64 (Int.tmod (IntKind.wrap .i64 (y121 + (1 : Int))) (4 : Int))), (.int .i64 (0 : Int))] 0] h145 := S.sel [2, 0, 1] rfl
            have my149 := app_some hy149
            obtain ⟨v148, h147, e150, S⟩ := St.app1R (r := (fz rLane)) (b := 24) S my149.1
            have S : St h none' [own (oSl (fz rLane)) [v148] y149] h147 := S.cast (by rw [← my149.2] <;> rfl)
            refine ⟨v148, h147, e150, ?_⟩
            obtain rfl := Option.some.inj hf
            exact ⟨m144, Nat.lt_succ_self _, y149, rfl, rfl, rfl, S, hk⟩
          · rw [if_neg (show ¬ (y121 < (4 : Int)) from of_decide_eq_false hc)] at hf
            obtain rfl := Option.some.inj hf
            obtain rfl := hk
            exact ⟨y124, rfl, rfl, rfl, S, rfl⟩
        · exact ⟨[], rfl, rfl, rfl, S, hL⟩
    refine bP_intro (fun hc => ?_) (fun hc => ?_)
    · rw [if_pos (show b104 = true from hc)] at hf
      exact hjj4 _ _  hf rfl S
    · rw [if_neg (show ¬ (b104 = true) from by rw [show b104 = false from hc]; exact Bool.false_ne_true)] at hf
      refine ifP_iff.2 ⟨(f1_0).is, ?_⟩
      try rw [(f1_0).slen]
      exact hjj4 _ _  hf rfl S
  refine bP_intro (fun hc => ?_) (fun hc => ?_)
  · rw [if_pos (show (!y103) = true from hc)] at hf
    exact hjj5 _ _  hf rfl S
  · rw [if_neg (show ¬ ((!y103) = true) from by rw [show (!y103) = false from hc]; exact Bool.false_ne_true)] at hf
    refine ifP_iff.2 ⟨(f0_0).is, ?_⟩
    try rw [(f0_0).slen]
    exact hjj5 _ _  hf rfl S
end Go.Proofs.Ytgbkpiaonlabgaa
