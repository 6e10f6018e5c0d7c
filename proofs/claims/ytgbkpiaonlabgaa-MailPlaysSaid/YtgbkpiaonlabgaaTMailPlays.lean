/- Structures of the program as Lean structures, and what cells stand for them. No condition. Own work. -/
import Derived.Test.YtgbkpiaonlabgaaPm1
/- Structures of the program as Lean structures; what cells stand for them; printed by a program of mine (mkty.py). Own work. -/
namespace Go.Am
open Go
set_option linter.unusedVariables false
structure TAct where
  D : Int
  P : Int
  I : Int
  J : Int
  N : Int
  O : Int
  Q : Int
def rAct : Rep TAct := rIso (rPair (rPair (rPair (rPair (rPair (rPair (rI .u8) (rI .u8)) (rI .u8)) (rI .u8)) (rI .u8)) (rI .u8)) (rI .u8)) fun x => ((((((x.D, x.P), x.I), x.J), x.N), x.O), x.Q)
def oAct : ORep TAct := oIso (oPair (oPair (oPair (oPair (oPair (oPair (fz (rI .u8)) (fz (rI .u8))) (fz (rI .u8))) (fz (rI .u8))) (fz (rI .u8))) (fz (rI .u8))) (fz (rI .u8))) fun x => ((((((x.D, x.P), x.I), x.J), x.N), x.O), x.Q)
theorem flat_Act : Flat rAct := flat_iso (flat_pair (flat_pair (flat_pair (flat_pair (flat_pair (flat_pair (flat_I _) (flat_I _)) (flat_I _)) (flat_I _)) (flat_I _)) (flat_I _)) (flat_I _))
theorem rAct_open {G : Hp} {cs : List AV} {x : TAct} (h : rAct.R G cs x) : cs = [.int .u8 x.D, .int .u8 x.P, .int .u8 x.I, .int .u8 x.J, .int .u8 x.N, .int .u8 x.O, .int .u8 x.Q] := by
  obtain ⟨_, _, rfl, ⟨_, _, rfl, ⟨_, _, rfl, ⟨_, _, rfl, ⟨_, _, rfl, ⟨_, _, rfl, rfl, rfl⟩, rfl⟩, rfl⟩, rfl⟩, rfl⟩, rfl⟩ := h
  exact rfl
theorem rAct_mk {G : Hp} {x : TAct}  : rAct.R G [.int .u8 x.D, .int .u8 x.P, .int .u8 x.I, .int .u8 x.J, .int .u8 x.N, .int .u8 x.O, .int .u8 x.Q] x := ⟨[.int .u8 x.D, .int .u8 x.P, .int .u8 x.I, .int .u8 x.J, .int .u8 x.N, .int .u8 x.O], [.int .u8 x.Q], rfl, ⟨[.int .u8 x.D, .int .u8 x.P, .int .u8 x.I, .int .u8 x.J, .int .u8 x.N], [.int .u8 x.O], rfl, ⟨[.int .u8 x.D, .int .u8 x.P, .int .u8 x.I, .int .u8 x.J], [.int .u8 x.N], rfl, ⟨[.int .u8 x.D, .int .u8 x.P, .int .u8 x.I], [.int .u8 x.J], rfl, ⟨[.int .u8 x.D, .int .u8 x.P], [.int .u8 x.I], rfl, ⟨[.int .u8 x.D], [.int .u8 x.P], rfl, rfl, rfl⟩, rfl⟩, rfl⟩, rfl⟩, rfl⟩, rfl⟩
structure TDraft where
  Tokens : List Int
  Acts : List TAct
def rDraft : Rep TDraft := rIso (rPair (rSl (rI .u8)) (rSl rAct)) fun x => (x.Tokens, x.Acts)
def oDraft : ORep TDraft := oIso (oPair (oSl (fz (rI .u8))) (oSl (fz rAct))) fun x => (x.Tokens, x.Acts)
theorem rDraft_open {G : Hp} {cs : List AV} {x : TDraft} (h : rDraft.R G cs x) : ∃ c0 c1, cs = [c0, c1] ∧ SlR (rI .u8) G c0 x.Tokens ∧ SlR rAct G c1 x.Acts := by
  obtain ⟨_, _, rfl, ⟨_, rfl, h1⟩, ⟨_, rfl, h2⟩⟩ := h
  exact ⟨_, _, rfl, h1, h2⟩
theorem rDraft_mk {G : Hp} {x : TDraft} {c0 c1 : AV} (f1 : SlR (rI .u8) G c0 x.Tokens) (f2 : SlR rAct G c1 x.Acts) : rDraft.R G [c0, c1] x := ⟨[c0], [c1], rfl, ⟨_, rfl, f1⟩, ⟨_, rfl, f2⟩⟩
theorem oDraft_open {g h : Heap} {M : Nat → Prop} {Γ : List Ch} {cs : List AV} {x : TDraft} (S : St g M (own oDraft cs x :: Γ) h) : ∃ c0 c1, cs = [c0, c1] ∧ St g M (own (oSl (fz (rI .u8))) [c0] x.Tokens :: own (oSl (fz rAct)) [c1] x.Acts :: Γ) h := by
  obtain ⟨b1, d1, rfl, -, -, S⟩ := St.unpair (x := (x.Tokens, x.Acts)) S
  obtain ⟨z0, rfl, -⟩ := S.snap (r := (oSl (fz (rI .u8)))) (x := x.Tokens) (.head _)
  obtain ⟨z1, rfl, -⟩ := S.snap (r := (oSl (fz rAct))) (x := x.Acts) (.tail _ (.head _))
  exact ⟨z0, z1, rfl, S⟩
theorem oDraft_close {g h : Heap} {M : Nat → Prop} {Γ : List Ch} {c0 c1 : AV} {x : TDraft} (S : St g M (own (oSl (fz (rI .u8))) [c0] x.Tokens :: own (oSl (fz rAct)) [c1] x.Acts :: Γ) h) : St g M (own oDraft [c0, c1] x :: Γ) h := by
  exact (S.pair).iso (f := fun x : TDraft => (x.Tokens, x.Acts)) rfl
structure TPlace where
  Name : List UInt8
  Tokens : Int
def rPlace : Rep TPlace := rIso (rPair rS (rI .i64)) fun x => (x.Name, x.Tokens)
def oPlace : ORep TPlace := oIso (oPair (fz rS) (fz (rI .i64))) fun x => (x.Name, x.Tokens)
theorem flat_Place : Flat rPlace := flat_iso (flat_pair flat_S (flat_I _))
theorem rPlace_open {G : Hp} {cs : List AV} {x : TPlace} (h : rPlace.R G cs x) : cs = [.str x.Name, .int .i64 x.Tokens] := by
  obtain ⟨_, _, rfl, rfl, rfl⟩ := h
  exact rfl
theorem rPlace_mk {G : Hp} {x : TPlace}  : rPlace.R G [.str x.Name, .int .i64 x.Tokens] x := ⟨[.str x.Name], [.int .i64 x.Tokens], rfl, rfl, rfl⟩
structure TArc where
  Place : Int
  N : Int
def rArc : Rep TArc := rIso (rPair (rI .i64) (rI .i64)) fun x => (x.Place, x.N)
def oArc : ORep TArc := oIso (oPair (fz (rI .i64)) (fz (rI .i64))) fun x => (x.Place, x.N)
theorem flat_Arc : Flat rArc := flat_iso (flat_pair (flat_I _) (flat_I _))
theorem rArc_open {G : Hp} {cs : List AV} {x : TArc} (h : rArc.R G cs x) : cs = [.int .i64 x.Place, .int .i64 x.N] := by
  obtain ⟨_, _, rfl, rfl, rfl⟩ := h
  exact rfl
theorem rArc_mk {G : Hp} {x : TArc}  : rArc.R G [.int .i64 x.Place, .int .i64 x.N] x := ⟨[.int .i64 x.Place], [.int .i64 x.N], rfl, rfl, rfl⟩
structure TTrans where
  Name : List UInt8
  Delay : Int
  Prio : Int
  In : List TArc
  Not : List TArc
  Out : List TArc
def rTrans : Rep TTrans := rIso (rPair (rPair (rPair (rPair (rPair rS (rI .i64)) (rI .i64)) (rSl rArc)) (rSl rArc)) (rSl rArc)) fun x => (((((x.Name, x.Delay), x.Prio), x.In), x.Not), x.Out)
def oTrans : ORep TTrans := oIso (oPair (oPair (oPair (oPair (oPair (fz rS) (fz (rI .i64))) (fz (rI .i64))) (oSl (fz rArc))) (oSl (fz rArc))) (oSl (fz rArc))) fun x => (((((x.Name, x.Delay), x.Prio), x.In), x.Not), x.Out)
theorem rTrans_open {G : Hp} {cs : List AV} {x : TTrans} (h : rTrans.R G cs x) : ∃ c0 c1 c2, cs = [.str x.Name, .int .i64 x.Delay, .int .i64 x.Prio, c0, c1, c2] ∧ SlR rArc G c0 x.In ∧ SlR rArc G c1 x.Not ∧ SlR rArc G c2 x.Out := by
  obtain ⟨_, _, rfl, ⟨_, _, rfl, ⟨_, _, rfl, ⟨_, _, rfl, ⟨_, _, rfl, rfl, rfl⟩, rfl⟩, ⟨_, rfl, h1⟩⟩, ⟨_, rfl, h2⟩⟩, ⟨_, rfl, h3⟩⟩ := h
  exact ⟨_, _, _, rfl, h1, h2, h3⟩
theorem rTrans_mk {G : Hp} {x : TTrans} {c0 c1 c2 : AV} (f1 : SlR rArc G c0 x.In) (f2 : SlR rArc G c1 x.Not) (f3 : SlR rArc G c2 x.Out) : rTrans.R G [.str x.Name, .int .i64 x.Delay, .int .i64 x.Prio, c0, c1, c2] x := ⟨[.str x.Name, .int .i64 x.Delay, .int .i64 x.Prio, c0, c1], [c2], rfl, ⟨[.str x.Name, .int .i64 x.Delay, .int .i64 x.Prio, c0], [c1], rfl, ⟨[.str x.Name, .int .i64 x.Delay, .int .i64 x.Prio], [c0], rfl, ⟨[.str x.Name, .int .i64 x.Delay], [.int .i64 x.Prio], rfl, ⟨[.str x.Name], [.int .i64 x.Delay], rfl, rfl, rfl⟩, rfl⟩, ⟨_, rfl, f1⟩⟩, ⟨_, rfl, f2⟩⟩, ⟨_, rfl, f3⟩⟩
theorem oTrans_open {g h : Heap} {M : Nat → Prop} {Γ : List Ch} {cs : List AV} {x : TTrans} (S : St g M (own oTrans cs x :: Γ) h) : ∃ c0 c1 c2, cs = [.str x.Name, .int .i64 x.Delay, .int .i64 x.Prio, c0, c1, c2] ∧ St g M (own (oSl (fz rArc)) [c0] x.In :: own (oSl (fz rArc)) [c1] x.Not :: own (oSl (fz rArc)) [c2] x.Out :: Γ) h := by
  obtain ⟨b5, d5, rfl, -, -, S⟩ := St.unpair (x := (((((x.Name, x.Delay), x.Prio), x.In), x.Not), x.Out)) S
  obtain ⟨b4, d4, rfl, -, -, S⟩ := St.unpair (x := ((((x.Name, x.Delay), x.Prio), x.In), x.Not)) S
  obtain ⟨b3, d3, rfl, -, -, S⟩ := St.unpair (x := (((x.Name, x.Delay), x.Prio), x.In)) S
  obtain ⟨b2, d2, rfl, -, -, S⟩ := St.unpair (x := ((x.Name, x.Delay), x.Prio)) S
  obtain ⟨b1, d1, rfl, -, -, S⟩ := St.unpair (x := (x.Name, x.Delay)) S
  obtain rfl : b1 = [.str x.Name] := S.fzr (r := rS) (x := x.Name) (.head _)
  have S := St.dropAt [] S
  obtain rfl : d1 = [.int .i64 x.Delay] := S.fzr (r := (rI .i64)) (x := x.Delay) (.head _)
  have S := St.dropAt [] S
  obtain rfl : d2 = [.int .i64 x.Prio] := S.fzr (r := (rI .i64)) (x := x.Prio) (.head _)
  have S := St.dropAt [] S
  obtain ⟨z3, rfl, -⟩ := S.snap (r := (oSl (fz rArc))) (x := x.In) (.head _)
  obtain ⟨z4, rfl, -⟩ := S.snap (r := (oSl (fz rArc))) (x := x.Not) (.tail _ (.head _))
  obtain ⟨z5, rfl, -⟩ := S.snap (r := (oSl (fz rArc))) (x := x.Out) (.tail _ (.tail _ (.head _)))
  exact ⟨z3, z4, z5, rfl, S⟩
theorem oTrans_close {g h : Heap} {M : Nat → Prop} {Γ : List Ch} {c0 c1 c2 : AV} {x : TTrans} (S : St g M (own (oSl (fz rArc)) [c0] x.In :: own (oSl (fz rArc)) [c1] x.Not :: own (oSl (fz rArc)) [c2] x.Out :: Γ) h) : St g M (own oTrans [.str x.Name, .int .i64 x.Delay, .int .i64 x.Prio, c0, c1, c2] x :: Γ) h := by
  have S := St.addAt (r := rS) (cs := [.str x.Name]) (x := x.Name) [] S rfl
  have S := St.addAt (r := (rI .i64)) (cs := [.int .i64 x.Delay]) (x := x.Delay) [own (fz rS) [.str x.Name] x.Name] S rfl
  have S := St.addAt (r := (rI .i64)) (cs := [.int .i64 x.Prio]) (x := x.Prio) [own (fz rS) [.str x.Name] x.Name, own (fz (rI .i64)) [.int .i64 x.Delay] x.Delay] S rfl
  exact (S.pair.pair.pair.pair.pair).iso (f := fun x : TTrans => (((((x.Name, x.Delay), x.Prio), x.In), x.Not), x.Out)) rfl
structure TNet where
  Places : List TPlace
  Trans : List TTrans
def rNet : Rep TNet := rIso (rPair (rSl rPlace) (rSl rTrans)) fun x => (x.Places, x.Trans)
def oNet : ORep TNet := oIso (oPair (oSl (fz rPlace)) (oSl oTrans)) fun x => (x.Places, x.Trans)
theorem rNet_open {G : Hp} {cs : List AV} {x : TNet} (h : rNet.R G cs x) : ∃ c0 c1, cs = [c0, c1] ∧ SlR rPlace G c0 x.Places ∧ SlR rTrans G c1 x.Trans := by
  obtain ⟨_, _, rfl, ⟨_, rfl, h1⟩, ⟨_, rfl, h2⟩⟩ := h
  exact ⟨_, _, rfl, h1, h2⟩
theorem rNet_mk {G : Hp} {x : TNet} {c0 c1 : AV} (f1 : SlR rPlace G c0 x.Places) (f2 : SlR rTrans G c1 x.Trans) : rNet.R G [c0, c1] x := ⟨[c0], [c1], rfl, ⟨_, rfl, f1⟩, ⟨_, rfl, f2⟩⟩
theorem oNet_open {g h : Heap} {M : Nat → Prop} {Γ : List Ch} {cs : List AV} {x : TNet} (S : St g M (own oNet cs x :: Γ) h) : ∃ c0 c1, cs = [c0, c1] ∧ St g M (own (oSl (fz rPlace)) [c0] x.Places :: own (oSl oTrans) [c1] x.Trans :: Γ) h := by
  obtain ⟨b1, d1, rfl, -, -, S⟩ := St.unpair (x := (x.Places, x.Trans)) S
  obtain ⟨z0, rfl, -⟩ := S.snap (r := (oSl (fz rPlace))) (x := x.Places) (.head _)
  obtain ⟨z1, rfl, -⟩ := S.snap (r := (oSl oTrans)) (x := x.Trans) (.tail _ (.head _))
  exact ⟨z0, z1, rfl, S⟩
theorem oNet_close {g h : Heap} {M : Nat → Prop} {Γ : List Ch} {c0 c1 : AV} {x : TNet} (S : St g M (own (oSl (fz rPlace)) [c0] x.Places :: own (oSl oTrans) [c1] x.Trans :: Γ) h) : St g M (own oNet [c0, c1] x :: Γ) h := by
  exact (S.pair).iso (f := fun x : TNet => (x.Places, x.Trans)) rfl
structure TEvent where
  Time : Int
  Place : Int
  N : Int
def rEvent : Rep TEvent := rIso (rPair (rPair (rI .i64) (rI .i64)) (rI .i64)) fun x => ((x.Time, x.Place), x.N)
def oEvent : ORep TEvent := oIso (oPair (oPair (fz (rI .i64)) (fz (rI .i64))) (fz (rI .i64))) fun x => ((x.Time, x.Place), x.N)
theorem flat_Event : Flat rEvent := flat_iso (flat_pair (flat_pair (flat_I _) (flat_I _)) (flat_I _))
theorem rEvent_open {G : Hp} {cs : List AV} {x : TEvent} (h : rEvent.R G cs x) : cs = [.int .i64 x.Time, .int .i64 x.Place, .int .i64 x.N] := by
  obtain ⟨_, _, rfl, ⟨_, _, rfl, rfl, rfl⟩, rfl⟩ := h
  exact rfl
theorem rEvent_mk {G : Hp} {x : TEvent}  : rEvent.R G [.int .i64 x.Time, .int .i64 x.Place, .int .i64 x.N] x := ⟨[.int .i64 x.Time, .int .i64 x.Place], [.int .i64 x.N], rfl, ⟨[.int .i64 x.Time], [.int .i64 x.Place], rfl, rfl, rfl⟩, rfl⟩
structure TActlaw18 where
  K : Int
  A : Int
  B : Int
  E : TEvent
def rActlaw18 : Rep TActlaw18 := rIso (rPair (rPair (rPair (rI .u8) (rI .i64)) (rI .i64)) rEvent) fun x => (((x.K, x.A), x.B), x.E)
def oActlaw18 : ORep TActlaw18 := oIso (oPair (oPair (oPair (fz (rI .u8)) (fz (rI .i64))) (fz (rI .i64))) (fz rEvent)) fun x => (((x.K, x.A), x.B), x.E)
theorem flat_Actlaw18 : Flat rActlaw18 := flat_iso (flat_pair (flat_pair (flat_pair (flat_I _) (flat_I _)) (flat_I _)) flat_Event)
theorem rActlaw18_open {G : Hp} {cs : List AV} {x : TActlaw18} (h : rActlaw18.R G cs x) : cs = [.int .u8 x.K, .int .i64 x.A, .int .i64 x.B, .int .i64 x.E.Time, .int .i64 x.E.Place, .int .i64 x.E.N] := by
  obtain ⟨_, _, rfl, ⟨_, _, rfl, ⟨_, _, rfl, rfl, rfl⟩, rfl⟩, ⟨_, _, rfl, ⟨_, _, rfl, rfl, rfl⟩, rfl⟩⟩ := h
  exact rfl
theorem rActlaw18_mk {G : Hp} {x : TActlaw18}  : rActlaw18.R G [.int .u8 x.K, .int .i64 x.A, .int .i64 x.B, .int .i64 x.E.Time, .int .i64 x.E.Place, .int .i64 x.E.N] x := ⟨[.int .u8 x.K, .int .i64 x.A, .int .i64 x.B], [.int .i64 x.E.Time, .int .i64 x.E.Place, .int .i64 x.E.N], rfl, ⟨[.int .u8 x.K, .int .i64 x.A], [.int .i64 x.B], rfl, ⟨[.int .u8 x.K], [.int .i64 x.A], rfl, rfl, rfl⟩, rfl⟩, ⟨[.int .i64 x.E.Time, .int .i64 x.E.Place], [.int .i64 x.E.N], rfl, ⟨[.int .i64 x.E.Time], [.int .i64 x.E.Place], rfl, rfl, rfl⟩, rfl⟩⟩
structure TLane where
  From : Int
  To : Int
  Ahead : Int
def rLane : Rep TLane := rIso (rPair (rPair (rI .i64) (rI .i64)) (rI .i64)) fun x => ((x.From, x.To), x.Ahead)
def oLane : ORep TLane := oIso (oPair (oPair (fz (rI .i64)) (fz (rI .i64))) (fz (rI .i64))) fun x => ((x.From, x.To), x.Ahead)
theorem flat_Lane : Flat rLane := flat_iso (flat_pair (flat_pair (flat_I _) (flat_I _)) (flat_I _))
theorem rLane_open {G : Hp} {cs : List AV} {x : TLane} (h : rLane.R G cs x) : cs = [.int .i64 x.From, .int .i64 x.To, .int .i64 x.Ahead] := by
  obtain ⟨_, _, rfl, ⟨_, _, rfl, rfl, rfl⟩, rfl⟩ := h
  exact rfl
theorem rLane_mk {G : Hp} {x : TLane}  : rLane.R G [.int .i64 x.From, .int .i64 x.To, .int .i64 x.Ahead] x := ⟨[.int .i64 x.From, .int .i64 x.To], [.int .i64 x.Ahead], rfl, ⟨[.int .i64 x.From], [.int .i64 x.To], rfl, rfl, rfl⟩, rfl⟩
structure TMail where
  From : Int
  To : Int
  E : TEvent
def rMail : Rep TMail := rIso (rPair (rPair (rI .i64) (rI .i64)) rEvent) fun x => ((x.From, x.To), x.E)
def oMail : ORep TMail := oIso (oPair (oPair (fz (rI .i64)) (fz (rI .i64))) (fz rEvent)) fun x => ((x.From, x.To), x.E)
theorem flat_Mail : Flat rMail := flat_iso (flat_pair (flat_pair (flat_I _) (flat_I _)) flat_Event)
theorem rMail_open {G : Hp} {cs : List AV} {x : TMail} (h : rMail.R G cs x) : cs = [.int .i64 x.From, .int .i64 x.To, .int .i64 x.E.Time, .int .i64 x.E.Place, .int .i64 x.E.N] := by
  obtain ⟨_, _, rfl, ⟨_, _, rfl, rfl, rfl⟩, ⟨_, _, rfl, ⟨_, _, rfl, rfl, rfl⟩, rfl⟩⟩ := h
  exact rfl
theorem rMail_mk {G : Hp} {x : TMail}  : rMail.R G [.int .i64 x.From, .int .i64 x.To, .int .i64 x.E.Time, .int .i64 x.E.Place, .int .i64 x.E.N] x := ⟨[.int .i64 x.From, .int .i64 x.To], [.int .i64 x.E.Time, .int .i64 x.E.Place, .int .i64 x.E.N], rfl, ⟨[.int .i64 x.From], [.int .i64 x.To], rfl, rfl, rfl⟩, ⟨[.int .i64 x.E.Time, .int .i64 x.E.Place], [.int .i64 x.E.N], rfl, ⟨[.int .i64 x.E.Time], [.int .i64 x.E.Place], rfl, rfl, rfl⟩, rfl⟩⟩
structure TPart where
  N : Int
  Places : List Int
  Trans : List Int
def rPart : Rep TPart := rIso (rPair (rPair (rI .i64) (rSl (rI .i64))) (rSl (rI .i64))) fun x => ((x.N, x.Places), x.Trans)
def oPart : ORep TPart := oIso (oPair (oPair (fz (rI .i64)) (oSl (fz (rI .i64)))) (oSl (fz (rI .i64)))) fun x => ((x.N, x.Places), x.Trans)
theorem rPart_open {G : Hp} {cs : List AV} {x : TPart} (h : rPart.R G cs x) : ∃ c0 c1, cs = [.int .i64 x.N, c0, c1] ∧ SlR (rI .i64) G c0 x.Places ∧ SlR (rI .i64) G c1 x.Trans := by
  obtain ⟨_, _, rfl, ⟨_, _, rfl, rfl, ⟨_, rfl, h1⟩⟩, ⟨_, rfl, h2⟩⟩ := h
  exact ⟨_, _, rfl, h1, h2⟩
theorem rPart_mk {G : Hp} {x : TPart} {c0 c1 : AV} (f1 : SlR (rI .i64) G c0 x.Places) (f2 : SlR (rI .i64) G c1 x.Trans) : rPart.R G [.int .i64 x.N, c0, c1] x := ⟨[.int .i64 x.N, c0], [c1], rfl, ⟨[.int .i64 x.N], [c0], rfl, rfl, ⟨_, rfl, f1⟩⟩, ⟨_, rfl, f2⟩⟩
theorem oPart_open {g h : Heap} {M : Nat → Prop} {Γ : List Ch} {cs : List AV} {x : TPart} (S : St g M (own oPart cs x :: Γ) h) : ∃ c0 c1, cs = [.int .i64 x.N, c0, c1] ∧ St g M (own (oSl (fz (rI .i64))) [c0] x.Places :: own (oSl (fz (rI .i64))) [c1] x.Trans :: Γ) h := by
  obtain ⟨b2, d2, rfl, -, -, S⟩ := St.unpair (x := ((x.N, x.Places), x.Trans)) S
  obtain ⟨b1, d1, rfl, -, -, S⟩ := St.unpair (x := (x.N, x.Places)) S
  obtain rfl : b1 = [.int .i64 x.N] := S.fzr (r := (rI .i64)) (x := x.N) (.head _)
  have S := St.dropAt [] S
  obtain ⟨z1, rfl, -⟩ := S.snap (r := (oSl (fz (rI .i64)))) (x := x.Places) (.head _)
  obtain ⟨z2, rfl, -⟩ := S.snap (r := (oSl (fz (rI .i64)))) (x := x.Trans) (.tail _ (.head _))
  exact ⟨z1, z2, rfl, S⟩
theorem oPart_close {g h : Heap} {M : Nat → Prop} {Γ : List Ch} {c0 c1 : AV} {x : TPart} (S : St g M (own (oSl (fz (rI .i64))) [c0] x.Places :: own (oSl (fz (rI .i64))) [c1] x.Trans :: Γ) h) : St g M (own oPart [.int .i64 x.N, c0, c1] x :: Γ) h := by
  have S := St.addAt (r := (rI .i64)) (cs := [.int .i64 x.N]) (x := x.N) [] S rfl
  exact (S.pair.pair).iso (f := fun x : TPart => ((x.N, x.Places), x.Trans)) rfl
structure TBox where
  lanes : List TLane
  l : List (List TEvent)
  sent : Int
def rBox : Rep TBox := rIso (rPair (rPair (rSl rLane) (rSl (rSl rEvent))) (rI .i64)) fun x => ((x.lanes, x.l), x.sent)
def oBox : ORep TBox := oIso (oPair (oPair (oSl (fz rLane)) (oSl (oSl (fz rEvent)))) (fz (rI .i64))) fun x => ((x.lanes, x.l), x.sent)
theorem rBox_open {G : Hp} {cs : List AV} {x : TBox} (h : rBox.R G cs x) : ∃ c0 c1, cs = [c0, c1, .int .i64 x.sent] ∧ SlR rLane G c0 x.lanes ∧ SlR (rSl rEvent) G c1 x.l := by
  obtain ⟨_, _, rfl, ⟨_, _, rfl, ⟨_, rfl, h1⟩, ⟨_, rfl, h2⟩⟩, rfl⟩ := h
  exact ⟨_, _, rfl, h1, h2⟩
theorem rBox_mk {G : Hp} {x : TBox} {c0 c1 : AV} (f1 : SlR rLane G c0 x.lanes) (f2 : SlR (rSl rEvent) G c1 x.l) : rBox.R G [c0, c1, .int .i64 x.sent] x := ⟨[c0, c1], [.int .i64 x.sent], rfl, ⟨[c0], [c1], rfl, ⟨_, rfl, f1⟩, ⟨_, rfl, f2⟩⟩, rfl⟩
theorem oBox_open {g h : Heap} {M : Nat → Prop} {Γ : List Ch} {cs : List AV} {x : TBox} (S : St g M (own oBox cs x :: Γ) h) : ∃ c0 c1, cs = [c0, c1, .int .i64 x.sent] ∧ St g M (own (oSl (fz rLane)) [c0] x.lanes :: own (oSl (oSl (fz rEvent))) [c1] x.l :: Γ) h := by
  obtain ⟨b2, d2, rfl, -, -, S⟩ := St.unpair (x := ((x.lanes, x.l), x.sent)) S
  obtain ⟨b1, d1, rfl, -, -, S⟩ := St.unpair (x := (x.lanes, x.l)) S
  obtain ⟨z0, rfl, -⟩ := S.snap (r := (oSl (fz rLane))) (x := x.lanes) (.head _)
  obtain ⟨z1, rfl, -⟩ := S.snap (r := (oSl (oSl (fz rEvent)))) (x := x.l) (.tail _ (.head _))
  obtain rfl : d2 = [.int .i64 x.sent] := S.fzr (r := (rI .i64)) (x := x.sent) (.tail _ (.tail _ (.head _)))
  have S := St.dropAt [_, _] S
  exact ⟨z0, z1, rfl, S⟩
theorem oBox_close {g h : Heap} {M : Nat → Prop} {Γ : List Ch} {c0 c1 : AV} {x : TBox} (S : St g M (own (oSl (fz rLane)) [c0] x.lanes :: own (oSl (oSl (fz rEvent))) [c1] x.l :: Γ) h) : St g M (own oBox [c0, c1, .int .i64 x.sent] x :: Γ) h := by
  have S := St.addAt (r := (rI .i64)) (cs := [.int .i64 x.sent]) (x := x.sent) [own (oSl (fz rLane)) [c0] x.lanes, own (oSl (oSl (fz rEvent))) [c1] x.l] S rfl
  exact (S.pair.pair).iso (f := fun x : TBox => ((x.lanes, x.l), x.sent)) rfl
end Go.Am
