/- MatchMeans: the pure half. -/
import Derived.Test.YtgdnagncjlajnaaDoorPAllx6
import Derived.Test.YtgdnagncjlajnaaDoorPureParts
namespace Go.Proofs.YtgdnagncjlajnaaDoor.Pure
open Go.RowKit Go.Proofs.YtgdnagncjlajnaaDoor.PAll Go.Proofs.YtgdnagncjlajnaaDoorW.PrintWords Go.Proofs.YtgdnagncjlajnaaDoorW.PrintLast

theorem MatchMeans (w : Bool) (l : List S28) (s : ByteArray) : ∃ k, eponymlaw18_MatchMeans.f k w l s = some true := by
  refine Ev.rounds ?_
  unfold eponymlaw18_MatchMeans.f
  refine Ev.bind awake_ev ?_
  simp only [if_true]
  have fin : Ev (fun K => eponymlaw18_MatchMeans.j0 K s true w l) true := by
    refine Ev.step (fun K => by rw [eponymlaw18_MatchMeans.j0]) ?_
    simp only [if_true]
    exact Ev.now _
  by_cases c1 : l.length ≤ 10
  · simp only [show ¬ ((l.length : Int) > 10) from by omega, if_false]
    by_cases c2 : s.size ≤ 60
    · simp only [show ¬ ((s.size : Int) > 60) from by omega, decide_false]
      refine Ev.step (fun K => by rw [eponymlaw18_MatchMeans.j0]) ?_
      simp only [Bool.false_eq_true, if_false]
      obtain ⟨t, _, h1, h2⟩ := means_is w l s (by omega) (by omega)
      have rounds : ∀ d i, i + d = l.length → Ev (fun K => eponymlaw18_MatchMeans.l0 K s (i : Int) w l) true := by
        intro d
        induction d with
        | zero =>
          intro i hi
          refine Ev.step (fun K => by rw [eponymlaw18_MatchMeans.l0]) ?_
          simp only [show ¬ ((i : Int) < (l.length : Int)) from by omega, if_false]
          refine Ev.bind h1 (Ev.bind h2 ?_)
          simp only [beq_self_eq_true]
          exact Ev.now _
        | succ d ih =>
          intro i hi
          refine Ev.step (fun K => by rw [eponymlaw18_MatchMeans.l0]) ?_
          simp only [show ((i : Int) < (l.length : Int)) from by omega, show (0 ≤ (i : Int)) from by omega, if_true, piece_is, piece_ref, Option.bind_some, bne_self_eq_false, Bool.false_eq_true, if_false]
          rw [w64 (by omega) (by omega)]
          exact ih (i + 1) (by omega)
      exact rounds l.length 0 (by omega)
    · simp only [show ((s.size : Int) > 60) from by omega, decide_true]
      exact fin
  · simp only [show ((l.length : Int) > 10) from by omega, if_true]
    exact fin
end Go.Proofs.YtgdnagncjlajnaaDoor.Pure
