/- depotlaw13.SpathParses answers true for every path and base: Parse, Base and Full are the document's. No condition. -/
import Derived.Test.YtglhbbijoeeclaaQ28
import Derived.Test.YtglhbbijoeeclaaSpathParse
set_option linter.unusedVariables false
set_option linter.unusedSimpArgs false
namespace Go.Proofs.Ytglhbbijoeeclaa.Pure
open Go.RowKit Go.Proofs.Ytglhbbijoeeclaa.Q Go.Proofs.YtglhbbijoeeclaaW.PrintWords Go.Proofs.YtglhbbijoeeclaaW.PrintLast Go.Proofs.YtglhbbijoeeclaaW.PrintMore Go.Proofs.Ytglhbbijoeeclaa.Bytes Go.Proofs.Ytglhbbijoeeclaa.Evs Go.Proofs.Ytglhbbijoeeclaa.SpathPure

namespace Parses
theorem big (s : ByteArray) (h : (parseB s).2.2 = 0) : 46 ≤ (bs s).length := by
  unfold parseB at h
  by_cases hp : isPath0 (bs s)
  · exact hp.2.1
  · rw [if_neg hp] at h
    exact absurd h (by decide)
theorem base (s : ByteArray) (hs : (bs s).length ≤ 140737488355000) : Ev (fun k => spath_Base.f k s) (if (parseB s).2.2 = 0 then (s.extract 13 s.size, 0) else (⟨#[]⟩, (parseB s).2.2)) := by
  unfold spath_Base.f
  refine Ev.bind (prog_parse s hs) ?_
  by_cases h : (parseB s).2.2 = 0
  · have := big s h
    exact pos h (pos (by rw [size_bs]; omega) (same (if_pos h) (Ev.now _)))
  · exact neg h (same (if_neg h) (Ev.now _))
theorem size_app (a b : ByteArray) : (a ++ b).size = a.size + b.size := by rw [size_bs, size_bs, size_bs, bs_append, List.length_append]
theorem full (s : ByteArray) (hs : (bs s).length ≤ 140737488351232) : Ev (fun k => spath_Full.f k s) (if (parseB (DIR ++ s)).2.2 = 0 then (DIR ++ s, 0) else (⟨#[]⟩, (parseB (DIR ++ s)).2.2)) := by
  unfold spath_Full.f
  have z : (bs DIR).length = 13 := rfl
  refine pos (by rw [size_bs]; omega) (Ev.bind (prog_parse (DIR ++ s) (by rw [bs_append, List.length_append]; omega)) ?_)
  by_cases h : (parseB (DIR ++ s)).2.2 = 0
  · exact pos h (same (if_pos h) (Ev.now _))
  · exact neg h (same (if_neg h) (Ev.now _))
end Parses
open Parses in
theorem SpathParses : depotlaw13_SpathParses.Pure := by
  intro a b ha hb
  rw [size_bs] at ha hb
  apply Ev.rounds
  unfold depotlaw13_SpathParses.f
  refine Ev.bind awake (pos rfl (Ev.bind (prog_parse a (by omega)) (Ev.bind (ref_parse a (by omega)) (pos rfl (pos rfl ?_)))))
  refine succ ?_
  simp only [depotlaw13_SpathParses.j0]
  refine neg (by simp) (Ev.bind (base a (by omega)) ?_)
  have z : (bs DIR).length = 13 := rfl
  have j1 : Ev (fun k => depotlaw13_SpathParses.j1 k b false) true := by
    refine succ ?_
    simp only [depotlaw13_SpathParses.j1]
    refine neg (by decide) (Ev.bind (full b hb) (pos (by rw [size_bs]; omega) (Ev.bind (ref_parse (DIR ++ b) (by rw [bs_append, List.length_append]; omega)) ?_)))
    by_cases h : (parseB (DIR ++ b)).2.2 = 0
    · rw [if_pos h]
      refine pos h.symm (pos h (same ?_ (Ev.now _)))
      symm
      rw [beq_iff_eq]
      rfl
    · rw [if_neg h]
      exact pos rfl (neg h (pos (by rw [toList_bs]; rfl) (Ev.now _)))
  by_cases h : (parseB a).2.2 = 0
  · have := big a h
    rw [if_pos h]
    refine pos h.symm (pos h (pos (by rw [size_bs]; omega) ?_))
    rw [bne_self_eq_false]
    exact j1
  · rw [if_neg h]
    exact pos rfl (neg h (pos (by rw [toList_bs]; rfl) j1))
end Go.Proofs.Ytglhbbijoeeclaa.Pure
