/-
  A cell of a row of events set anew: the list with one event changed.
  Conditions: none.
-/
import Derived.Test.YtgbiodnfpbhjiaaGreatDoorWalkEe
import Derived.Laws.OwnMore
namespace Go.Proofs.YtgbiodnfpbhjiaaGreatDoor
open Go.RowKit Go.Lib
set_option linter.unusedSimpArgs false
set_option linter.unusedVariables false
theorem eflat_cons (e:Ev) (es:List Ev):eflat (e :: es)=e.cells ++ eflat es:=rfl
theorem eflat_set:∀ (es:List Ev) (i:Nat) (hi:i<es.length) (j:Nat) (u:Value) (e':Ev),j<8→e'.cells=es[i].cells.set j u→(eflat es).set (i * 8+j) u=eflat (es.set i e')
 | x :: es,0,hi,j,u,e',hj,hc=>by
  have hl:x.cells.length=8:=rfl
  rw [eflat_cons,List.set_cons_zero,eflat_cons,List.set_append_left _ _ (by omega),hc]
  simp
 | x :: es,i+1,hi,j,u,e',hj,hc=>by
  have hl:x.cells.length=8:=rfl
  rw [eflat_cons,List.set_cons_succ,eflat_cons,List.set_append_right _ _ (by omega),← eflat_set es i (by simpa using hi) j u e' hj hc]
  rw [show (i+1) * 8+j - x.cells.length=i * 8+j by omega]
theorem row_set {w:World} {base g cap:Nat} {es:List Ev} (h:w.ownsRow base 30 8 (.slice (some ⟨g,0,none⟩) es.length cap) es.length (eflat es)) (i:Nat) (hi:i<es.length) (j:Nat) (hj:j<8) (u:Value) (e':Ev) (hc:e'.cells=es[i].cells.set j u) :
  (w.setCell ⟨g,i * 8+j,none⟩ u).ownsRow base 30 8 (.slice (some ⟨g,0,none⟩) (es.set i e').length cap) (es.set i e').length (eflat (es.set i e'))∧w.grownBy (w.setCell ⟨g,i * 8+j,none⟩ u) (some g):=by
 have:=h.stored (i * 8+j) u
 rw [eflat_set es i hi j u e' hj hc] at this
 rw [List.length_set]
 exact this
end Go.Proofs.YtgbiodnfpbhjiaaGreatDoor
