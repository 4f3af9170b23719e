/- Records, plain: readers. -/
import Derived.Test.YtjoilbmkcknnfaaDoorY4
set_option linter.unusedVariables false
set_option linter.unusedSimpArgs false
namespace Go.Proofs.YtjoilbmkcknnfaaDoor
open Go.RowKit
open Go.Lib hiding intOf

def hasK (k : KeyD) (r : RecordD) : Bool := r.Reads.any fun x => keqB k x
theorem contains_is {s : List KeyD} (h : Rm s.length) (k : KeyD) : contains_Key s k = some (s.any fun x => keqB k x) := by
  unfold Rm at h
  unfold contains_Key index_Key
  have key := loop_first (B := fun t : Int => index_Key_l2 s k t) (xs := s) (fun x => keqB k x) (fun i => (i : Int)) (s0 := 0) rfl (y := fun i _ => Fl.out (i : Int)) (n := Fl.go ()) (fun i x hx hp => by
      unfold index_Key_l2
      rw [dlt_of hx, cond_true, getI_nat, hx, Option.bind_some, winc (by have := lt_of_get hx; omega)]
      show cond (keqB k x) _ _ = _
      rw [hp]; rfl) (fun i x hx hp => by
      unfold index_Key_l2
      rw [dlt_of hx, cond_true, getI_nat, hx, Option.bind_some]
      show cond (keqB k x) _ _ = _
      rw [hp]; rfl) (by
      unfold index_Key_l2
      rw [dlt_end]; rfl)
  rcases key with ⟨i, x, h1, h2, h3, h4⟩ | ⟨h1, h2⟩
  · rw [h4, List.any_eq_true.2 ⟨x, List.mem_of_getElem? h1, h2⟩]
    simp [Fl.el]
  · rw [h2, List.any_eq_false.2 fun x hx => by rw [h1 x hx]; simp]
    rfl
def readersL (l : List RecordD) (k : KeyD) : List KeyD := (l.filter (hasK k)).map (·.Key)
theorem readers_is {l : List RecordD} (h : RmL l) (k : KeyD) : record_Readers l k = some (readersL l k) := by
  have hl := h.1
  unfold Rm at hl
  unfold record_Readers
  refine bind_to (loop_gather (xs := l) (fun i => (readersL (l.take i) k, (i : Int))) rfl (r := readersL l k) (fun i x hx => ?_) ?_) rfl
  · have hi := lt_of_get hx
    unfold record_Readers_l3 record_Readers_j2
    dsimp only
    rw [dlt_of hx, cond_true, getI_nat, hx, Option.bind_some, contains_is (h.2 x (List.mem_of_getElem? hx)), Option.bind_some, winc (by omega)]
    have hr : roomB ((readersL (l.take i) k).length + [x.Key].length) = true := room (by
      have := filter_take_len (hasK k) l i
      unfold readersL; simp only [List.length_cons, List.length_nil, List.length_map]; omega)
    rw [hr]
    unfold readersL
    rw [take_snoc' hx, List.filter_append]
    show cond (hasK k x) _ _ = _
    cases h : hasK k x <;> simp [gd, h]
  · unfold record_Readers_l3
    dsimp only
    rw [dlt_end, List.take_length]; rfl
end Go.Proofs.YtjoilbmkcknnfaaDoor
