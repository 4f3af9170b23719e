/- Law 26, plain: RecordReaders. -/
import Derived.Test.YtjoilbmkcknnfaaDoorY5
import Derived.Test.YtjoilbmkcknnfaaDoorE5
set_option linter.unusedVariables false
set_option linter.unusedSimpArgs false
namespace Go.Proofs.YtjoilbmkcknnfaaDoor
open Go.RowKit
open Go.Lib hiding intOf

def hasK (k : KeyD) (r : RecordD) : Bool := r.Reads.any fun x => keqB k x
theorem contains_is {s : List KeyD} (h : Rm s.length) (k : KeyD) : contains_Key s k = some (s.any fun x => keqB k x) := by
  unfold Rm at h
  unfold contains_Key index_Key
  have key := loop_first (B := fun t : Int => index_Key_l2 s k t) (xs := s) (fun x => keqB k x) (fun i => (i : Int)) (s0 := 0) rfl (y := fun i _ => Fl.out (i : Int)) (n := Fl.go ()) (fun i x hx hp => by
      unfold index_Key_l2
      rw [dlt_of hx, cond_true, getI_nat, hx, Option.bind_some, winc (by have := lt_of_get hx; omega)]
      show cond (keqB k x) _ _ = _
      rw [hp]; rfl) (fun i x hx hp => by
      unfold index_Key_l2
      rw [dlt_of hx, cond_true, getI_nat, hx, Option.bind_some]
      show cond (keqB k x) _ _ = _
      rw [hp]; rfl) (by
      unfold index_Key_l2
      rw [dlt_end]; rfl)
  rcases key with ⟨i, x, h1, h2, h3, h4⟩ | ⟨h1, h2⟩
  · rw [h4, List.any_eq_true.2 ⟨x, List.mem_of_getElem? h1, h2⟩]
    simp [Fl.el]
  · rw [h2, List.any_eq_false.2 fun x hx => by rw [h1 x hx]; simp]
    rfl
def readersL (l : List RecordD) (k : KeyD) : List KeyD := (l.filter (hasK k)).map (·.Key)
theorem readers_is {l : List RecordD} (h : RmL l) (k : KeyD) : record_Readers l k = some (readersL l k) := by
  have hl := h.1
  unfold Rm at hl
  unfold record_Readers
  refine bind_to (loop_gather (xs := l) (fun i => (readersL (l.take i) k, (i : Int))) rfl (r := readersL l k) (fun i x hx => ?_) ?_) rfl
  · have hi := lt_of_get hx
    unfold record_Readers_l3 record_Readers_j2
    dsimp only
    rw [dlt_of hx, cond_true, getI_nat, hx, Option.bind_some, contains_is (h.2 x (List.mem_of_getElem? hx)), Option.bind_some, winc (by omega)]
    have hr : roomB ((readersL (l.take i) k).length + [x.Key].length) = true := room (by
      have := filter_take_len (hasK k) l i
      unfold readersL; simp only [List.length_cons, List.length_nil, List.length_map]; omega)
    rw [hr]
    unfold readersL
    rw [take_snoc' hx, List.filter_append]
    show cond (hasK k x) _ _ = _
    cases h : hasK k x <;> simp [gd, h]
  · unfold record_Readers_l3
    dsimp only
    rw [dlt_end, List.take_length]; rfl
theorem filter_get {α : Type} {p : α → Bool} {xs : List α} {k : Nat} {x : α} (h : xs[k]? = some x) (hp : p x = true) : (xs.filter p)[((xs.take k).filter p).length]? = some x := by
  obtain ⟨h1, h2⟩ := List.getElem?_eq_some_iff.1 h
  have e : xs = xs.take k ++ x :: xs.drop (k + 1) := by rw [← h2]; simp
  have e2 : xs.filter p = (xs.take k).filter p ++ x :: (xs.drop (k + 1)).filter p := by
    conv => lhs; rw [e]
    rw [List.filter_append, List.filter_cons_of_pos hp]
  rw [e2]; simp
theorem size_is {r : RecordD} (h : GoodR r) (rs : List KeyD) (hr : rs.length ≤ 100) : record_Size ⟨r.Key, r.Value, rs, r.Changed, r.Verified, r.Cost, r.Dirty⟩ = some (16 + (r.Key.Text.size : Int) + r.Value.size + 8 * rs.length) := by
  have h1 := h.text
  have h2 := h.value
  unfold record_Size
  dsimp only
  rw [wrap_small (z := 16 + _) (by omega) (by omega), wrap_small (z := 8 * _) (by omega) (by omega), wrap_small (z := 16 + _ + _) (by omega) (by omega), wrap_small (by omega) (by omega)]
theorem readers_law (t : List Int) (n : Int) : law26_RecordReaders t n = some true := by
  have key : Ok (law26_RecordReaders t n) fun b => b = true := by
    unfold law26_RecordReaders
    rw [light_is, Option.bind_some]
    refine Ok.cond (fun _ => by rw [law26_awake_is]; exact Ok.ret rfl) (fun e => ?_)
    have ht : t.length ≤ 400 := by simpa using e
    rw [roll_is, Option.bind_some]
    refine Ok.bind (some_ok ⟨by simp, by simp, ht⟩) fun u hu => ?_
    obtain ⟨m, hm, em⟩ := mod_is n (m := 4) (by omega) (by omega)
    rw [show mill_Mod n 4 = some (m : Int) from em, Option.bind_some, ref23_cell (by omega), Option.bind_some]
    obtain ⟨l, hle⟩ : ∃ l, l = u.1 := ⟨_, rfl⟩
    obtain ⟨k, hk⟩ : ∃ k, k = cellK m := ⟨_, rfl⟩
    have hg : GoodL l 6 := by rw [hle]; exact hu.1
    have hlen := hg.len
    rw [← hle, ← hk, readers_is (hg.rm (by omega)), Option.bind_some]
    have inner : ∀ x ∈ l, (loop (fun s : Bool × Int => law26_RecordReaders_l7 k x s.1 s.2) (false, 0)) = some (hasK k x) := fun x hx => by
      have hx10 := (hg.good x hx).reads
      refine loop_gather (xs := x.Reads) (fun i => (((x.Reads.take i).any fun y => keqB k y), (i : Int))) rfl (fun i y hy => ?_) ?_
      · have hi := lt_of_get hy
        unfold law26_RecordReaders_l7
        dsimp only
        rw [dlt_of hy, cond_true, getI_nat, hy, Option.bind_some, winc (by omega), take_snoc' hy, List.any_append]
        cases h : (x.Reads.take i).any fun y => keqB k y
        · rw [cond_false, Bool.false_or]
          show some (Fl.go (keqB y k, _)) = _
          rw [keqB_comm]; simp
        · rfl
      · unfold law26_RecordReaders_l7
        dsimp only
        rw [dlt_end, List.take_length]; rfl
    rw [show u = (l, u.2) by rw [hle]]
    have fin : (loop (fun s : Int × Int => law26_RecordReaders_l8 (l, u.2) k (readersL l k) s.1 s.2) (0, 0)) = some (.go (((l.filter (hasK k)).length : Nat) : Int)) := by
      refine loop_gather (xs := l) (fun i => ((((l.take i).filter (hasK k)).length : Int), (i : Int))) rfl (fun i x hx => ?_) ?_
      · have hi := lt_of_get hx
        have hm := List.mem_of_getElem? hx
        have gx := hg.good x hm
        have gr := gx.reads
        unfold law26_RecordReaders_l8
        dsimp only
        rw [dlt_of hx, cond_true, getI_nat, hx, Option.bind_some, inner x hm, Option.bind_some]
        have j5 : ∀ i' : Int, law26_RecordReaders_j5 k (i : Int) x i' = some (.go (i', ((i + 1 : Nat) : Int))) := fun i' => by
          unfold law26_RecordReaders_j5
          rw [show roomB (([] : List KeyD).length + x.Reads.length) = true from room (by simp; omega), show roomB ((([] : List KeyD) ++ x.Reads).length + [k].length) = true from room (by simp; omega)]
          simp only [gd, cond_true]
          unfold law26_RecordReaders_j4 law26_RecordReaders_j3
          have e1 : record_Size x = some (16 + (x.Key.Text.size : Int) + x.Value.size + 8 * x.Reads.length) := size_is gx x.Reads (by omega)
          rw [size_is gx _ (by simp; omega), e1, winc (by omega)]
          simp only [Option.bind_some]
          have q1 := gx.text
          have q2 := gx.value
          rw [wrap_small (by omega) (by omega)]
          have e2 : ((16 + (x.Key.Text.size : Int) + x.Value.size + 8 * ((([] : List KeyD) ++ x.Reads ++ [k]).length : Int)) != (16 + (x.Key.Text.size : Int) + x.Value.size + 8 * x.Reads.length + 8)) = false := by
            simp; omega
          rw [e2]; rfl
        unfold law26_RecordReaders_j6
        rw [take_snoc' hx, List.filter_append]
        cases h : hasK k x
        · rw [cond_false, j5]; simp [h]
        · have hf := filter_get hx h
          have hlt := lt_of_get hf
          have hfl := filter_take_len (hasK k) l i
          rw [cond_true, decide_eq_false (by unfold readersL; rw [List.length_map]; omega), cond_false, getI_nat]
          unfold readersL
          rw [List.getElem?_map, hf]
          simp only [Option.map_some, Option.bind_some]
          rw [show (!(x.Key.Kind == x.Key.Kind && x.Key.Text.toList == x.Key.Text.toList)) = false by simp, cond_false, j5, winc (by omega)]
          simp [h]
      · unfold law26_RecordReaders_l8
        dsimp only
        rw [dlt_end, List.take_length]; rfl
    rw [fin, Option.bind_some]
    simp only [Fl.el]
    unfold law26_RecordReaders_j2 law26_RecordReaders_j1 readersL
    rw [List.length_map, beq_self_eq_true, cond_true, law26_awake_is]
    exact Ok.ret rfl
  obtain ⟨b, e, rfl⟩ := key
  exact e
end Go.Proofs.YtjoilbmkcknnfaaDoor
