/- Law 23, plain: KeyBytes. -/
import Derived.Test.YtpobppjicoikoaaDoorUL
import Derived.Test.YtpobppjicoikoaaDoorD5
set_option linter.unusedVariables false
set_option linter.unusedSimpArgs false
namespace Go.Proofs.YtpobppjicoikoaaDoor
open Go.RowKit
open Go.Lib hiding intOf

theorem strI_list (l : List Int) : (strI l).toList = l.map fun n => UInt8.ofNat n.toNat := by unfold strI; rw [ByteArray.toList_eq]
theorem strI_size (l : List Int) : (strI l).size = l.length := by rw [← size_list, strI_list, List.length_map]
theorem u8_nat {n : Nat} (h : n < 256) : (UInt8.ofNat n).toNat = n := by
  have : (UInt8.ofNat n).toNat = n % 256 := rfl
  omega
/-- bytes that are printed -/
def PrB (l : List Int) : Prop := ∀ x ∈ l, 33 ≤ x ∧ x ≤ 126
theorem hexd_ok {n : Nat} (h : n < 16) : 33 ≤ hexd n ∧ hexd n ≤ 126 := by
  unfold hexd
  rw [digs_list]
  have : n = 0 ∨ n = 1 ∨ n = 2 ∨ n = 3 ∨ n = 4 ∨ n = 5 ∨ n = 6 ∨ n = 7 ∨ n = 8 ∨ n = 9 ∨ n = 10 ∨ n = 11 ∨ n = 12 ∨ n = 13 ∨ n = 14 ∨ n = 15 := by omega
  rcases this with rfl | rfl | rfl | rfl | rfl | rfl | rfl | rfl | rfl | rfl | rfl | rfl | rfl | rfl | rfl | rfl <;> decide
theorem enc_ok (c : UInt8) : PrB (encB c) := by
  have hc := c.toNat_lt
  unfold encB
  split
  · intro x hx
    simp only [List.mem_cons, List.not_mem_nil, or_false] at hx
    subst hx; omega
  · intro x hx
    simp only [List.mem_cons, List.not_mem_nil, or_false] at hx
    rcases hx with rfl | rfl | rfl
    · omega
    · exact hexd_ok (by omega)
    · exact hexd_ok (by omega)
/-- how many more bytes a byte takes -/
def moreB (c : UInt8) : Nat := if 33 ≤ c.toNat ∧ c.toNat ≤ 126 ∧ c.toNat ≠ 37 then 0 else 2
theorem enc_more (c : UInt8) : (encB c).length = 1 + moreB c := by unfold encB moreB; split <;> rfl
theorem encs_more : ∀ (l : List UInt8), (l.flatMap encB).length = l.length + (l.map moreB).sum
  | [] => rfl
  | c :: l => by
    have := enc_more c
    have := encs_more l
    simp only [List.flatMap_cons, List.length_append, List.length_cons, List.map_cons, List.sum_cons]; omega
theorem sum_more : ∀ (l : List UInt8), (l.map moreB).sum ≤ 2 * l.length
  | [] => by simp
  | c :: l => by
    have := sum_more l
    have : moreB c ≤ 2 := by unfold moreB; split <;> omega
    simp only [List.map_cons, List.sum_cons, List.length_cons]; omega
theorem dig1 {d : Nat} (h : d < 10) : itoaS (d : Int) = ⟨#[UInt8.ofNat (48 + d)]⟩ := by
  unfold itoaS
  rw [itoa_nat, decDigits, dif_pos h]
theorem bytes_l6 (text : ByteArray) (ht : text.size ≤ 300) : loop (fun s : Int × Int => law23_KeyBytes_l6 text s.1 s.2) (IntKind.i64.wrap (2 + (text.size : Int)), 0) = some ((2 + text.size + (text.toList.map moreB).sum : Nat) : Int) := by
  have hsz := size_list text
  rw [w64 (by omega) (by omega)]
  refine loop_eq (I := fun i s => s = (((2 + text.size + ((text.toList.take i).map moreB).sum : Nat) : Int), (i : Int))) _ text.size ?_ ?_ (by simp)
  · rintro i _ hi rfl
    left
    have hi' : i < text.toList.length := by omega
    have htl := sum_more (text.toList.take i)
    have hti : (text.toList.take i).length ≤ 300 := by rw [List.length_take]; omega
    have htk : text.toList.take (i + 1) = text.toList.take i ++ [text.toList[i]] := by rw [List.take_add_one, List.getElem?_eq_getElem hi']; rfl
    refine ⟨_, ?_, rfl⟩
    unfold law23_KeyBytes_l6 law23_KeyBytes_j5 law23_KeyBytes_j4
    rw [decide_eq_true (show (i : Int) < (text.size : Int) by omega), getI_at hi']
    simp only [cond_true, Option.bind_some]
    generalize hc : text.toList[i] = c at htk ⊢
    have hc2 := c.toNat_lt
    rw [htk, List.map_append, List.sum_append, List.map_cons, List.map_nil, List.sum_cons, List.sum_nil]
    have m2 : ¬ (33 ≤ c.toNat ∧ c.toNat ≤ 126 ∧ c.toNat ≠ 37) → moreB c = 2 := fun h => if_neg h
    have m0 : (33 ≤ c.toNat ∧ c.toNat ≤ 126 ∧ c.toNat ≠ 37) → moreB c = 0 := fun h => if_pos h
    generalize ((text.toList.take i).map moreB).sum = S at htl ⊢
    by_cases h1 : (c.toNat : Int) < 33
    · rw [decide_eq_true h1, m2 (by omega), cond_true, w64 (by omega) (by omega), w64 (by omega) (by omega)]
      congr 3
    · rw [decide_eq_false h1, cond_false]
      by_cases h2 : (126 : Int) < (c.toNat : Int)
      · rw [decide_eq_true h2, m2 (by omega), cond_true, w64 (by omega) (by omega), w64 (by omega) (by omega)]
        congr 3
      · rw [decide_eq_false h2, cond_false]
        by_cases h3 : c.toNat = 37
        · rw [show ((c.toNat : Int) == 37) = true by rw [beq_iff_eq]; omega, m2 (by omega), cond_true, w64 (by omega) (by omega), w64 (by omega) (by omega)]
          congr 3
        · rw [show ((c.toNat : Int) == 37) = false by rw [beq_eq_false_iff_ne]; omega, m0 (by omega), cond_false, w64 (by omega) (by omega)]
          congr 3
  · rintro _ rfl
    unfold law23_KeyBytes_l6
    rw [decide_eq_false (show ¬ (text.size : Int) < (text.size : Int) by omega), ← hsz, List.take_length]
    rfl
theorem bytes_is (kind : Int) (text : ByteArray) : law23_KeyBytes kind text = some true := by
  have key : Ok (law23_KeyBytes kind text) fun b => b = true := by
    unfold law23_KeyBytes
    rw [law23_awake_is]
    refine Ok.cond (fun _ => Ok.ret rfl) fun h1 => ?_
    have ht : text.size ≤ 300 := by have := of_decide_eq_false h1; omega
    have hsz := size_list text
    obtain ⟨m, hm, em⟩ := mod_is kind (m := 8) (by omega) (by omega)
    rw [show mill_Mod kind 8 = some (m : Int) from em, Option.bind_some, w64 (by omega) (by omega), show (2 + (m : Int)) = ((2 + m : Nat) : Int) by omega]
    have hv : key_Valid ⟨((2 + m : Nat) : Int), text⟩ = some true := by
      unfold key_Valid key_Valid_j2 key_language key_language_j1 key_Valid_j1
      rw [toy_is, decide_eq_false (by simp only; omega)]
      simp only [Option.bind_some, cond_false]
      rw [show (((2 + m : Nat) : Int) == 1) = false by rw [beq_eq_false_iff_ne]; omega, show (((2 + m : Nat) : Int) == 21) = false by rw [beq_eq_false_iff_ne]; omega, decide_eq_true (show (1 : Int) ≤ ((2 + m : Nat) : Int) by omega), decide_eq_true (show ((2 + m : Nat) : Int) ≤ 22 by omega), decide_eq_true (show (text.size : Int) ≤ 1073741824 by omega)]
      rfl
    rw [print_is hv (by simp only; omega) (by simp only; omega), Option.bind_some, bytes_l6 text ht, Option.bind_some]
    have hpre : itoaS ((2 + m : Nat) : Int) ++ ByteArray.mk #[58] = ⟨#[UInt8.ofNat (48 + (2 + m)), 58]⟩ := by
      rw [dig1 (by omega)]
      apply ByteArray.ext
      rw [ByteArray.data_append]; rfl
    have hout : outK ⟨((2 + m : Nat) : Int), text⟩ = ((50 + m : Nat) : Int) :: 58 :: text.toList.flatMap encB := by
      unfold outK
      simp only
      rw [hpre]
      unfold bytesI
      rw [ByteArray.toList_eq]
      simp only [List.map_cons, List.map_nil, List.cons_append, List.nil_append]
      rw [u8_nat (by omega)]
      congr 2; omega
    have hpr : PrB (outK ⟨((2 + m : Nat) : Int), text⟩) := by
      rw [hout]
      intro x hx
      rcases List.mem_cons.1 hx with rfl | hx
      · omega
      · rcases List.mem_cons.1 hx with rfl | hx
        · omega
        · obtain ⟨c, _, h⟩ := List.mem_flatMap.1 hx
          exact enc_ok c x h
    have hlen : (outK ⟨((2 + m : Nat) : Int), text⟩).length = 2 + text.size + (text.toList.map moreB).sum := by
      have := encs_more text.toList
      rw [hout]; simp only [List.length_cons]; omega
    have hsm := sum_more text.toList
    have hsl : (strI (outK ⟨((2 + m : Nat) : Int), text⟩)).toList.length = (outK ⟨((2 + m : Nat) : Int), text⟩).length := by rw [size_list, strI_size]
    unfold law23_KeyBytes_j3
    rw [strI_size, hlen, show (((2 + text.size + (text.toList.map moreB).sum : Nat) : Int) != ((2 + text.size + (text.toList.map moreB).sum : Nat) : Int)) = false from bne_self_eq_false _, cond_false]
    have g0 : getI (strI (outK ⟨((2 + m : Nat) : Int), text⟩)).toList 0 = some (UInt8.ofNat (50 + m)) := by
      rw [strI_list, hout]; rfl
    have g1 : getI (strI (outK ⟨((2 + m : Nat) : Int), text⟩)).toList 1 = some 58 := by
      rw [strI_list, hout]; rfl
    rw [g1, g0]
    simp only [Option.bind_some]
    rw [show ((((58 : UInt8).toNat : Nat) : Int) != 58) = false from rfl, cond_false, u8_nat (by omega), IntKind.wrap_u8, w64 (by omega) (by omega), w64 (by omega) (by omega)]
    rw [show ((((50 + m : Nat) : Int) - 48) % 256 != 2 + (m : Int)) = false by simp only [bne, Bool.not_eq_false', beq_iff_eq]; omega, cond_false]
    refine Ok.loop (fun i s => s = (i : Int)) (fun r => r = Fl.go ()) (outK ⟨((2 + m : Nat) : Int), text⟩).length rfl (fun i s hi hI => ?_) (fun r hr => ?_)
    · subst hI
      unfold law23_KeyBytes_l2
      refine Ok.cond (fun e => ?_) (fun e => Ok.ret rfl)
      have e : i < (outK ⟨((2 + m : Nat) : Int), text⟩).length := by have := of_decide_eq_true e; rw [strI_size] at this; omega
      have hx := hpr _ (List.getElem_mem e)
      have hg : getI (strI (outK ⟨((2 + m : Nat) : Int), text⟩)).toList (i : Int) = some (UInt8.ofNat ((outK ⟨((2 + m : Nat) : Int), text⟩)[i]).toNat) := by
        rw [getI_at (by rw [hsl]; exact e)]
        congr 1
        simp only [strI_list, List.getElem_map]
      rw [hg]
      simp only [Option.bind_some]
      rw [u8_nat (by omega), decide_eq_false (by omega), decide_eq_false (by omega)]
      exact Ok.ret ⟨e, w64 (by omega) (by omega)⟩
    · subst hr
      simp only [Fl.el]
      unfold law23_KeyBytes_j1
      rw [law23_awake_is]
      exact Ok.ret rfl
  obtain ⟨b, e, rfl⟩ := key
  exact e
end Go.Proofs.YtpobppjicoikoaaDoor
