/- Keys, plain: their texts; law 23's check of itself. -/
import Derived.Test.YtjoilbmkcknnfaaDoorUK
import Derived.Test.YtjoilbmkcknnfaaDoorD2
set_option linter.unusedVariables false
set_option linter.unusedSimpArgs false
namespace Go.Proofs.YtjoilbmkcknnfaaDoor
open Go.RowKit
open Go.Lib hiding intOf

theorem beq_dec (a b : Int) : (a == b) = decide (a = b) := by by_cases h : a = b <;> simp [h]
theorem valid_eq {k : KeyD} (hs : k.Text.size ≤ 140737488355328) : ∃ b, key_Valid k = some b ∧ ref23_Valid k = some b := by
  by_cases h : 30 ≤ k.Kind ∧ k.Kind ≤ 32
  · refine ⟨decide (0 ≤ numK k), ?_, ?_⟩
    · unfold key_Valid
      rw [toy_is, decide_eq_true h, key_number hs]
      rfl
    · unfold ref23_Valid ref23_Valid_j2
      rw [decide_eq_true h.1, decide_eq_true h.2]
      simp only [cond_true]
      rw [show (KeyD.mk k.Kind k.Text) = k from rfl, ref_number]
      rfl
  · have e2 : ref23_Valid k = ref23_Valid_j2 k false k.Kind := by
      unfold ref23_Valid
      by_cases h1 : 30 ≤ k.Kind
      · rw [decide_eq_true h1, cond_true, decide_eq_false (fun h2 => h ⟨h1, h2⟩)]
      · rw [decide_eq_false h1, cond_false]
    rw [e2]
    unfold key_Valid ref23_Valid_j2 key_Valid_j2 key_language key_language_j1 key_Valid_j1 ref23_Valid_j1
    rw [toy_is, decide_eq_false h]
    simp only [Option.bind_some, cond_false]
    by_cases h1 : 1 ≤ k.Kind <;> by_cases h2 : k.Kind ≤ 22 <;> by_cases h3 : (k.Text.size : Int) ≤ 1073741824 <;> by_cases h4 : k.Kind = 1 <;> by_cases h5 : k.Kind = 21 <;>
      cases h6 : (k.Text.toList == (ByteArray.mk #[]).toList) <;> simp [h1, h2, h3, h4, h5, beq_dec, bne]
theorem input_eq (k : KeyD) : key_Input k = ref23_Input k := rfl
theorem input_some (k : KeyD) : ∃ b, ref23_Input k = some b := by
  unfold ref23_Input ref23_Input_j1
  cases (k.Kind == 1) <;> cases (k.Kind == 2) <;> exact ⟨_, rfl⟩
theorem cyclic_eq (k : KeyD) : ∃ b, key_Cyclic k = some b ∧ ref23_Cyclic k = some b := by
  unfold key_Cyclic ref23_Cyclic key_language queries_Cyclic ref22_Cyclic key_language_j1 key_Cyclic_j1 ref23_Cyclic_j1 queries_Cyclic_j2 queries_Cyclic_j1 ref22_Cyclic_j1
  by_cases h1 : 1 ≤ k.Kind <;> by_cases h2 : k.Kind ≤ 22 <;> by_cases h3 : k.Kind = 32 <;> by_cases h4 : k.Kind = 7 <;> by_cases h5 : k.Kind = 14 <;> by_cases h6 : k.Kind = 17 <;> by_cases h7 : k.Kind = 18 <;> simp [h1, h2, h3, h4, h5, h6, h7, beq_dec]

/-- how a byte is written -/
def hexd (n : Nat) : Int := (((ByteArray.mk #[48, 49, 50, 51, 52, 53, 54, 55, 56, 57, 65, 66, 67, 68, 69, 70]).toList.getD n 0).toNat : Int)
def encB (c : UInt8) : List Int := if 33 ≤ c.toNat ∧ c.toNat ≤ 126 ∧ c.toNat ≠ 37 then [(c.toNat : Int)] else [37, hexd (c.toNat / 16), hexd (c.toNat % 16)]
theorem digs_list : (ByteArray.mk #[48, 49, 50, 51, 52, 53, 54, 55, 56, 57, 65, 66, 67, 68, 69, 70]).toList = [48, 49, 50, 51, 52, 53, 54, 55, 56, 57, 65, 66, 67, 68, 69, 70] := by rw [ByteArray.toList_eq]
theorem hex_get {n : Nat} (h : n < 16) : ∃ c : UInt8, getI (ByteArray.mk #[48, 49, 50, 51, 52, 53, 54, 55, 56, 57, 65, 66, 67, 68, 69, 70]).toList (n : Int) = some c ∧ (c.toNat : Int) = hexd n := by
  have hl : n < (ByteArray.mk #[48, 49, 50, 51, 52, 53, 54, 55, 56, 57, 65, 66, 67, 68, 69, 70]).toList.length := by rw [digs_list]; exact h
  refine ⟨_, getI_at hl, ?_⟩
  unfold hexd
  rw [List.getD_eq_getElem?_getD, List.getElem?_eq_getElem hl]; rfl
theorem plain_is (c : UInt8) : key_plain (c.toNat : Int) = some (decide (33 ≤ c.toNat ∧ c.toNat ≤ 126 ∧ c.toNat ≠ 37)) := by
  unfold key_plain key_plain_j1
  have e1 : decide ((33 : Int) ≤ (c.toNat : Int)) = decide (33 ≤ c.toNat) := by congr 1; exact propext ⟨fun h => by omega, fun h => by omega⟩
  have e2 : decide ((c.toNat : Int) ≤ 126) = decide (c.toNat ≤ 126) := by congr 1; exact propext ⟨fun h => by omega, fun h => by omega⟩
  have e3 : ((c.toNat : Int) != 37) = decide (c.toNat ≠ 37) := by by_cases h : c.toNat = 37 <;> simp [h]; omega
  rw [e1, e2, e3]
  by_cases h1 : 33 ≤ c.toNat <;> by_cases h2 : c.toNat ≤ 126 <;> by_cases h3 : c.toNat = 37 <;> simp [h1, h2, h3]
theorem nib (c : UInt8) : shrI .u8 (c.toNat : Int) 4 = ((c.toNat / 16 : Nat) : Int) ∧ ibit .and .u8 (c.toNat : Int) 15 = ((c.toNat % 16 : Nat) : Int) := by
  have hc := c.toNat_lt
  refine ⟨?_, ?_⟩
  · unfold shrI
    rw [show (2 : Int) ^ (min (4 : Int).toNat IntKind.u8.bits) = 16 from rfl, Int.fdiv_eq_ediv_of_nonneg _ (by omega)]
    omega
  · unfold ibit
    simp only [show IntKind.u8.bits = 8 from rfl]
    rw [BitVec.toNat_and, BitVec.toNat_ofInt, BitVec.toNat_ofInt, show ((c.toNat : Int) % ((2 ^ IntKind.u8.bits : Nat) : Int)).toNat = c.toNat by rw [show IntKind.u8.bits = 8 from rfl]; omega, show ((15 : Int) % ((2 ^ IntKind.u8.bits : Nat) : Int)).toNat = 15 from rfl]
    rw [show (15 : Nat) = 2 ^ 4 - 1 from rfl, Nat.and_two_pow_sub_one_eq_mod, IntKind.wrap_u8]
    omega
/-- what a key's text is -/
noncomputable def outK (k : KeyD) : List Int := bytesI (itoaS k.Kind ++ ByteArray.mk #[58]) ++ k.Text.toList.flatMap encB
theorem enc_len (c : UInt8) : (encB c).length ≤ 3 := by unfold encB; split <;> simp
theorem encs_len : ∀ (l : List UInt8), (l.flatMap encB).length ≤ 3 * l.length
  | [] => by simp
  | c :: l => by
    have := enc_len c
    have := encs_len l
    simp only [List.flatMap_cons, List.length_append, List.length_cons]; omega
theorem print_is {k : KeyD} (hv : key_Valid k = some true) (hk : 0 ≤ k.Kind ∧ k.Kind < 1000) (hs : k.Text.size ≤ 1000000) : key_Print k = some (strI (outK k)) := by
  have hsz := size_list k.Text
  have hki : (itoaS k.Kind).size ≤ 3 := by
    obtain ⟨n, hn⟩ : ∃ n : Nat, k.Kind = n := ⟨k.Kind.toNat, by omega⟩
    rw [hn]
    have h1 : (itoaS (n : Int)).size = (itoa n).length := by simp [itoaS, ByteArray.size]
    have := dec_len n 2 (by omega)
    rw [h1, itoa_nat]; omega
  have hpre : (itoaS k.Kind ++ ByteArray.mk #[58]).size ≤ 4 := by rw [ByteArray.size_append]; show (itoaS k.Kind).size + 1 ≤ 4; omega
  have hpre1 : 1 ≤ (itoaS k.Kind ++ ByteArray.mk #[58]).size := by rw [ByteArray.size_append]; show 1 ≤ (itoaS k.Kind).size + 1; omega
  have hpl : (bytesI (itoaS k.Kind ++ ByteArray.mk #[58])).length ≤ 4 := by rw [bytesI_len]; exact hpre
  have hel := encs_len k.Text.toList
  unfold key_Print
  rw [hv, itoaM_pos hk.1 (by omega)]
  simp only [Option.bind_some, Bool.not_true, cond_false]
  rw [show Nat.ble ((itoaS k.Kind).size + (ByteArray.mk #[58]).size) 140737488355328 = true from Nat.ble_eq_true_of_le (by show (itoaS k.Kind).size + 1 ≤ _; omega)]
  simp only [gd, cond_true]
  unfold bld_WriteString
  rw [room (by simp only [List.length_nil]; omega)]
  simp only [gd, cond_true, Option.bind_some, List.nil_append]
  have hL : loop (fun s : Int × (List Int) => key_Print_l3 k s.1 s.2) (0, bytesI (itoaS k.Kind ++ ByteArray.mk #[58])) = some (outK k) := by
    refine loop_eq (I := fun i s => s = ((i : Int), bytesI (itoaS k.Kind ++ ByteArray.mk #[58]) ++ (k.Text.toList.take i).flatMap encB)) _ k.Text.size ?_ ?_ (by simp)
    · rintro i _ hi rfl
      left
      refine ⟨_, ?_, rfl⟩
      have hi' : i < k.Text.toList.length := by omega
      have htl := encs_len (k.Text.toList.take i)
      have hti : (k.Text.toList.take i).length ≤ 1000000 := by rw [List.length_take]; omega
      have htk : k.Text.toList.take (i + 1) = k.Text.toList.take i ++ [k.Text.toList[i]] := by rw [List.take_add_one, List.getElem?_eq_getElem hi']; rfl
      unfold key_Print_l3
      rw [show decide ((i : Int) < (k.Text.size : Int)) = true by simpa using hi, getI_at hi']
      simp only [cond_true, Option.bind_some]
      rw [plain_is]
      simp only [Option.bind_some]
      generalize hc : k.Text.toList[i] = c at htk ⊢
      rw [htk, List.flatMap_append, List.flatMap_cons, List.flatMap_nil, List.append_nil, ← List.append_assoc]
      by_cases hp : 33 ≤ c.toNat ∧ c.toNat ≤ 126 ∧ c.toNat ≠ 37
      · rw [decide_eq_true hp, cond_true]
        unfold bld_WriteByte key_Print_j2
        rw [room (by simp only [List.length_append, List.length_cons, List.length_nil]; omega), w64 (by omega) (by omega)]
        simp only [gd, cond_true, Option.bind_some]
        rw [show encB c = [(c.toNat : Int)] by unfold encB; rw [if_pos hp]]
        simp
      · rw [decide_eq_false hp, cond_false, (nib c).1, (nib c).2]
        have hc2 := c.toNat_lt
        obtain ⟨d1, g1, f1⟩ := hex_get (n := c.toNat / 16) (by omega)
        obtain ⟨d2, g2, f2⟩ := hex_get (n := c.toNat % 16) (by omega)
        rw [g1, g2]
        simp only [Option.bind_some]
        unfold bld_Write key_Print_j2
        rw [room (by simp only [List.length_append, List.length_cons, List.length_nil]; omega), w64 (by omega) (by omega)]
        simp only [gd, cond_true, Option.bind_some]
        rw [show encB c = [37, hexd (c.toNat / 16), hexd (c.toNat % 16)] by unfold encB; rw [if_neg hp], f1, f2]
        simp
    · rintro _ rfl
      unfold key_Print_l3
      rw [show decide ((k.Text.size : Int) < (k.Text.size : Int)) = false by simp, ← hsz, List.take_length]
      rfl
  rw [hL]
  simp only [Option.bind_some]
  unfold key_Print_j1
  have h1 : (outK k).length = (bytesI (itoaS k.Kind ++ ByteArray.mk #[58])).length + (k.Text.toList.flatMap encB).length := by simp [outK]
  have h2 := bytesI_len (itoaS k.Kind ++ ByteArray.mk #[58])
  rw [decide_eq_true (show 0 < (outK k).length by omega), room (by omega)]
  rfl
theorem print_bad {k : KeyD} (hv : key_Valid k = some false) : key_Print k = some (ByteArray.mk #[]) := by
  unfold key_Print
  rw [hv]; rfl
theorem aw23_parse : key_Parse (ByteArray.mk #[50, 58, 97, 37, 50, 48, 98]) = some (⟨2, strI [97, 32, 98]⟩, 0) := by
  have h1 : strings_Cut (ByteArray.mk #[50, 58, 97, 37, 50, 48, 98]) (ByteArray.mk #[58]) = some (⟨#[50]⟩, ⟨#[97, 37, 50, 48, 98]⟩, true) := by unfold strings_Cut slite_Cut; kernel_rfl
  have h2 : atoiM ⟨#[50]⟩ = some (2, false) := by kernel_rfl
  have h3 : loop (fun s : ByteArray × (List Int) => key_Parse_l2 s.1 s.2) (⟨#[97, 37, 50, 48, 98]⟩, ([] : List Int)) = some [97, 32, 98] := by
    rw [loop_go (s' := (⟨#[37, 50, 48, 98]⟩, [97])) (by unfold key_Parse_l2; kernel_rfl), loop_go (s' := (⟨#[98]⟩, [97, 32])) (by unfold key_Parse_l2; kernel_rfl), loop_go (s' := (⟨#[]⟩, [97, 32, 98])) (by unfold key_Parse_l2; kernel_rfl)]
    exact loop_out (by unfold key_Parse_l2; kernel_rfl)
  have h4 : key_Valid ⟨2, strI [97, 32, 98]⟩ = some true := by unfold key_Valid key_toy key_Valid_j2 key_language; kernel_rfl
  have h5 : key_Print ⟨2, strI [97, 32, 98]⟩ = some (ByteArray.mk #[50, 58, 97, 37, 50, 48, 98]) := by
    rw [print_is h4 (by simp) (by decide)]
    have e2 : itoaS 2 = ByteArray.mk #[50] := by
      unfold itoaS
      rw [show itoa (2 : Int) = decDigits 2 from itoa_nat 2]; kernel_rfl
    unfold outK
    simp only [e2]
    show _ = _
    kernel_rfl
  unfold key_Parse
  rw [h1]
  simp only [Option.bind_some]
  rw [h2]
  simp only [Option.bind_some, cond_false]
  rw [h3]
  simp only [Option.bind_some]
  unfold key_Parse_j1
  rw [h5]
  show _ = _
  kernel_rfl
theorem law23_awake_is : law23_awake = some true := by
  have h4 : key_Valid ⟨2, strI [97, 32, 98]⟩ = some true := by unfold key_Valid key_toy key_Valid_j2 key_language; kernel_rfl
  have h5 : key_Print ⟨2, strI [97, 32, 98]⟩ = some (ByteArray.mk #[50, 58, 97, 37, 50, 48, 98]) := by
    rw [print_is h4 (by simp) (by decide)]
    have e2 : itoaS 2 = ByteArray.mk #[50] := by
      unfold itoaS
      rw [show itoa (2 : Int) = decDigits 2 from itoa_nat 2]; kernel_rfl
    unfold outK
    simp only [e2]
    show _ = _
    kernel_rfl
  have h6 : key_Cell 7 = some (cellK 7) := ref23_cell (n := 7) (by omega)
  have h7 : key_Number (cellK 7) = some (7 : Int) := number_of (k := 30) (n := 7) (.inl rfl) (by omega)
  unfold law23_awake
  rw [aw23_parse]
  simp only [Option.bind_some]
  rw [h5, h6]
  simp only [Option.bind_some]
  rw [h7]
  show _ = _
  kernel_rfl
end Go.Proofs.YtjoilbmkcknnfaaDoor
