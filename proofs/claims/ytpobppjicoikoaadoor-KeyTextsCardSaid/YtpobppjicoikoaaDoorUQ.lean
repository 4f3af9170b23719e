/- Keys, plain: the text of a key is read back, by both. -/
import Derived.Test.YtpobppjicoikoaaDoorUP
set_option linter.unusedVariables false
set_option linter.unusedSimpArgs false
namespace Go.Proofs.YtpobppjicoikoaaDoor
open Go.RowKit
open Go.Lib hiding intOf

def hxU (n : Nat) : UInt8 := [48, 49, 50, 51, 52, 53, 54, 55, 56, 57, 65, 66, 67, 68, 69, 70].getD n 0
def encb (c : UInt8) : List UInt8 := if 33 ≤ c.toNat ∧ c.toNat ≤ 126 ∧ c.toNat ≠ 37 then [c] else [37, hxU (c.toNat / 16), hxU (c.toNat % 16)]
theorem ofNat_toNat (c : UInt8) : UInt8.ofNat ((c.toNat : Int)).toNat = c := by simp
theorem enc_b (c : UInt8) : (encB c).map (fun n => UInt8.ofNat n.toNat) = encb c := by
  unfold encB encb
  split
  · simp
  · have h : ∀ n, UInt8.ofNat (hexd n).toNat = hxU n := fun n => by unfold hexd hxU; rw [digs_list, ofNat_toNat]
    simp only [List.map_cons, List.map_nil, h]
    rfl
theorem enc_flat (l : List UInt8) : (l.flatMap encB).map (fun n => UInt8.ofNat n.toNat) = l.flatMap encb := by
  induction l with
  | nil => rfl
  | cons c l ih => rw [List.flatMap_cons, List.map_append, enc_b, ih, List.flatMap_cons]
theorem bytesI_back (s : ByteArray) : (bytesI s).map (fun n => UInt8.ofNat n.toNat) = s.toList := by
  unfold bytesI
  rw [List.map_map]
  exact (List.map_congr_left fun c _ => ofNat_toNat c).trans (List.map_id _)
theorem dec_digits (n : Nat) : ∀ x ∈ decDigits n, x ≠ 58 := by
  induction n using Nat.strongRecOn with
  | _ n ih =>
    rw [decDigits]
    have key : ∀ k, k < 10 → UInt8.ofNat (48 + k) ≠ 58 := fun k hk e => by
      have := congrArg UInt8.toNat e
      rw [dig_of hk] at this
      have h58 : (58 : UInt8).toNat = 58 := rfl
      omega
    split
    · rename_i h
      intro x hx
      simp only [List.mem_cons, List.not_mem_nil, or_false] at hx
      subst hx; exact key n h
    · rename_i h
      intro x hx
      rcases List.mem_append.1 hx with hx | hx
      · exact ih (n / 10) (by omega) x hx
      · simp only [List.mem_cons, List.not_mem_nil, or_false] at hx
        subst hx; exact key _ (by omega)
theorem good_list {s : ByteArray} {k : KeyD} (h : Good s k) : ∃ n : Nat, k.Kind = n ∧ n < 1000 ∧ s.toList = decDigits n ++ 58 :: k.Text.toList.flatMap encb := by
  obtain ⟨hv, rfl⟩ := h
  have hk := valid_kind hv
  obtain ⟨n, hn⟩ : ∃ n : Nat, k.Kind = n := ⟨k.Kind.toNat, by omega⟩
  refine ⟨n, hn, by omega, ?_⟩
  rw [strI_list']
  unfold outK
  rw [List.map_append, bytesI_back, enc_flat, hn]
  have : (itoaS (n : Int) ++ ByteArray.mk #[58]).toList = decDigits n ++ [58] := by
    rw [ByteArray.toList_eq, ByteArray.data_append]
    simp only [Array.toList_append]
    rw [← ByteArray.toList_eq, itoaS_list, itoa_nat]
  rw [this]; simp
theorem hx_at : ∀ n, n < 16 → Lib.indexByte (ByteArray.mk #[48, 49, 50, 51, 52, 53, 54, 55, 56, 57, 65, 66, 67, 68, 69, 70]).toList ((hxU n).toNat : Int).toNat.toUInt8 = (n : Int) := by
  rw [digs_list]; decide +kernel
theorem nibs : ∀ n, n < 256 → IntKind.u8.wrap (ibit .or .i64 (shlI .i64 ((n / 16 : Nat) : Int) 4) (ibit .and .i64 ((n % 16 : Nat) : Int) 15)) = (n : Int) := by decide +kernel
theorem texts_back (s : ByteArray) : strI (s.toList.map fun c => (c.toNat : Int)) = s := by
  apply bytes_ext
  rw [strI_list', List.map_map]
  exact (List.map_congr_left fun c _ => ofNat_toNat c).trans (List.map_id _)
theorem enc_pos (c : UInt8) : 1 ≤ (encb c).length := by unfold encb; split <;> simp
theorem encs_ge : ∀ (l : List UInt8), l.length ≤ (l.flatMap encb).length
  | [] => by simp
  | c :: l => by
    have := enc_pos c
    have := encs_ge l
    simp only [List.flatMap_cons, List.length_append, List.length_cons]; omega
theorem back_loop {b : ByteArray} {l : List UInt8} (hb : b.toList = l.flatMap encb) (hl : b.size ≤ 100000) : loop (fun s : ByteArray × (List Int) => key_Parse_l2 s.1 s.2) (b, ([] : List Int)) = some (l.map fun c => (c.toNat : Int)) := by
  have hge := encs_ge l
  have hbs := size_list b
  rw [hb] at hbs
  refine loop_eq (I := fun i s => s.1.toList = (l.drop i).flatMap encb ∧ s.2 = (l.take i).map fun c => (c.toNat : Int)) _ l.length ?_ ?_ ⟨hb, rfl⟩
  · rintro i ⟨r, text⟩ hi ⟨h1, h2⟩
    simp only at h1 h2
    subst h2
    left
    have hrs := size_list r
    have htk : l.take (i + 1) = l.take i ++ [l[i]] := by rw [List.take_add_one, List.getElem?_eq_getElem hi]; rfl
    rw [List.drop_eq_getElem_cons hi, List.flatMap_cons] at h1
    generalize l[i] = c at h1 htk
    have hc := c.toNat_lt
    unfold key_Parse_l2
    by_cases hp : 33 ≤ c.toNat ∧ c.toNat ≤ 126 ∧ c.toNat ≠ 37
    · rw [show encb c = [c] by unfold encb; rw [if_pos hp]] at h1
      have hlen : 0 < r.size := by rw [← hrs, h1]; simp
      obtain ⟨t, e1, e2, _⟩ := sub_at (s := r) (l := 1) (h := r.size) (by omega) (by omega)
      have g0 : getI r.toList 0 = some c := by rw [h1]; rfl
      refine ⟨(t, (l.take i).map (fun c => (c.toNat : Int)) ++ [(c.toNat : Int)]), ?_, ?_, by rw [htk]; simp⟩
      · rw [decide_eq_true (show (0 : Int) < (r.size : Int) by omega), cond_true, g0]
        simp only [Option.bind_some]
        rw [show ((c.toNat : Int) != 37) = true by rw [bne_iff_ne]; omega, cond_true, show (1 : Int) = ((1 : Nat) : Int) from rfl, e1]
        simp only [Option.bind_some]
        rw [room (by simp only [List.length_append, List.length_map, List.length_take, List.length_cons, List.length_nil]; omega)]
        rfl
      · rw [e2, ← hrs, List.take_length, h1]; rfl
    · rw [show encb c = [37, hxU (c.toNat / 16), hxU (c.toNat % 16)] by unfold encb; rw [if_neg hp]] at h1
      have hlen : 3 ≤ r.size := by rw [← hrs, h1]; simp
      obtain ⟨t, e1, e2, _⟩ := sub_at (s := r) (l := 3) (h := r.size) (by omega) (by omega)
      have g0 : getI r.toList 0 = some 37 := by rw [h1]; rfl
      have g1 : getI r.toList 1 = some (hxU (c.toNat / 16)) := by rw [h1]; rfl
      have g2 : getI r.toList 2 = some (hxU (c.toNat % 16)) := by rw [h1]; rfl
      refine ⟨(t, (l.take i).map (fun c => (c.toNat : Int)) ++ [(c.toNat : Int)]), ?_, ?_, by rw [htk]; simp⟩
      · rw [decide_eq_true (show (0 : Int) < (r.size : Int) by omega), cond_true, g0]
        simp only [Option.bind_some]
        rw [show ((((37 : UInt8).toNat : Nat) : Int) != 37) = false from rfl, cond_false, decide_eq_false (show ¬ (r.size : Int) < 3 by omega), cond_false, g1, g2]
        simp only [Option.bind_some]
        unfold indexByteM
        simp only [Option.bind_some]
        rw [hx_at _ (by omega), hx_at _ (by omega), nibs _ hc]
        rw [room (by simp only [List.length_append, List.length_map, List.length_take, List.length_cons, List.length_nil]; omega), show (3 : Int) = ((3 : Nat) : Int) from rfl, e1]
        rfl
      · rw [e2, ← hrs, List.take_length, h1]; rfl
  · rintro ⟨r, text⟩ ⟨h1, h2⟩
    simp only at h1 h2
    subst h2
    have hrs := size_list r
    rw [List.drop_length] at h1
    rw [h1] at hrs
    have hz : r.size = 0 := by simpa using hrs.symm
    unfold key_Parse_l2
    rw [hz, List.take_length]
    rfl
theorem key_parse_good {s : ByteArray} {k : KeyD} (hs : s.size ≤ 100000) (h : Good s k) : key_Parse s = some (k, 0) := by
  obtain ⟨n, hn, hn2, hl⟩ := good_list h
  have hsz := size_list s
  have hge := encs_ge k.Text.toList
  have hts := size_list k.Text
  have hll := congrArg List.length hl
  simp only [List.length_append, List.length_cons] at hll
  have hix : Lib.indexByte s.toList 58 = ((decDigits n).length : Int) := by rw [hl]; exact index_at _ _ _ (dec_digits n)
  rcases cut_some hs with ⟨_, h1⟩ | ⟨m, a, b, hm, h1, h2, h3, h4, h5, h6⟩
  · omega
  · have hmn : m = (decDigits n).length := by omega
    subst hmn
    have ha : a = itoaS (n : Int) := by
      apply bytes_ext
      rw [h3, hl, List.take_left, itoaS_list, itoa_nat]
    have hb : b.toList = k.Text.toList.flatMap encb := by
      rw [h4, hl, show (decDigits n).length + 1 = (decDigits n ++ [(58 : UInt8)]).length by simp, show decDigits n ++ 58 :: k.Text.toList.flatMap encb = (decDigits n ++ [58]) ++ k.Text.toList.flatMap encb by simp, List.drop_left]
    unfold key_Parse
    rw [h2]
    simp only [Option.bind_some]
    rw [ha, atoiM_dec (by omega)]
    simp only [Option.bind_some, cond_false]
    rw [back_loop hb (by omega)]
    simp only [Option.bind_some]
    unfold key_Parse_j1
    rw [texts_back, ← hn, show (KeyD.mk k.Kind k.Text) = k from rfl, print_is h.1 (valid_kind h.1) (by omega), ← h.2]
    simp only [Option.bind_some]
    rw [show (s.toList == (ByteArray.mk #[]).toList) = false by rw [nil_list, hl]; simp]
    simp
theorem get_mid {α : Type} (P Q : List α) (x : α) {i : Int} (hi : i = (P.length : Int)) : getI (P ++ x :: Q) i = some x := by
  subst hi
  rw [getI_at (by simp)]
  simp
theorem nibs2 : ∀ n, n < 256 → IntKind.u8.wrap (IntKind.i64.wrap ((IntKind.i64.wrap (16 * ((n / 16 : Nat) : Int))) + ((n % 16 : Nat) : Int))) = (n : Int) := fun n h => by
  rw [show IntKind.i64.wrap (16 * ((n / 16 : Nat) : Int)) = 16 * ((n / 16 : Nat) : Int) from w64 (by omega) (by omega), w64 (by omega) (by omega), IntKind.wrap_u8]; omega
theorem ref_back {s : ByteArray} {D l : List UInt8} (hl : s.toList = D ++ 58 :: l.flatMap encb) (hs : s.size ≤ 100000) : loop (fun q : (List Int) × Int => ref23_Parse_l4 s q.1 q.2) (([] : List Int), ((D.length + 1 : Nat) : Int)) = some (l.map fun c => (c.toNat : Int)) := by
  have hsz := size_list s
  have hge := encs_ge l
  have hll := congrArg List.length hl
  simp only [List.length_append, List.length_cons] at hll
  refine loop_eq (I := fun i q => q.1 = (l.take i).map (fun c => (c.toNat : Int)) ∧ q.2 = ((D.length + 1 + ((l.take i).flatMap encb).length : Nat) : Int)) _ l.length ?_ ?_ ⟨rfl, rfl⟩
  · rintro i ⟨text, at_⟩ hi ⟨h1, h2⟩
    simp only at h1 h2
    subst h1 h2
    left
    have htk : l.take (i + 1) = l.take i ++ [l[i]] := by rw [List.take_add_one, List.getElem?_eq_getElem hi]; rfl
    have hsp : l.flatMap encb = (l.take i).flatMap encb ++ (encb l[i] ++ (l.drop (i + 1)).flatMap encb) := by
      conv => lhs; rw [← List.take_append_drop i l, List.drop_eq_getElem_cons hi]
      rw [List.flatMap_append, List.flatMap_cons]
    have hs2 : s.toList = (D ++ [58] ++ (l.take i).flatMap encb) ++ (encb l[i] ++ (l.drop (i + 1)).flatMap encb) := by rw [hl, hsp]; simp
    have hP : (D ++ [(58 : UInt8)] ++ (l.take i).flatMap encb).length = D.length + 1 + ((l.take i).flatMap encb).length := by simp; omega
    have hl3 := congrArg List.length hs2
    rw [List.length_append, hP, List.length_append] at hl3
    rw [htk]
    generalize l[i] = c at hs2 hl3
    have hc := c.toNat_lt
    generalize (l.drop (i + 1)).flatMap encb = Q at hs2 hl3
    have hpos := enc_pos c
    rw [List.flatMap_append, List.flatMap_cons, List.flatMap_nil, List.append_nil, List.length_append, List.map_append, List.map_cons, List.map_nil]
    generalize hPd : D ++ [(58 : UInt8)] ++ (l.take i).flatMap encb = P at hs2 hP
    generalize ((l.take i).flatMap encb).length = L at hP hl3 ⊢
    unfold ref23_Parse_l4
    have hrm : ∀ x : Int, roomB (((l.take i).map (fun c => (c.toNat : Int))).length + [x].length) = true := fun x => room (by simp only [List.length_map, List.length_take, List.length_cons, List.length_nil]; omega)
    by_cases hp : 33 ≤ c.toNat ∧ c.toNat ≤ 126 ∧ c.toNat ≠ 37
    · rw [show encb c = [c] by unfold encb; rw [if_pos hp]] at hs2 hl3 ⊢
      have g0 : getI s.toList ((D.length + 1 + L : Nat) : Int) = some c := by rw [hs2]; exact get_mid P Q c (by omega)
      refine ⟨((l.take i).map (fun c => (c.toNat : Int)) ++ [(c.toNat : Int)], ((D.length + 1 + (L + [c].length) : Nat) : Int)), ?_, rfl, rfl⟩
      simp only [List.length_cons, List.length_nil] at hl3
      rw [decide_eq_true (show ((D.length + 1 + L : Nat) : Int) < (s.size : Int) by omega), cond_true, g0]
      simp only [Option.bind_some]
      rw [show ((c.toNat : Int) == 37) = false by rw [beq_eq_false_iff_ne]; omega, cond_false]
      unfold ref23_Parse_j3 ref23_Parse_j2
      rw [cond_false, g0]
      simp only [Option.bind_some]
      rw [hrm, w64 (by omega) (by omega)]
      simp only [gd, cond_true, List.length_cons, List.length_nil]
      congr 3
    · rw [show encb c = [37, hxU (c.toNat / 16), hxU (c.toNat % 16)] by unfold encb; rw [if_neg hp]] at hs2 hl3 ⊢
      have g0 : getI s.toList ((D.length + 1 + L : Nat) : Int) = some 37 := by rw [hs2]; exact get_mid P _ 37 (by omega)
      have g1 : getI s.toList (((D.length + 1 + L : Nat) : Int) + 1) = some (hxU (c.toNat / 16)) := by
        rw [hs2, show P ++ ([37, hxU (c.toNat / 16), hxU (c.toNat % 16)] ++ Q) = (P ++ [37]) ++ hxU (c.toNat / 16) :: (hxU (c.toNat % 16) :: Q) by simp]
        exact get_mid _ _ _ (by simp; omega)
      have g2 : getI s.toList (((D.length + 1 + L : Nat) : Int) + 2) = some (hxU (c.toNat % 16)) := by
        rw [hs2, show P ++ ([37, hxU (c.toNat / 16), hxU (c.toNat % 16)] ++ Q) = (P ++ [37, hxU (c.toNat / 16)]) ++ hxU (c.toNat % 16) :: Q by simp]
        exact get_mid _ _ _ (by simp; omega)
      refine ⟨((l.take i).map (fun c => (c.toNat : Int)) ++ [(c.toNat : Int)], ((D.length + 1 + (L + [37, hxU (c.toNat / 16), hxU (c.toNat % 16)].length) : Nat) : Int)), ?_, rfl, rfl⟩
      simp only [List.length_cons, List.length_nil] at hl3
      have d1 : ref23_digit ((hxU (c.toNat / 16)).toNat : Int) = some ((c.toNat / 16 : Nat) : Int) := by
        unfold ref23_digit indexByteM
        simp only [Option.bind_some]
        rw [hx_at _ (by omega)]
      have d2 : ref23_digit ((hxU (c.toNat % 16)).toNat : Int) = some ((c.toNat % 16 : Nat) : Int) := by
        unfold ref23_digit indexByteM
        simp only [Option.bind_some]
        rw [hx_at _ (by omega)]
      rw [decide_eq_true (show ((D.length + 1 + L : Nat) : Int) < (s.size : Int) by omega), cond_true, g0]
      simp only [Option.bind_some]
      rw [show ((((37 : UInt8).toNat : Nat) : Int) == 37) = true from rfl, cond_true, w64 (by omega) (by omega), decide_eq_true (show ((D.length + 1 + L : Nat) : Int) + 2 < (s.size : Int) by omega), cond_true, w64 (by omega) (by omega), g1]
      simp only [Option.bind_some]
      rw [d1]
      simp only [Option.bind_some]
      rw [decide_eq_true (show (0 : Int) ≤ ((c.toNat / 16 : Nat) : Int) by omega), cond_true, g2]
      simp only [Option.bind_some]
      rw [d2]
      simp only [Option.bind_some]
      rw [decide_eq_true (show (0 : Int) ≤ ((c.toNat % 16 : Nat) : Int) by omega)]
      unfold ref23_Parse_j3 ref23_Parse_j2
      rw [cond_true, w64 (by omega) (by omega), w64 (by omega) (by omega), g1, g2]
      simp only [Option.bind_some]
      rw [d1, d2]
      simp only [Option.bind_some]
      rw [hrm, nibs2 _ hc, w64 (by omega) (by omega)]
      simp only [gd, cond_true, List.length_cons, List.length_nil]
      congr 3
  · rintro ⟨text, at_⟩ ⟨h1, h2⟩
    simp only at h1 h2
    subst h1 h2
    unfold ref23_Parse_l4
    rw [List.take_length, decide_eq_false (by omega)]
    rfl
theorem ref_parse_good {s : ByteArray} {k : KeyD} (hs : s.size ≤ 100000) (h : Good s k) : ref23_Parse s = some (k, 0) := by
  obtain ⟨n, hn, hn2, hl⟩ := good_list h
  have hsz := size_list s
  have hge := encs_ge k.Text.toList
  have hts := size_list k.Text
  have hll := congrArg List.length hl
  simp only [List.length_append, List.length_cons] at hll
  have hix : Lib.indexByte s.toList 58 = ((decDigits n).length : Int) := by rw [hl]; exact index_at _ _ _ (dec_digits n)
  unfold ref23_Parse
  rw [show indexByteM s 58 = some (Lib.indexByte s.toList 58) from rfl, hix]
  simp only [Option.bind_some]
  obtain ⟨a, e1, h3, z1⟩ := sub_at (s := s) (l := 0) (h := (decDigits n).length) (by omega) (by omega)
  rw [decide_eq_false (by omega), cond_false, show (0 : Int) = ((0 : Nat) : Int) from rfl, e1]
  simp only [Option.bind_some]
  have ha : a.toList = decDigits n := by rw [h3, hl, List.take_left, List.drop_zero]
  rw [dec_is, ha, decI_dec (by omega)]
  simp only [Option.bind_some]
  rw [decide_eq_false (by omega), cond_false, w64 (by omega) (by omega), show (((decDigits n).length : Int) + 1) = (((decDigits n).length + 1 : Nat) : Int) by omega, ref_back hl hs]
  simp only [Option.bind_some]
  unfold ref23_Parse_j1
  obtain ⟨b, v1, v2⟩ := valid_eq (k := k) (by omega)
  rw [h.1] at v1
  obtain rfl := Option.some.inj v1
  rw [texts_back, ← hn, show (KeyD.mk k.Kind k.Text) = k from rfl, ref_print_is v2 (valid_kind h.1) (by omega), ← h.2]
  simp only [Option.bind_some]
  rw [show (s.toList == (ByteArray.mk #[]).toList) = false by rw [nil_list, hl]; simp]
  simp
/-- both say the same of any text -/
theorem parse_eq {s : ByteArray} (hs : s.size ≤ 100000) : ∃ r, key_Parse s = some r ∧ ref23_Parse s = some r := by
  by_cases h : ∃ k, Good s k
  · obtain ⟨k, hk⟩ := h
    exact ⟨_, key_parse_good hs hk, ref_parse_good hs hk⟩
  · obtain ⟨r, e1, h1⟩ := key_parse_some hs
    obtain ⟨q, e2, h2⟩ := ref_parse_some hs
    rcases h1 with rfl | ⟨h1, _⟩
    · rcases h2 with rfl | ⟨h2, _⟩
      · exact ⟨_, e1, e2⟩
      · exact absurd ⟨_, h2⟩ h
    · exact absurd ⟨_, h1⟩ h
end Go.Proofs.YtpobppjicoikoaaDoor
