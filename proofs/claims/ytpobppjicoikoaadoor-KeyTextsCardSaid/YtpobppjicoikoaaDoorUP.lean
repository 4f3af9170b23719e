/- Keys, plain: the text of a key, by the reference; the keys of texts, by both. -/
import Derived.Test.YtpobppjicoikoaaDoorUL
import Derived.Test.YtpobppjicoikoaaDoorD6
set_option linter.unusedVariables false
set_option linter.unusedSimpArgs false
namespace Go.Proofs.YtpobppjicoikoaaDoor
open Go.RowKit
open Go.Lib hiding intOf

theorem strI_list' (l : List Int) : (strI l).toList = l.map fun n => UInt8.ofNat n.toNat := by unfold strI; rw [ByteArray.toList_eq]
theorem strI_size' (l : List Int) : (strI l).size = l.length := by rw [← size_list, strI_list', List.length_map]
theorem bytes_ext {a b : ByteArray} (h : a.toList = b.toList) : a = b := by
  rw [ByteArray.toList_eq, ByteArray.toList_eq] at h
  exact ByteArray.ext (Array.toList_inj.1 h)
theorem valid_kind {k : KeyD} (hv : key_Valid k = some true) : 0 ≤ k.Kind ∧ k.Kind < 1000 := by
  by_cases h : 30 ≤ k.Kind ∧ k.Kind ≤ 32
  · omega
  · unfold key_Valid key_Valid_j2 key_language key_language_j1 at hv
    rw [toy_is, decide_eq_false h] at hv
    simp only [Option.bind_some, cond_false] at hv
    by_cases h1 : 1 ≤ k.Kind
    · by_cases h2 : k.Kind ≤ 22
      · omega
      · rw [decide_eq_true h1, decide_eq_false h2] at hv
        simp only [Option.bind_some, cond_true, cond_false] at hv
        cases (k.Kind == 1) <;> cases (k.Kind == 21) <;> simp [key_Valid_j1] at hv
    · rw [decide_eq_false h1] at hv
      simp only [Option.bind_some, cond_true, cond_false] at hv
      cases (k.Kind == 1) <;> cases (k.Kind == 21) <;> simp [key_Valid_j1] at hv
theorem ref_print_is {k : KeyD} (hv : ref23_Valid k = some true) (hk : 0 ≤ k.Kind ∧ k.Kind < 1000) (hs : k.Text.size ≤ 1000000) : ref23_Print k = some (strI (outK k)) := by
  have hsz := size_list k.Text
  have hki : (itoaS k.Kind).size ≤ 3 := by
    obtain ⟨n, hn⟩ : ∃ n : Nat, k.Kind = n := ⟨k.Kind.toNat, by omega⟩
    rw [hn]
    have h1 : (itoaS (n : Int)).size = (itoa n).length := by simp [itoaS, ByteArray.size]
    have := dec_len n 2 (by omega)
    rw [h1, itoa_nat]; omega
  have hpre : (itoaS k.Kind ++ ByteArray.mk #[58]).size ≤ 4 := by rw [ByteArray.size_append]; show (itoaS k.Kind).size + 1 ≤ 4; omega
  have hpl : (bytesI (itoaS k.Kind ++ ByteArray.mk #[58])).length ≤ 4 := by rw [bytesI_len]; exact hpre
  unfold ref23_Print
  rw [hv, itoaM_pos hk.1 (by omega)]
  simp only [Option.bind_some, Bool.not_true, cond_false]
  rw [show Nat.ble ((itoaS k.Kind).size + (ByteArray.mk #[58]).size) 140737488355328 = true from Nat.ble_eq_true_of_le (by show (itoaS k.Kind).size + 1 ≤ _; omega), room (by omega)]
  simp only [gd, cond_true]
  have hL : loop (fun s : (List Int) × Int => ref23_Print_l4 k s.1 s.2) (bytesI (itoaS k.Kind ++ ByteArray.mk #[58]), 0) = some (outK k) := by
    refine loop_eq (I := fun i s => s = (bytesI (itoaS k.Kind ++ ByteArray.mk #[58]) ++ (k.Text.toList.take i).flatMap encB, (i : Int))) _ k.Text.size ?_ ?_ (by simp)
    · rintro i _ hi rfl
      left
      refine ⟨_, ?_, rfl⟩
      have hi' : i < k.Text.toList.length := by omega
      have htl := encs_len (k.Text.toList.take i)
      have hti : (k.Text.toList.take i).length ≤ 1000000 := by rw [List.length_take]; omega
      have htk : k.Text.toList.take (i + 1) = k.Text.toList.take i ++ [k.Text.toList[i]] := by rw [List.take_add_one, List.getElem?_eq_getElem hi']; rfl
      unfold ref23_Print_l4
      rw [show decide ((i : Int) < (k.Text.size : Int)) = true by simpa using hi, getI_at hi']
      simp only [cond_true, Option.bind_some]
      generalize hc : k.Text.toList[i] = c at htk ⊢
      rw [htk, List.flatMap_append, List.flatMap_cons, List.flatMap_nil, List.append_nil, ← List.append_assoc]
      have hc2 := c.toNat_lt
      have jt : ¬ (33 ≤ c.toNat ∧ c.toNat ≤ 126 ∧ c.toNat ≠ 37) → ref23_Print_j3 (bytesI (itoaS k.Kind ++ ByteArray.mk #[58]) ++ (k.Text.toList.take i).flatMap encB) i c true = some (.go ((bytesI (itoaS k.Kind ++ ByteArray.mk #[58]) ++ (k.Text.toList.take i).flatMap encB) ++ encB c, ((i + 1 : Nat) : Int))) := fun hp => by
        obtain ⟨d1, g1, f1⟩ := hex_get (n := c.toNat / 16) (by omega)
        obtain ⟨d2, g2, f2⟩ := hex_get (n := c.toNat % 16) (by omega)
        unfold ref23_Print_j3 ref23_Print_j2
        rw [cond_true, (nib c).1, (nib c).2, g1, g2]
        simp only [Option.bind_some]
        rw [room (by simp only [List.length_append, List.length_cons, List.length_nil]; omega), w64 (by omega) (by omega)]
        rw [show encB c = [37, hexd (c.toNat / 16), hexd (c.toNat % 16)] by unfold encB; rw [if_neg hp], f1, f2]
        simp [gd]
      have jf : (33 ≤ c.toNat ∧ c.toNat ≤ 126 ∧ c.toNat ≠ 37) → ref23_Print_j3 (bytesI (itoaS k.Kind ++ ByteArray.mk #[58]) ++ (k.Text.toList.take i).flatMap encB) i c false = some (.go ((bytesI (itoaS k.Kind ++ ByteArray.mk #[58]) ++ (k.Text.toList.take i).flatMap encB) ++ encB c, ((i + 1 : Nat) : Int))) := fun hp => by
        unfold ref23_Print_j3 ref23_Print_j2
        rw [cond_false, room (by simp only [List.length_append, List.length_cons, List.length_nil]; omega), w64 (by omega) (by omega)]
        rw [show encB c = [(c.toNat : Int)] by unfold encB; rw [if_pos hp]]
        simp [gd]
      by_cases h1 : (c.toNat : Int) < 33
      · rw [decide_eq_true h1, cond_true]; exact jt (by omega)
      · rw [decide_eq_false h1, cond_false]
        by_cases h2 : (126 : Int) < (c.toNat : Int)
        · rw [decide_eq_true h2, cond_true]; exact jt (by omega)
        · rw [decide_eq_false h2, cond_false]
          by_cases h3 : c.toNat = 37
          · rw [show ((c.toNat : Int) == 37) = true by rw [beq_iff_eq]; omega]; exact jt (by omega)
          · rw [show ((c.toNat : Int) == 37) = false by rw [beq_eq_false_iff_ne]; omega]; exact jf (by omega)
    · rintro _ rfl
      unfold ref23_Print_l4
      rw [show decide ((k.Text.size : Int) < (k.Text.size : Int)) = false by simp, ← hsz, List.take_length]
      rfl
  rw [hL]
  rfl
theorem outK_pos (k : KeyD) : 0 < (outK k).length := by
  unfold outK
  rw [List.length_append, bytesI_len, ByteArray.size_append]
  show 0 < (itoaS k.Kind).size + 1 + _; omega
/-- what both print -/
theorem print_both {k : KeyD} (hs : k.Text.size ≤ 1000000) : ∃ p, key_Print k = some p ∧ ref23_Print k = some p ∧ (p.size = 0 ∨ key_Valid k = some true ∧ p = strI (outK k)) ∧ p.size ≤ 4 + 3 * k.Text.size := by
  obtain ⟨b, e1, e2⟩ := valid_eq (k := k) (by omega)
  cases b with
  | true =>
    have hk := valid_kind e1
    refine ⟨_, print_is e1 hk hs, ref_print_is e2 hk hs, .inr ⟨e1, rfl⟩, ?_⟩
    have h1 := encs_len k.Text.toList
    have h2 := size_list k.Text
    have hki : (itoaS k.Kind).size ≤ 3 := by
      obtain ⟨n, hn⟩ : ∃ n : Nat, k.Kind = n := ⟨k.Kind.toNat, by omega⟩
      rw [hn]
      have h1 : (itoaS (n : Int)).size = (itoa n).length := by simp [itoaS, ByteArray.size]
      have := dec_len n 2 (by omega)
      rw [h1, itoa_nat]; omega
    have h3 : (bytesI (itoaS k.Kind ++ ByteArray.mk #[58])).length = (itoaS k.Kind).size + 1 := by rw [bytesI_len, ByteArray.size_append]; rfl
    rw [strI_size']
    unfold outK
    rw [List.length_append]; omega
  | false =>
    refine ⟨_, print_bad e1, ?_, .inl rfl, by show 0 ≤ _; omega⟩
    unfold ref23_Print
    rw [e2]; rfl
/-- a string is the text of a key -/
def Good (s : ByteArray) (k : KeyD) : Prop := key_Valid k = some true ∧ s = strI (outK k)
noncomputable def badR : KeyD × Int := (⟨0, ByteArray.mk #[]⟩, 5)
theorem index_lt : ∀ (l : List UInt8) (c : UInt8), Lib.indexByte l c = -1 ∨ ∃ n : Nat, Lib.indexByte l c = n ∧ n < l.length
  | [], c => .inl rfl
  | b :: l, c => by
    unfold Lib.indexByte
    split
    · exact .inr ⟨0, rfl, by simp⟩
    · rcases index_lt l c with h | ⟨n, h, hn⟩
      · rw [h]; exact .inl rfl
      · rw [h, if_neg (by rw [beq_iff_eq]; omega)]
        exact .inr ⟨n + 1, by omega, by simp; omega⟩
theorem index_at : ∀ (d : List UInt8) (c : UInt8) (t : List UInt8), (∀ x ∈ d, x ≠ c) → Lib.indexByte (d ++ c :: t) c = (d.length : Int)
  | [], c, t, _ => by simp [Lib.indexByte]
  | x :: d, c, t, h => by
    have ih := index_at d c t fun y hy => h y (List.mem_cons_of_mem _ hy)
    have hx := h x List.mem_cons_self
    simp only [List.cons_append, Lib.indexByte, ih]
    rw [if_neg (by simpa using hx), if_neg (by rw [beq_iff_eq]; omega)]
    simp
theorem sub_at {s : ByteArray} {l h : Nat} (h1 : l ≤ h) (h2 : h ≤ s.size) : ∃ t, subS s (l : Int) (h : Int) = some t ∧ t.toList = (s.toList.take h).drop l ∧ t.size = h - l := by
  refine ⟨s.extract l h, ?_, ?_, ?_⟩
  · unfold subS
    rw [if_pos ⟨by omega, by omega, by omega⟩]; simp
  · rw [ByteArray.toList_eq, ByteArray.toList_eq, ByteArray.data_extract]
    simp only [Array.toList_extract, List.extract]
    rw [List.drop_take]
  · rw [ByteArray.size_extract]; omega
theorem cut_some {s : ByteArray} (hs : s.size ≤ 100000) : (strings_Cut s (ByteArray.mk #[58]) = some (s, ByteArray.mk #[], false) ∧ Lib.indexByte s.toList 58 = -1) ∨
    ∃ (n : Nat) (a b : ByteArray), n < s.size ∧ Lib.indexByte s.toList 58 = n ∧ strings_Cut s (ByteArray.mk #[58]) = some (a, b, true) ∧ a.toList = s.toList.take n ∧ b.toList = s.toList.drop (n + 1) ∧ a.size ≤ s.size ∧ b.size ≤ s.size := by
  have hsz := size_list s
  have hi : indexOneM s (ByteArray.mk #[58]) = some (Lib.indexByte s.toList 58) := by
    unfold indexOneM
    rw [show (ByteArray.mk #[58]).toList = [58] from by rw [ByteArray.toList_eq]]
  unfold strings_Cut slite_Cut
  rw [hi]
  simp only [Option.bind_some]
  rcases index_lt s.toList 58 with h | ⟨n, h, hn⟩
  · left
    rw [h]
    exact ⟨rfl, rfl⟩
  · right
    rw [h]
    obtain ⟨a, e1, l1, z1⟩ := sub_at (s := s) (l := 0) (h := n) (by omega) (by omega)
    obtain ⟨b, e2, l2, z2⟩ := sub_at (s := s) (l := n + 1) (h := s.size) (by omega) (by omega)
    refine ⟨n, a, b, by omega, rfl, ?_, by rw [l1, List.drop_zero], by rw [l2, ← hsz, List.take_length], by omega, by omega⟩
    rw [decide_eq_true (show (0 : Int) ≤ (n : Int) by omega), cond_true, show (0 : Int) = ((0 : Nat) : Int) from rfl, e1]
    simp only [Option.bind_some]
    rw [show (((ByteArray.mk #[58]).size : Nat) : Int) = 1 from rfl, w64 (by omega) (by omega), show ((n : Int) + 1) = ((n + 1 : Nat) : Int) by omega, e2]
    rfl
theorem atoi_some {s : ByteArray} (hs : s.size ≤ 100000) : ∃ p, atoiM s = some p := ⟨_, by unfold atoiM; rw [show Nat.ble s.size 140737488355328 = true from Nat.ble_eq_true_of_le (by omega)]; rfl⟩
/-- decoding ends -/
theorem parse_loop {rest : ByteArray} (hs : rest.size ≤ 100000) : ∃ text : List Int, loop (fun s : ByteArray × (List Int) => key_Parse_l2 s.1 s.2) (rest, ([] : List Int)) = some text ∧ text.length ≤ rest.size := by
  have key : Ok ((loop (fun s : ByteArray × (List Int) => key_Parse_l2 s.1 s.2) (rest, ([] : List Int))).bind fun x => some x) fun t => t.length ≤ rest.size := by
    refine Ok.loop (fun i s => s.1.size + i ≤ rest.size ∧ s.2.length ≤ i) (fun t => t.length ≤ rest.size) rest.size ⟨by simp, by simp⟩ (fun i s hi hI => ?_) (fun r hr => Ok.ret hr)
    obtain ⟨r, text⟩ := s
    obtain ⟨h1, h2⟩ := hI
    simp only at h1 h2
    have hsz := size_list r
    unfold key_Parse_l2
    refine Ok.cond (fun e => ?_) (fun e => Ok.ret (by show text.length ≤ _; omega))
    have e : 0 < r.size := by have := of_decide_eq_true e; simp only at this; omega
    obtain ⟨a, e1, _, z1⟩ := sub_at (s := r) (l := 1) (h := r.size) (by omega) (by omega)
    have one : ∀ x : Int, Ok ((subS r 1 r.size).bind fun s1142 => gd (roomB (text.length + ([x]).length)) <| some (Fl.go (s1142, (text ++ ([x]))) : Fl (ByteArray × List Int) (List Int))) fun r_1 => match r_1 with
        | .go s' => i < rest.size ∧ s'.1.size + (i + 1) ≤ rest.size ∧ s'.2.length ≤ i + 1
        | .out r => r.length ≤ rest.size := fun x => by
      rw [show (1 : Int) = ((1 : Nat) : Int) from rfl, e1, Option.bind_some]
      exact Ok.gd (room (by simp; omega)) (Ok.ret ⟨by omega, by dsimp only; omega, by simp; omega⟩)
    refine Ok.get (by omega) (by simp only; omega) fun c _ _ => Ok.cond (fun _ => ?_) (fun _ => Ok.cond (fun _ => ?_) (fun e3 => ?_))
    · exact Ok.get (by omega) (by simp only; omega) fun c2 _ _ => (one _).mono fun y hy => by cases y <;> exact hy
    · exact Ok.get (by omega) (by simp only; omega) fun c2 _ _ => (one _).mono fun y hy => by cases y <;> exact hy
    · have e3 : 3 ≤ r.size := by have := of_decide_eq_false e3; simp only at this; omega
      obtain ⟨b, e2, _, z2⟩ := sub_at (s := r) (l := 3) (h := r.size) (by omega) (by omega)
      refine Ok.get (by omega) (by simp only; omega) fun c1 _ _ => Ok.get (by omega) (by simp only; omega) fun c2 _ _ => ?_
      unfold indexByteM
      simp only [Option.bind_some]
      refine Ok.gd (room (by simp; omega)) ?_
      rw [show (3 : Int) = ((3 : Nat) : Int) from rfl, e2, Option.bind_some]
      exact Ok.ret ⟨by omega, by dsimp only; omega, by simp; omega⟩
  obtain ⟨t, e, h⟩ := key
  obtain ⟨x, hx, hy⟩ := Option.bind_eq_some_iff.1 e
  simp only [Option.some.injEq] at hy
  subst hy
  exact ⟨x, hx, h⟩
theorem key_parse_some {s : ByteArray} (hs : s.size ≤ 100000) : ∃ r, key_Parse s = some r ∧ (r = badR ∨ Good s r.1 ∧ r.2 = 0) := by
  have core : ∀ (a b : ByteArray) (f : Bool), strings_Cut s (ByteArray.mk #[58]) = some (a, b, f) → a.size ≤ 100000 → b.size ≤ 100000 → ∃ r, key_Parse s = some r ∧ (r = badR ∨ Good s r.1 ∧ r.2 = 0) := fun a b f h1 h2 h3 => by
    unfold key_Parse
    rw [h1]
    simp only [Option.bind_some]
    obtain ⟨p, hp⟩ := atoi_some h2
    rw [hp]
    simp only [Option.bind_some]
    obtain ⟨v, er⟩ := p
    cases er with
    | true => exact ⟨_, rfl, .inl rfl⟩
    | false =>
      simp only [cond_false]
      obtain ⟨text, e1, e2⟩ := parse_loop h3
      rw [e1]
      simp only [Option.bind_some]
      unfold key_Parse_j1
      obtain ⟨q, q1, _, q3, _⟩ := print_both (k := ⟨v, strI text⟩) (by simp only [strI_size']; omega)
      rw [q1]
      simp only [Option.bind_some]
      cases hb : (q.toList == (ByteArray.mk #[]).toList) with
      | true => exact ⟨_, rfl, .inl rfl⟩
      | false =>
        simp only [cond_false]
        cases hc : (q.toList == s.toList) with
        | false => exact ⟨_, rfl, .inl rfl⟩
        | true =>
          refine ⟨_, rfl, .inr ⟨?_, rfl⟩⟩
          have hq : q = s := bytes_ext (by simpa using hc)
          rcases q3 with q3 | ⟨q3, q4⟩
          · exfalso
            have : q.toList = [] := List.eq_nil_of_length_eq_zero (by rw [size_list]; exact q3)
            rw [this, nil_list] at hb
            simp at hb
          · exact ⟨q3, by rw [← hq]; exact q4⟩
  rcases cut_some hs with ⟨h, _⟩ | ⟨n, a, b, _, _, h, _, _, h3, h4⟩
  · exact core _ _ _ h hs (by show 0 ≤ _; omega)
  · exact core _ _ _ h (by omega) (by omega)
theorem ref_loop {s : ByteArray} {n : Nat} (hs : s.size ≤ 100000) (hn : n ≤ s.size) : ∃ text : List Int, loop (fun q : (List Int) × Int => ref23_Parse_l4 s q.1 q.2) (([] : List Int), (n : Int)) = some text ∧ text.length ≤ s.size := by
  have hsz := size_list s
  have key : Ok ((loop (fun q : (List Int) × Int => ref23_Parse_l4 s q.1 q.2) (([] : List Int), (n : Int))).bind fun x => some x) fun t => t.length ≤ s.size := by
    refine Ok.loop (fun i q => ∃ m : Nat, q.2 = m ∧ i + n ≤ m + n ∧ i ≤ m ∧ m ≤ s.size ∧ q.1.length ≤ m) (fun t => t.length ≤ s.size) s.size ⟨n, rfl, by omega, by omega, hn, by simp⟩ (fun i q hi hI => ?_) (fun r hr => Ok.ret hr)
    obtain ⟨text, at_⟩ := q
    obtain ⟨m, h1, _, h2, h3, h4⟩ := hI
    simp only at h1 h4
    subst h1
    unfold ref23_Parse_l4
    refine Ok.cond (fun e => ?_) (fun e => Ok.ret (by show text.length ≤ _; omega))
    have e : m < s.size := by have := of_decide_eq_true e; simp only at this; omega
    have jf : Ok (ref23_Parse_j3 s text m false) fun r_1 => match r_1 with
        | .go s' => i < s.size ∧ ∃ m : Nat, s'.2 = m ∧ i + 1 + n ≤ m + n ∧ i + 1 ≤ m ∧ m ≤ s.size ∧ s'.1.length ≤ m
        | .out r => r.length ≤ s.size := by
      unfold ref23_Parse_j3 ref23_Parse_j2
      rw [cond_false]
      refine Ok.get (by omega) (by omega) fun c _ _ => Ok.gd (room (by simp; omega)) (Ok.ret ⟨by omega, m + 1, w64 (by omega) (by omega), by omega, by omega, by omega, by simp; omega⟩)
    have jt : m + 2 < s.size → Ok (ref23_Parse_j3 s text m true) fun r_1 => match r_1 with
        | .go s' => i < s.size ∧ ∃ m : Nat, s'.2 = m ∧ i + 1 + n ≤ m + n ∧ i + 1 ≤ m ∧ m ≤ s.size ∧ s'.1.length ≤ m
        | .out r => r.length ≤ s.size := fun h => by
      unfold ref23_Parse_j3 ref23_Parse_j2 ref23_digit indexByteM
      rw [cond_true, w64 (by omega) (by omega), w64 (by omega) (by omega)]
      refine Ok.get (by omega) (by omega) fun c _ _ => Ok.get (by omega) (by omega) fun c2 _ _ => ?_
      simp only [Option.bind_some]
      refine Ok.gd (room (by simp; omega)) (Ok.ret ⟨by omega, m + 3, (show IntKind.i64.wrap ((m : Int) + 2 + 1) = ((m + 3 : Nat) : Int) from (w64 (by omega) (by omega)).trans (by omega)), by omega, by omega, by omega, by simp; omega⟩)
    refine Ok.get (by simp only; omega) (by simp only; omega) fun c _ _ => Ok.cond (fun _ => Ok.cond (fun e3 => ?_) (fun _ => jf.mono fun y hy => by cases y <;> exact hy)) (fun _ => jf.mono fun y hy => by cases y <;> exact hy)
    have e3 : m + 2 < s.size := by
      have := of_decide_eq_true e3
      simp only at this
      rw [w64 (by omega) (by omega)] at this
      omega
    simp only
    rw [w64 (by omega) (by omega)]
    refine Ok.get (by omega) (by omega) fun c1 _ _ => ?_
    unfold ref23_digit indexByteM
    simp only [Option.bind_some]
    refine Ok.cond (fun _ => ?_) (fun _ => jf.mono fun y hy => by cases y <;> exact hy)
    rw [w64 (by omega) (by omega)]
    refine Ok.get (by omega) (by omega) fun c2 _ _ => ?_
    cases decide ((0 : Int) ≤ Lib.indexByte (ByteArray.mk #[48, 49, 50, 51, 52, 53, 54, 55, 56, 57, 65, 66, 67, 68, 69, 70]).toList (c2.toNat : Int).toNat.toUInt8) with
    | true => exact (jt e3).mono fun y hy => by cases y <;> exact hy
    | false => exact jf.mono fun y hy => by cases y <;> exact hy
  obtain ⟨t, e, h⟩ := key
  obtain ⟨x, hx, hy⟩ := Option.bind_eq_some_iff.1 e
  simp only [Option.some.injEq] at hy
  subst hy
  exact ⟨x, hx, h⟩
theorem ref_parse_some {s : ByteArray} (hs : s.size ≤ 100000) : ∃ r, ref23_Parse s = some r ∧ (r = badR ∨ Good s r.1 ∧ r.2 = 0) := by
  have hsz := size_list s
  unfold ref23_Parse
  rw [show indexByteM s 58 = some (Lib.indexByte s.toList 58) from rfl]
  simp only [Option.bind_some]
  rcases index_lt s.toList 58 with h | ⟨n, h, hn⟩
  · rw [h]; exact ⟨_, rfl, .inl rfl⟩
  · rw [h, decide_eq_false (by omega), cond_false]
    obtain ⟨a, e1, _, z1⟩ := sub_at (s := s) (l := 0) (h := n) (by omega) (by omega)
    rw [show (0 : Int) = ((0 : Nat) : Int) from rfl, e1]
    simp only [Option.bind_some]
    rw [dec_is]
    simp only [Option.bind_some]
    by_cases hd : decI a.toList < ((0 : Nat) : Int)
    · rw [decide_eq_true hd]; exact ⟨_, rfl, .inl rfl⟩
    · rw [decide_eq_false hd, cond_false, w64 (by omega) (by omega), show ((n : Int) + 1) = ((n + 1 : Nat) : Int) by omega]
      obtain ⟨text, e2, e3⟩ := ref_loop (s := s) (n := n + 1) hs (by omega)
      rw [e2]
      simp only [Option.bind_some]
      unfold ref23_Parse_j1
      obtain ⟨q, _, q1, q3, _⟩ := print_both (k := ⟨decI a.toList, strI text⟩) (by simp only [strI_size']; omega)
      rw [q1]
      simp only [Option.bind_some]
      cases hc : (q.toList == s.toList) with
      | false => exact ⟨_, rfl, .inl rfl⟩
      | true =>
        simp only [Bool.not_true, cond_false]
        have hq : q = s := bytes_ext (by simpa using hc)
        cases hb : (s.toList == (ByteArray.mk #[]).toList) with
        | true => exact ⟨_, rfl, .inl rfl⟩
        | false =>
          refine ⟨_, rfl, .inr ⟨?_, rfl⟩⟩
          rcases q3 with q3 | ⟨q3, q4⟩
          · exfalso
            have : s.toList = [] := List.eq_nil_of_length_eq_zero (by rw [size_list, ← hq]; exact q3)
            rw [this, nil_list] at hb
            simp at hb
          · exact ⟨q3, by rw [← hq]; exact q4⟩
end Go.Proofs.YtpobppjicoikoaaDoor
