/- Keys, plain: a key's text is read back. -/
import Derived.Test.YtjoilbmkcknnfaaDoorUL
set_option linter.unusedVariables false
set_option linter.unusedSimpArgs false
namespace Go.Proofs.YtjoilbmkcknnfaaDoor
open Go.RowKit
open Go.Lib hiding intOf


theorem strI_list' (l : List Int) : (strI l).toList = l.map fun n => UInt8.ofNat n.toNat := by unfold strI; rw [ByteArray.toList_eq]
theorem strI_size' (l : List Int) : (strI l).size = l.length := by rw [← size_list, strI_list', List.length_map]
theorem bytes_ext {a b : ByteArray} (h : a.toList = b.toList) : a = b := by
  rw [ByteArray.toList_eq, ByteArray.toList_eq] at h
  exact ByteArray.ext (Array.toList_inj.1 h)
theorem valid_kind {k : KeyD} (hv : key_Valid k = some true) : 0 ≤ k.Kind ∧ k.Kind < 1000 := by
  by_cases h : 30 ≤ k.Kind ∧ k.Kind ≤ 32
  · omega
  · unfold key_Valid key_Valid_j2 key_language key_language_j1 at hv
    rw [toy_is, decide_eq_false h] at hv
    simp only [Option.bind_some, cond_false] at hv
    by_cases h1 : 1 ≤ k.Kind
    · by_cases h2 : k.Kind ≤ 22
      · omega
      · rw [decide_eq_true h1, decide_eq_false h2] at hv
        simp only [Option.bind_some, cond_true, cond_false] at hv
        cases (k.Kind == 1) <;> cases (k.Kind == 21) <;> simp [key_Valid_j1] at hv
    · rw [decide_eq_false h1] at hv
      simp only [Option.bind_some, cond_true, cond_false] at hv
      cases (k.Kind == 1) <;> cases (k.Kind == 21) <;> simp [key_Valid_j1] at hv
theorem outK_pos (k : KeyD) : 0 < (outK k).length := by
  unfold outK
  rw [List.length_append, bytesI_len, ByteArray.size_append]
  show 0 < (itoaS k.Kind).size + 1 + _; omega
/-- a string is the text of a key -/
def Good (s : ByteArray) (k : KeyD) : Prop := key_Valid k = some true ∧ s = strI (outK k)
noncomputable def badR : KeyD × Int := (⟨0, ByteArray.mk #[]⟩, 5)
theorem index_lt : ∀ (l : List UInt8) (c : UInt8), Lib.indexByte l c = -1 ∨ ∃ n : Nat, Lib.indexByte l c = n ∧ n < l.length
  | [], c => .inl rfl
  | b :: l, c => by
    unfold Lib.indexByte
    split
    · exact .inr ⟨0, rfl, by simp⟩
    · rcases index_lt l c with h | ⟨n, h, hn⟩
      · rw [h]; exact .inl rfl
      · rw [h, if_neg (by rw [beq_iff_eq]; omega)]
        exact .inr ⟨n + 1, by omega, by simp; omega⟩
theorem index_at : ∀ (d : List UInt8) (c : UInt8) (t : List UInt8), (∀ x ∈ d, x ≠ c) → Lib.indexByte (d ++ c :: t) c = (d.length : Int)
  | [], c, t, _ => by simp [Lib.indexByte]
  | x :: d, c, t, h => by
    have ih := index_at d c t fun y hy => h y (List.mem_cons_of_mem _ hy)
    have hx := h x List.mem_cons_self
    simp only [List.cons_append, Lib.indexByte, ih]
    rw [if_neg (by simpa using hx), if_neg (by rw [beq_iff_eq]; omega)]
    simp
theorem sub_at {s : ByteArray} {l h : Nat} (h1 : l ≤ h) (h2 : h ≤ s.size) : ∃ t, subS s (l : Int) (h : Int) = some t ∧ t.toList = (s.toList.take h).drop l ∧ t.size = h - l := by
  refine ⟨s.extract l h, ?_, ?_, ?_⟩
  · unfold subS
    rw [if_pos ⟨by omega, by omega, by omega⟩]; simp
  · rw [ByteArray.toList_eq, ByteArray.toList_eq, ByteArray.data_extract]
    simp only [Array.toList_extract, List.extract]
    rw [List.drop_take]
  · rw [ByteArray.size_extract]; omega
theorem cut_some {s : ByteArray} (hs : s.size ≤ 100000) : (strings_Cut s (ByteArray.mk #[58]) = some (s, ByteArray.mk #[], false) ∧ Lib.indexByte s.toList 58 = -1) ∨
    ∃ (n : Nat) (a b : ByteArray), n < s.size ∧ Lib.indexByte s.toList 58 = n ∧ strings_Cut s (ByteArray.mk #[58]) = some (a, b, true) ∧ a.toList = s.toList.take n ∧ b.toList = s.toList.drop (n + 1) ∧ a.size ≤ s.size ∧ b.size ≤ s.size := by
  have hsz := size_list s
  have hi : indexOneM s (ByteArray.mk #[58]) = some (Lib.indexByte s.toList 58) := by
    unfold indexOneM
    rw [show (ByteArray.mk #[58]).toList = [58] from by rw [ByteArray.toList_eq]]
  unfold strings_Cut slite_Cut
  rw [hi]
  simp only [Option.bind_some]
  rcases index_lt s.toList 58 with h | ⟨n, h, hn⟩
  · left
    rw [h]
    exact ⟨rfl, rfl⟩
  · right
    rw [h]
    obtain ⟨a, e1, l1, z1⟩ := sub_at (s := s) (l := 0) (h := n) (by omega) (by omega)
    obtain ⟨b, e2, l2, z2⟩ := sub_at (s := s) (l := n + 1) (h := s.size) (by omega) (by omega)
    refine ⟨n, a, b, by omega, rfl, ?_, by rw [l1, List.drop_zero], by rw [l2, ← hsz, List.take_length], by omega, by omega⟩
    rw [decide_eq_true (show (0 : Int) ≤ (n : Int) by omega), cond_true, show (0 : Int) = ((0 : Nat) : Int) from rfl, e1]
    simp only [Option.bind_some]
    rw [show (((ByteArray.mk #[58]).size : Nat) : Int) = 1 from rfl, w64 (by omega) (by omega), show ((n : Int) + 1) = ((n + 1 : Nat) : Int) by omega, e2]
    rfl
theorem atoi_some {s : ByteArray} (hs : s.size ≤ 100000) : ∃ p, atoiM s = some p := ⟨_, by unfold atoiM; rw [show Nat.ble s.size 140737488355328 = true from Nat.ble_eq_true_of_le (by omega)]; rfl⟩
/-- decoding ends -/
theorem parse_loop {rest : ByteArray} (hs : rest.size ≤ 100000) : ∃ text : List Int, loop (fun s : ByteArray × (List Int) => key_Parse_l2 s.1 s.2) (rest, ([] : List Int)) = some text ∧ text.length ≤ rest.size := by
  have key : Ok ((loop (fun s : ByteArray × (List Int) => key_Parse_l2 s.1 s.2) (rest, ([] : List Int))).bind fun x => some x) fun t => t.length ≤ rest.size := by
    refine Ok.loop (fun i s => s.1.size + i ≤ rest.size ∧ s.2.length ≤ i) (fun t => t.length ≤ rest.size) rest.size ⟨by simp, by simp⟩ (fun i s hi hI => ?_) (fun r hr => Ok.ret hr)
    obtain ⟨r, text⟩ := s
    obtain ⟨h1, h2⟩ := hI
    simp only at h1 h2
    have hsz := size_list r
    unfold key_Parse_l2
    refine Ok.cond (fun e => ?_) (fun e => Ok.ret (by show text.length ≤ _; omega))
    have e : 0 < r.size := by have := of_decide_eq_true e; simp only at this; omega
    obtain ⟨a, e1, _, z1⟩ := sub_at (s := r) (l := 1) (h := r.size) (by omega) (by omega)
    have one : ∀ x : Int, Ok ((subS r 1 r.size).bind fun s1142 => gd (roomB (text.length + ([x]).length)) <| some (Fl.go (s1142, (text ++ ([x]))) : Fl (ByteArray × List Int) (List Int))) fun r_1 => match r_1 with
        | .go s' => i < rest.size ∧ s'.1.size + (i + 1) ≤ rest.size ∧ s'.2.length ≤ i + 1
        | .out r => r.length ≤ rest.size := fun x => by
      rw [show (1 : Int) = ((1 : Nat) : Int) from rfl, e1, Option.bind_some]
      exact Ok.gd (room (by simp; omega)) (Ok.ret ⟨by omega, by dsimp only; omega, by simp; omega⟩)
    refine Ok.get (by omega) (by simp only; omega) fun c _ _ => Ok.cond (fun _ => ?_) (fun _ => Ok.cond (fun _ => ?_) (fun e3 => ?_))
    · exact Ok.get (by omega) (by simp only; omega) fun c2 _ _ => (one _).mono fun y hy => by cases y <;> exact hy
    · exact Ok.get (by omega) (by simp only; omega) fun c2 _ _ => (one _).mono fun y hy => by cases y <;> exact hy
    · have e3 : 3 ≤ r.size := by have := of_decide_eq_false e3; simp only at this; omega
      obtain ⟨b, e2, _, z2⟩ := sub_at (s := r) (l := 3) (h := r.size) (by omega) (by omega)
      refine Ok.get (by omega) (by simp only; omega) fun c1 _ _ => Ok.get (by omega) (by simp only; omega) fun c2 _ _ => ?_
      unfold indexByteM
      simp only [Option.bind_some]
      refine Ok.gd (room (by simp; omega)) ?_
      rw [show (3 : Int) = ((3 : Nat) : Int) from rfl, e2, Option.bind_some]
      exact Ok.ret ⟨by omega, by dsimp only; omega, by simp; omega⟩
  obtain ⟨t, e, h⟩ := key
  obtain ⟨x, hx, hy⟩ := Option.bind_eq_some_iff.1 e
  simp only [Option.some.injEq] at hy
  subst hy
  exact ⟨x, hx, h⟩
def hxU (n : Nat) : UInt8 := [48, 49, 50, 51, 52, 53, 54, 55, 56, 57, 65, 66, 67, 68, 69, 70].getD n 0
def encb (c : UInt8) : List UInt8 := if 33 ≤ c.toNat ∧ c.toNat ≤ 126 ∧ c.toNat ≠ 37 then [c] else [37, hxU (c.toNat / 16), hxU (c.toNat % 16)]
theorem ofNat_toNat (c : UInt8) : UInt8.ofNat ((c.toNat : Int)).toNat = c := by simp
theorem enc_b (c : UInt8) : (encB c).map (fun n => UInt8.ofNat n.toNat) = encb c := by
  unfold encB encb
  split
  · simp
  · have h : ∀ n, UInt8.ofNat (hexd n).toNat = hxU n := fun n => by unfold hexd hxU; rw [digs_list, ofNat_toNat]
    simp only [List.map_cons, List.map_nil, h]
    rfl
theorem enc_flat (l : List UInt8) : (l.flatMap encB).map (fun n => UInt8.ofNat n.toNat) = l.flatMap encb := by
  induction l with
  | nil => rfl
  | cons c l ih => rw [List.flatMap_cons, List.map_append, enc_b, ih, List.flatMap_cons]
theorem bytesI_back (s : ByteArray) : (bytesI s).map (fun n => UInt8.ofNat n.toNat) = s.toList := by
  unfold bytesI
  rw [List.map_map]
  exact (List.map_congr_left fun c _ => ofNat_toNat c).trans (List.map_id _)
theorem dec_digits (n : Nat) : ∀ x ∈ decDigits n, x ≠ 58 := by
  induction n using Nat.strongRecOn with
  | _ n ih =>
    rw [decDigits]
    have key : ∀ k, k < 10 → UInt8.ofNat (48 + k) ≠ 58 := fun k hk e => by
      have := congrArg UInt8.toNat e
      rw [dig_of hk] at this
      have h58 : (58 : UInt8).toNat = 58 := rfl
      omega
    split
    · rename_i h
      intro x hx
      simp only [List.mem_cons, List.not_mem_nil, or_false] at hx
      subst hx; exact key n h
    · rename_i h
      intro x hx
      rcases List.mem_append.1 hx with hx | hx
      · exact ih (n / 10) (by omega) x hx
      · simp only [List.mem_cons, List.not_mem_nil, or_false] at hx
        subst hx; exact key _ (by omega)
theorem good_list {s : ByteArray} {k : KeyD} (h : Good s k) : ∃ n : Nat, k.Kind = n ∧ n < 1000 ∧ s.toList = decDigits n ++ 58 :: k.Text.toList.flatMap encb := by
  obtain ⟨hv, rfl⟩ := h
  have hk := valid_kind hv
  obtain ⟨n, hn⟩ : ∃ n : Nat, k.Kind = n := ⟨k.Kind.toNat, by omega⟩
  refine ⟨n, hn, by omega, ?_⟩
  rw [strI_list']
  unfold outK
  rw [List.map_append, bytesI_back, enc_flat, hn]
  have : (itoaS (n : Int) ++ ByteArray.mk #[58]).toList = decDigits n ++ [58] := by
    rw [ByteArray.toList_eq, ByteArray.data_append]
    simp only [Array.toList_append]
    rw [← ByteArray.toList_eq, itoaS_list, itoa_nat]
  rw [this]; simp
theorem hx_at : ∀ n, n < 16 → Lib.indexByte (ByteArray.mk #[48, 49, 50, 51, 52, 53, 54, 55, 56, 57, 65, 66, 67, 68, 69, 70]).toList ((hxU n).toNat : Int).toNat.toUInt8 = (n : Int) := by
  rw [digs_list]; decide +kernel
theorem nibs : ∀ n, n < 256 → IntKind.u8.wrap (ibit .or .i64 (shlI .i64 ((n / 16 : Nat) : Int) 4) (ibit .and .i64 ((n % 16 : Nat) : Int) 15)) = (n : Int) := by decide +kernel
theorem texts_back (s : ByteArray) : strI (s.toList.map fun c => (c.toNat : Int)) = s := by
  apply bytes_ext
  rw [strI_list', List.map_map]
  exact (List.map_congr_left fun c _ => ofNat_toNat c).trans (List.map_id _)
theorem enc_pos (c : UInt8) : 1 ≤ (encb c).length := by unfold encb; split <;> simp
theorem encs_ge : ∀ (l : List UInt8), l.length ≤ (l.flatMap encb).length
  | [] => by simp
  | c :: l => by
    have := enc_pos c
    have := encs_ge l
    simp only [List.flatMap_cons, List.length_append, List.length_cons]; omega
theorem back_loop {b : ByteArray} {l : List UInt8} (hb : b.toList = l.flatMap encb) (hl : b.size ≤ 100000) : loop (fun s : ByteArray × (List Int) => key_Parse_l2 s.1 s.2) (b, ([] : List Int)) = some (l.map fun c => (c.toNat : Int)) := by
  have hge := encs_ge l
  have hbs := size_list b
  rw [hb] at hbs
  refine loop_eq (I := fun i s => s.1.toList = (l.drop i).flatMap encb ∧ s.2 = (l.take i).map fun c => (c.toNat : Int)) _ l.length ?_ ?_ ⟨hb, rfl⟩
  · rintro i ⟨r, text⟩ hi ⟨h1, h2⟩
    simp only at h1 h2
    subst h2
    left
    have hrs := size_list r
    have htk : l.take (i + 1) = l.take i ++ [l[i]] := by rw [List.take_add_one, List.getElem?_eq_getElem hi]; rfl
    rw [List.drop_eq_getElem_cons hi, List.flatMap_cons] at h1
    generalize l[i] = c at h1 htk
    have hc := c.toNat_lt
    unfold key_Parse_l2
    by_cases hp : 33 ≤ c.toNat ∧ c.toNat ≤ 126 ∧ c.toNat ≠ 37
    · rw [show encb c = [c] by unfold encb; rw [if_pos hp]] at h1
      have hlen : 0 < r.size := by rw [← hrs, h1]; simp
      obtain ⟨t, e1, e2, _⟩ := sub_at (s := r) (l := 1) (h := r.size) (by omega) (by omega)
      have g0 : getI r.toList 0 = some c := by rw [h1]; rfl
      refine ⟨(t, (l.take i).map (fun c => (c.toNat : Int)) ++ [(c.toNat : Int)]), ?_, ?_, by rw [htk]; simp⟩
      · rw [decide_eq_true (show (0 : Int) < (r.size : Int) by omega), cond_true, g0]
        simp only [Option.bind_some]
        rw [show ((c.toNat : Int) != 37) = true by rw [bne_iff_ne]; omega, cond_true, show (1 : Int) = ((1 : Nat) : Int) from rfl, e1]
        simp only [Option.bind_some]
        rw [room (by simp only [List.length_append, List.length_map, List.length_take, List.length_cons, List.length_nil]; omega)]
        rfl
      · rw [e2, ← hrs, List.take_length, h1]; rfl
    · rw [show encb c = [37, hxU (c.toNat / 16), hxU (c.toNat % 16)] by unfold encb; rw [if_neg hp]] at h1
      have hlen : 3 ≤ r.size := by rw [← hrs, h1]; simp
      obtain ⟨t, e1, e2, _⟩ := sub_at (s := r) (l := 3) (h := r.size) (by omega) (by omega)
      have g0 : getI r.toList 0 = some 37 := by rw [h1]; rfl
      have g1 : getI r.toList 1 = some (hxU (c.toNat / 16)) := by rw [h1]; rfl
      have g2 : getI r.toList 2 = some (hxU (c.toNat % 16)) := by rw [h1]; rfl
      refine ⟨(t, (l.take i).map (fun c => (c.toNat : Int)) ++ [(c.toNat : Int)]), ?_, ?_, by rw [htk]; simp⟩
      · rw [decide_eq_true (show (0 : Int) < (r.size : Int) by omega), cond_true, g0]
        simp only [Option.bind_some]
        rw [show ((((37 : UInt8).toNat : Nat) : Int) != 37) = false from rfl, cond_false, decide_eq_false (show ¬ (r.size : Int) < 3 by omega), cond_false, g1, g2]
        simp only [Option.bind_some]
        unfold indexByteM
        simp only [Option.bind_some]
        rw [hx_at _ (by omega), hx_at _ (by omega), nibs _ hc]
        rw [room (by simp only [List.length_append, List.length_map, List.length_take, List.length_cons, List.length_nil]; omega), show (3 : Int) = ((3 : Nat) : Int) from rfl, e1]
        rfl
      · rw [e2, ← hrs, List.take_length, h1]; rfl
  · rintro ⟨r, text⟩ ⟨h1, h2⟩
    simp only at h1 h2
    subst h2
    have hrs := size_list r
    rw [List.drop_length] at h1
    rw [h1] at hrs
    have hz : r.size = 0 := by simpa using hrs.symm
    unfold key_Parse_l2
    rw [hz, List.take_length]
    rfl
theorem key_parse_good {s : ByteArray} {k : KeyD} (hs : s.size ≤ 100000) (h : Good s k) : key_Parse s = some (k, 0) := by
  obtain ⟨n, hn, hn2, hl⟩ := good_list h
  have hsz := size_list s
  have hge := encs_ge k.Text.toList
  have hts := size_list k.Text
  have hll := congrArg List.length hl
  simp only [List.length_append, List.length_cons] at hll
  have hix : Lib.indexByte s.toList 58 = ((decDigits n).length : Int) := by rw [hl]; exact index_at _ _ _ (dec_digits n)
  rcases cut_some hs with ⟨_, h1⟩ | ⟨m, a, b, hm, h1, h2, h3, h4, h5, h6⟩
  · omega
  · have hmn : m = (decDigits n).length := by omega
    subst hmn
    have ha : a = itoaS (n : Int) := by
      apply bytes_ext
      rw [h3, hl, List.take_left, itoaS_list, itoa_nat]
    have hb : b.toList = k.Text.toList.flatMap encb := by
      rw [h4, hl, show (decDigits n).length + 1 = (decDigits n ++ [(58 : UInt8)]).length by simp, show decDigits n ++ 58 :: k.Text.toList.flatMap encb = (decDigits n ++ [58]) ++ k.Text.toList.flatMap encb by simp, List.drop_left]
    unfold key_Parse
    rw [h2]
    simp only [Option.bind_some]
    rw [ha, atoiM_dec (by omega)]
    simp only [Option.bind_some, cond_false]
    rw [back_loop hb (by omega)]
    simp only [Option.bind_some]
    unfold key_Parse_j1
    rw [texts_back, ← hn, show (KeyD.mk k.Kind k.Text) = k from rfl, print_is h.1 (valid_kind h.1) (by omega), ← h.2]
    simp only [Option.bind_some]
    rw [show (s.toList == (ByteArray.mk #[]).toList) = false by rw [nil_list, hl]; simp]
    simp
end Go.Proofs.YtjoilbmkcknnfaaDoor
