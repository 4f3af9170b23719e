/- Law 23, plain: KeyTexts. -/
import Derived.Test.YtpobppjicoikoaaDoorUQ
import Derived.Test.YtpobppjicoikoaaDoorUV
set_option linter.unusedVariables false
set_option linter.unusedSimpArgs false
namespace Go.Proofs.YtpobppjicoikoaaDoor
open Go.RowKit
open Go.Lib hiding intOf

theorem keys_ok {t : List Int} (ht : t.length ≤ 400) : Ok (law23_keys t) fun l => l.length ≤ 11 := by
  unfold law23_keys mill_Roll
  simp only [Option.bind_some]
  refine Ok.bind (next_ok (l := t) (i := 0) ⟨by omega, by omega, by omega⟩ (by omega) (by omega)) fun r hr => ?_
  refine Ok.loop (fun k s => s.1.length = k ∧ s.2.1 = r.1 - k ∧ DiceOk s.2.2.1 s.2.2.2) (fun q => q.length ≤ 11) r.1.toNat ⟨rfl, by simp, hr.2.2⟩ (fun k s hk hI => ?_) (fun q hq => ?_)
  · obtain ⟨e1, e2, e3⟩ := hI
    have := hr.1; have := hr.2.1
    unfold law23_keys_l2
    refine Ok.cond (fun e => ?_) (fun e => Ok.ret (by dsimp only; omega))
    have e : (0 : Int) < s.2.1 := of_decide_eq_true e
    refine Ok.bind (next_ok e3 (by omega) (by omega)) fun u hu => Ok.bind (word_ok hu.2.2 (by simp) (by simp)) fun v hv => Ok.gd (room (by simp; omega)) (Ok.ret ⟨by omega, by simp [e1], by dsimp only; rw [w64 (by omega) (by omega)]; omega, hv.2⟩)
  · unfold law23_keys_j1
    exact Ok.ret hq
theorem texts_l3 {p s : ByteArray} (hp : p.size ≤ 100000) (hs : s.size ≤ 100000) : Ok ((loop (fun q : (List ByteArray) × Int => law23_KeyTexts_l3 p s q.1 q.2) ([p, s, (ByteArray.mk #[48, 50, 58, 97]), (ByteArray.mk #[50, 58, 37, 50, 48]), (ByteArray.mk #[50, 58, 37, 50, 102]), (ByteArray.mk #[50, 58, 37]), (ByteArray.mk #[51, 49, 58, 53]), (ByteArray.mk #[43, 50, 58, 97])], 0)).bind fun x => some x) fun r => r = Fl.go s := by
  refine Ok.loop (fun i q => q.1 = [p, s, (ByteArray.mk #[48, 50, 58, 97]), (ByteArray.mk #[50, 58, 37, 50, 48]), (ByteArray.mk #[50, 58, 37, 50, 102]), (ByteArray.mk #[50, 58, 37]), (ByteArray.mk #[51, 49, 58, 53]), (ByteArray.mk #[43, 50, 58, 97])] ∧ q.2 = (i : Int)) (fun r => r = Fl.go s) 8 ⟨rfl, rfl⟩ (fun i q hi hI => ?_) (fun r hr => Ok.ret hr)
  obtain ⟨ls, at_⟩ := q
  obtain ⟨e1, e2⟩ := hI
  simp only at e1 e2
  subst e1 e2
  unfold law23_KeyTexts_l3
  refine Ok.cond (fun e => ?_) (fun e => Ok.ret rfl)
  have e : i < 8 := by have := of_decide_eq_true e; simp at this; omega
  refine Ok.get (by omega) (by simp; omega) fun x _ hx => ?_
  have hx2 : x.size ≤ 100000 := by
    simp only [List.mem_cons, List.not_mem_nil, or_false] at hx
    rcases hx with rfl | rfl | rfl | rfl | rfl | rfl | rfl | rfl
    · exact hp
    · exact hs
    all_goals decide
  obtain ⟨r, f1, f2⟩ := parse_eq hx2
  rw [f1, f2]
  simp only [Option.bind_some, beq_self_eq_true, Bool.and_self, Bool.not_true, cond_false, bne_self_eq_false]
  exact Ok.ret ⟨e, rfl, w64 (by omega) (by omega)⟩
theorem texts_is (raw : List KeyD) (t : List Int) (s : ByteArray) (at_ by_ : Int) (hby : -9223372036854775808 ≤ by_ ∧ by_ ≤ 9223372036854775807) : law23_KeyTexts raw t s at_ by_ = some true := by
  have key : Ok (law23_KeyTexts raw t s at_ by_) fun b => b = true := by
    unfold law23_KeyTexts mill_Light
    rw [law23_awake_is]
    refine Ok.cond (fun _ => Ok.ret rfl) fun h1 => ?_
    have h1 : raw.length ≤ 20 := by have := of_decide_eq_false h1; omega
    simp only [Option.bind_some]
    refine Ok.cond (fun _ => Ok.ret rfl) fun h2 => Ok.cond (fun _ => Ok.ret rfl) fun h3 => ?_
    have h2 : t.length ≤ 400 := by simp at h2; omega
    have h3 : s.size ≤ 500 := by have := of_decide_eq_false h3; omega
    refine Ok.bind (keys_ok h2) fun l hl => Ok.gd (room (by omega)) ?_
    refine Ok.loop (fun k q => q.1.size ≤ 100000 ∧ q.2 = (k : Int)) (fun r => ∃ s, r = Fl.go s) (l ++ raw).length ⟨by show s.size ≤ _; omega, rfl⟩ (fun k q hk hI => ?_) (fun r hr => ?_)
    · obtain ⟨s, i⟩ := q
      obtain ⟨e1, e2⟩ := hI
      simp only at e1 e2
      subst e2
      have hlr : (l ++ raw).length ≤ 31 := by simp; omega
      unfold law23_KeyTexts_l5
      refine Ok.cond (fun e => ?_) (fun e => ?_)
      · have e : k < (l ++ raw).length := by have := of_decide_eq_true e; omega
        refine Ok.get (by omega) (by omega) fun x _ _ => ?_
        unfold law23_KeyTexts_j2
        have fin : ∀ s : ByteArray, s.size ≤ 100000 → Ok (some (Fl.go (s, IntKind.i64.wrap ((k : Int) + 1)) : Fl (ByteArray × Int) (Fl Unit Bool))) fun r => match r with
            | .go s' => k < (l ++ raw).length ∧ s'.1.size ≤ 100000 ∧ s'.2 = ((k + 1 : Nat) : Int)
            | .out r => ∃ s, r = Fl.go s := fun s hs => Ok.ret ⟨e, hs, w64 (by omega) (by omega)⟩
        refine Ok.cond (fun _ => (fin s e1).mono fun y hy => by cases y <;> exact hy) fun h5 => ?_
        have h5 : x.Text.size ≤ 500 := by have := of_decide_eq_false h5; omega
        obtain ⟨p, p1, p2, _, p4⟩ := print_both (k := x) (by omega)
        rw [p1, p2]
        simp only [Option.bind_some, beq_self_eq_true, Bool.not_true, cond_false]
        have j4 : ∀ s : ByteArray, s.size ≤ 100000 → Ok (law23_KeyTexts_j4 k p s) fun r => match r with
            | .go s' => k < (l ++ raw).length ∧ s'.1.size ≤ 100000 ∧ s'.2 = ((k + 1 : Nat) : Int)
            | .out r => ∃ s, r = Fl.go s := fun s hs => by
          unfold law23_KeyTexts_j4
          obtain ⟨r, f1, f2⟩ := texts_l3 (p := p) (s := s) (by omega) hs
          obtain ⟨x, hx, hy⟩ := Option.bind_eq_some_iff.1 f1
          simp only [Option.some.injEq] at hy
          subst hy f2
          rw [hx]
          simp only [Option.bind_some, Fl.el]
          unfold law23_KeyTexts_j2
          exact (fin s hs).mono fun y hy => by cases y <;> exact hy
        refine Ok.cond (fun h6 => ?_) (fun _ => (j4 s e1).mono fun y hy => by cases y <;> exact hy)
        have h6 : 0 < p.size := by have := of_decide_eq_true h6; omega
        obtain ⟨i, hi, ei⟩ := mod_is at_ (m := p.size) h6 (by omega)
        obtain ⟨m, hm, em⟩ := mod_is (IntKind.i64.wrap (Int.tdiv by_ 256)) (m := 2) (by omega) (by omega)
        obtain ⟨a, a1, _, a3⟩ := sub_at (s := p) (l := 0) (h := i) (by omega) (by omega)
        obtain ⟨b, b1, _, b3⟩ := sub_at (s := p) (l := i + m) (h := p.size) (by omega) (by omega)
        rw [ei, Option.bind_some, show (0 : Int) = ((0 : Nat) : Int) from rfl, a1, Option.bind_some, show mill_Mod (IntKind.i64.wrap (Int.tdiv by_ 256)) 2 = some (m : Int) from em, Option.bind_some]
        have z1 : (strI [IntKind.u8.wrap by_]).size = 1 := strI_size' _
        have z2 : (a ++ strI [IntKind.u8.wrap by_]).size = a.size + 1 := by rw [ByteArray.size_append, z1]
        refine Ok.gd (Nat.ble_eq_true_of_le (by omega)) ?_
        rw [w64 (by omega) (by omega), show ((i : Int) + (m : Int)) = ((i + m : Nat) : Int) by omega, b1, Option.bind_some]
        refine Ok.gd (Nat.ble_eq_true_of_le (by omega)) ?_
        exact (j4 _ (by rw [ByteArray.size_append]; omega)).mono fun y hy => by cases y <;> exact hy
      · exact Ok.ret ⟨_, rfl⟩
    · obtain ⟨s, rfl⟩ := hr
      simp only [Fl.el]
      unfold law23_KeyTexts_j1
      rw [law23_awake_is]
      exact Ok.ret rfl
  obtain ⟨b, e, rfl⟩ := key
  exact e
end Go.Proofs.YtpobppjicoikoaaDoor
