/- The order of keys as the library's sorting wants it: it lays blocks and draws, and turns nothing. -/
import Derived.Test.YtdappapdddnciaaDoorSortKey
import Derived.Test.YtdappapdddnciaaDoorHC
import Derived.Deep.RegionHeld3
set_option linter.unusedVariables false
set_option linter.unusedSimpArgs false
namespace Go.Proofs.YtdappapdddnciaaDoor
open Go.RowKit
open Go.Lib hiding intOf
open Go.Sort (grow grow_grow alloc_eq_grow)

def Gr (w w' : World) : Prop := ∃ q os, w' = grow (w.drewN q) os
theorem Gr.refl (w : World) : Gr w w := ⟨0, #[], by rw [Go.Sort.grow_empty]; rfl⟩
theorem Gr.trans {a b c : World} (h : Gr a b) (k : Gr b c) : Gr a c := by
  obtain ⟨q, os, rfl⟩ := h
  obtain ⟨q2, os2, rfl⟩ := k
  exact ⟨q + q2, os ++ os2, by show grow (grow ((a.drewN q).drewN q2) os) os2 = _; rw [grow_grow, World.drewN_drewN]⟩
theorem Gr.drew (w : World) : Gr w w.drew := ⟨1, #[], by rw [Go.Sort.grow_empty]; rfl⟩
theorem Gr.alloc (w : World) (o : Obj) : Gr w (w.alloc o) := ⟨0, #[o], by rw [alloc_eq_grow]; rfl⟩
theorem Gr.cell {w w' : World} (h : Gr w w') {a : Addr} {v : Value} (hc : w.cell? a = some v) : w'.cell? a = some v := by
  obtain ⟨q, os, rfl⟩ := h
  exact cell_grown (World.block_lt_of_cell? _ _ hc) hc q os
set_option maxHeartbeats 2000000 in
theorem cmpOr_g (b : Nat) (x y : Int) (w : World) (h0 : w.cell? ⟨b, 0, none⟩ = some (.int .i64 x)) (h1 : w.cell? ⟨b, 1, none⟩ = some (.int .i64 y)) :
    Calls Tryd.prog 61 #[.slice (some ⟨b, 0, none⟩) 2 2] w fun e w' => e = .returned (.int .i64 (if x ≠ 0 then x else y)) ∧ Gr w w' := by
  go_enter Tryd.func61, Tryd.ntmps61
  go_wp2_with fail
  go_loopw [8] (fun i wr => Gr w wr ∧ ((i = .int .i64 0) ∨ (i = .int .i64 1 ∧ Hid (x = 0)) ∨ (i = .int .i64 2 ∧ Hid (x = 0 ∧ y = 0)))) (fun i _ => 2 - (intOf i).toNat)
  case atStart => exact ⟨Gr.refl _, .inl rfl⟩
  case round =>
    obtain ⟨hb, rfl | ⟨rfl, H⟩ | ⟨rfl, H⟩⟩ := hrel
    · have d0 := hb.cell h0
      by_cases hx : x = 0
      · have HX := hid hx
        go_wp2_with fail
        exact ⟨⟨hb, .inr (.inl ⟨rfl, HX⟩)⟩, by simp [intOf]⟩
      · go_wp2_with fail
        go_ret
        exact ⟨by simp [hx], hb⟩
    · have d1 := hb.cell h1
      by_cases hy : y = 0
      · have HY : Hid (x = 0 ∧ y = 0) := hid ⟨H.out, hy⟩
        go_wp2_with fail
        exact ⟨⟨hb, .inr (.inr ⟨rfl, HY⟩)⟩, by simp [intOf]⟩
      · go_wp2_with fail
        go_ret
        exact ⟨by simp [H.out], hb⟩
    · go_wp2_with fail
      all_goals (go_ret; exact ⟨by simp [H.out], hb⟩)
set_option maxHeartbeats 2000000 in
theorem keyCmp_g (a b : Int × ByteArray) (w : World) :
    Calls Tryd.prog 51 #[.agg #[.int .i64 a.1, .string a.2], .agg #[.int .i64 b.1, .string b.2]] w fun e w' => e = .returned (.int .i64 (if compareInt a.1 b.1 ≠ 0 then compareInt a.1 b.1 else compareBytes a.2.data.toList b.2.data.toList)) ∧ Gr w w' := by
  have hc := fun W' => Tryd.cmp_Compare_int a.1 b.1 W'
  have hs := fun W' => Tryd.strings_Compare a.2 b.2 W'
  obtain ⟨r1, h1⟩ : ∃ r, r = compareInt a.1 b.1 := ⟨_, rfl⟩
  obtain ⟨r2, h2⟩ : ∃ r, r = compareBytes a.2.data.toList b.2.data.toList := ⟨_, rfl⟩
  rw [← h1] at hc ⊢
  rw [← h2] at hs ⊢
  clear h1 h2
  have ho := fun W' b h0 h1 => cmpOr_g b r1 r2 W' h0 h1
  obtain ⟨rr, hrr⟩ : ∃ rr, rr = if r1 ≠ 0 then r1 else r2 := ⟨_, rfl⟩
  simp only [← hrr] at ho ⊢
  clear hrr
  go_enter Tryd.func51, Tryd.ntmps51
  go_wp2_with fail
  have hg0 : Gr w ((w.alloc (.cells #[.int .i64 a.1, .string a.2] 32)).alloc (.cells #[.int .i64 b.1, .string b.2] 32)) := (Gr.alloc _ _).trans (Gr.alloc _ _)
  have hA0 : ((w.alloc (.cells #[.int .i64 a.1, .string a.2] 32)).alloc (.cells #[.int .i64 b.1, .string b.2] 32)).cell? ⟨w.heap.size, 0, none⟩ = some (.int .i64 a.1) := by simp
  have hA1 : ((w.alloc (.cells #[.int .i64 a.1, .string a.2] 32)).alloc (.cells #[.int .i64 b.1, .string b.2] 32)).cell? ⟨w.heap.size, 1, none⟩ = some (.string a.2) := by simp
  have hB0 : ((w.alloc (.cells #[.int .i64 a.1, .string a.2] 32)).alloc (.cells #[.int .i64 b.1, .string b.2] 32)).cell? ⟨w.heap.size + 1, 0, none⟩ = some (.int .i64 b.1) := by simp
  have hB1 : ((w.alloc (.cells #[.int .i64 a.1, .string a.2] 32)).alloc (.cells #[.int .i64 b.1, .string b.2] 32)).cell? ⟨w.heap.size + 1, 1, none⟩ = some (.string b.2) := by simp
  generalize ((w.alloc (.cells #[.int .i64 a.1, .string a.2] 32)).alloc (.cells #[.int .i64 b.1, .string b.2] 32)) = W1 at *
  generalize w.heap.size = A at *
  go_region_held3 (fun w' => w'.cell? ⟨A, 0, none⟩ = some (.int .i64 a.1) ∧ w'.cell? ⟨A, 1, none⟩ = some (.string a.2) ∧ w'.cell? ⟨A + 1, 0, none⟩ = some (.int .i64 b.1) ∧ w'.cell? ⟨A + 1, 1, none⟩ = some (.string b.2)) (first | exact ⟨hA0, hA1, hB0, hB1⟩ | exact ⟨q0, q1, q2, q3⟩ | go_keep) (first
    | (go_at_call 62; refine (hc _).mono ?_; rintro e w' ⟨rfl, rfl⟩)
    | (go_at_call 45; refine (hs _).mono ?_; rintro e w' ⟨rfl, rfl⟩)
    | (go_at_call 61; refine (ho _ _ ?_ ?_).mono ?_; simp; simp; rintro e w' ⟨rfl, hg⟩; have hg2 := (Gr.alloc W1 _).trans ((Gr.drew _).trans hg); have q0 := hg2.cell hA0; have q1 := hg2.cell hA1; have q2 := hg2.cell hB0; have q3 := hg2.cell hB1))
  all_goals (go_wp2_with fail; go_ret; exact ⟨rfl, hg0.trans hg2⟩)
end Go.Proofs.YtdappapdddnciaaDoor
