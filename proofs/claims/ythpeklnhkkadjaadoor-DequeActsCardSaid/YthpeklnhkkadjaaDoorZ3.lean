/- Law 32, plain: DequeActs. -/
import Derived.Test.YthpeklnhkkadjaaDoorZ2
import Derived.Test.YthpeklnhkkadjaaDoorD3
set_option linter.unusedVariables false
set_option linter.unusedSimpArgs false
namespace Go.Proofs.YthpeklnhkkadjaaDoor
open Go.RowKit
open Go.Lib hiding intOf

def TxtOk (l : List KeyD) : Prop := ∀ x ∈ l, x.Text.size ≤ 140737488355328
theorem copy32 {l : List KeyD} (h : l.length ≤ 1000) : ref32_Copy ⟨l⟩ = some ⟨l⟩ := by
  unfold ref32_Copy
  dsimp only
  rw [show roomB (([] : List KeyD).length + l.length) = true from room (by simp; omega)]
  rfl
noncomputable def pushR (l : List KeyD) (k : KeyD) : DequeD × Int := bif vk k then (bif decide (64 ≤ (l.length : Int)) then (⟨l⟩, 45) else (⟨l ++ [k]⟩, 0)) else (⟨l⟩, 40)
theorem push_same {l : List KeyD} {k : KeyD} (h : l.length ≤ 1000) (hk : k.Text.size ≤ 140737488355328) : deque_Push ⟨l⟩ k = some (pushR l k) ∧ ref32_Push ⟨l⟩ k = some (pushR l k) := by
  obtain ⟨h1, h2⟩ := vk_is hk
  have hr : roomB (l.length + [k].length) = true := room (by simp; omega)
  unfold pushR
  constructor
  · unfold deque_Push deque_owned
    dsimp only
    rw [clone_is (by omega), h1]
    simp only [Option.bind_some, hr]
    cases vk k <;> cases decide ((64 : Int) ≤ (l.length : Int)) <;> rfl
  · unfold ref32_Push
    rw [copy32 h, h2]
    simp only [Option.bind_some, hr]
    cases vk k <;> cases decide ((64 : Int) ≤ (l.length : Int)) <;> rfl
theorem samelist_self {l : List KeyD} (h : l.length ≤ 100000) : ref23_SameList l l = some true := by
  unfold ref23_SameList
  rw [show ((l.length : Int) != (l.length : Int)) = false by simp, cond_false]
  rw [show loop (fun s : Int => ref23_SameList_l2 l l s) 0 = some (Fl.go ()) from by
    refine loop_gather (xs := l) (fun k => (k : Int)) rfl (fun k x hx => ?_) ?_
    · unfold ref23_SameList_l2
      have := lt_of_get hx
      rw [dlt_of hx, cond_true, getI_nat, hx, Option.bind_some, Option.bind_some, key_self, winc (by omega)]
      rfl
    · unfold ref23_SameList_l2
      rw [dlt_end]; rfl]
  rfl
theorem same32 {l : List KeyD} (h : l.length ≤ 100000) : ref32_Same ⟨l⟩ ⟨l⟩ = some true := by
  unfold ref32_Same
  rw [samelist_self h]; rfl
theorem valid32 {l : List KeyD} (h : l.length ≤ 1000) (ht : TxtOk l) : ∃ b, deque_Valid ⟨l⟩ = some b ∧ ref32_Valid ⟨l⟩ = some b := by
  refine ⟨decide ((l.length : Int) ≤ 64) && !(l.any fun k => !vk k), ?_, ?_⟩
  · unfold deque_Valid
    dsimp only
    have hc : containsf_key deque_Valid1 l = some (l.any fun k => !vk k) := by
      unfold containsf_key indexf_key
      have hL := loop_first (B := fun s : Int × Int => indexf_key_l2 l deque_Valid1 s.1 s.2) (xs := l) (fun k => !vk k) (fun k => ((l.length : Int), (k : Int))) rfl (y := fun k _ => Fl.out (k : Int)) (n := Fl.go ()) (fun k x hx hp => ?_) (fun k x hx hp => ?_) ?_
      · rcases hL with ⟨k, x, h1, h2, h3, h4⟩ | ⟨h1, h2⟩
        · rw [show ((l.length : Int), (0 : Int)) = ((l.length : Int), ((0 : Nat) : Int)) from rfl, h4, show (l.any fun k => !vk k) = true from List.any_eq_true.2 ⟨x, List.mem_of_getElem? h1, h2⟩]
          simp [Fl.el]
        · rw [show ((l.length : Int), (0 : Int)) = ((l.length : Int), ((0 : Nat) : Int)) from rfl, h2, show (l.any fun k => !vk k) = false from by
            rw [List.any_eq_false]; intro x hx; rw [h1 x hx]; decide]
          rfl
      · dsimp only
        have := lt_of_get hx
        unfold indexf_key_l2 deque_Valid1
        rw [dlt_of hx, cond_true, getI_nat, hx, Option.bind_some, (vk_is (ht x (List.mem_of_getElem? hx))).1, Option.bind_some, Option.bind_some, hp, winc (by omega)]
        rfl
      · dsimp only
        unfold indexf_key_l2 deque_Valid1
        rw [dlt_of hx, cond_true, getI_nat, hx, Option.bind_some, (vk_is (ht x (List.mem_of_getElem? hx))).1, Option.bind_some, Option.bind_some, hp]
        rfl
      · dsimp only
        unfold indexf_key_l2
        rw [dlt_end]; rfl
    rw [hc]
    cases decide ((l.length : Int) ≤ 64) <;> rfl
  · unfold ref32_Valid
    dsimp only
    rw [loop_any (B := fun s : Int × Int => ref32_Valid_l2 ⟨l⟩ s.1 s.2) (xs := l) (fun k => !vk k) (fun k => ((l.length : Int), (k : Int))) (s0 := ((l.length : Int), 0)) rfl (y := Fl.out false) (n := Fl.go ()) (fun k x hx hp => by
        dsimp only
        have := lt_of_get hx
        unfold ref32_Valid_l2
        dsimp only
        rw [dlt_of hx, cond_true, getI_nat, hx, Option.bind_some, (vk_is (ht x (List.mem_of_getElem? hx))).2, Option.bind_some, hp, winc (by omega)]
        rfl) (fun k x hx hp => by
        dsimp only
        unfold ref32_Valid_l2
        dsimp only
        rw [dlt_of hx, cond_true, getI_nat, hx, Option.bind_some, (vk_is (ht x (List.mem_of_getElem? hx))).2, Option.bind_some, hp]
        rfl) (by
        dsimp only
        unfold ref32_Valid_l2
        dsimp only
        rw [dlt_end]; rfl)]
    cases (l.any fun k => !vk k)
    · show ref32_Valid_j1 ⟨l⟩ = _
      unfold ref32_Valid_j1
      simp
    · simp [Fl.el]
theorem pop32 {l : List KeyD} (h : l.length ≤ 1000) : ∃ (m : List KeyD) (k : KeyD) (b : Bool), m.length ≤ 1000 ∧ deque_Pop ⟨l⟩ = some (⟨m⟩, k, b) ∧ ref32_Pop ⟨l⟩ = some (⟨m⟩, k, b) := by
  unfold deque_Pop ref32_Pop
  rw [copy32 h]
  dsimp only [Option.bind_some]
  rcases (show l.length = 0 ∨ 0 < l.length by omega) with h0 | h0
  · have : l = [] := List.eq_nil_of_length_eq_zero h0
    subst this
    exact ⟨[], _, _, by simp, rfl, rfl⟩
  · have e0 : (((l.length : Int) : Int) == 0) = false := by simp; intro e; subst e; simp at h0
    have e1 : IntKind.i64.wrap ((l.length : Int) - 1) = ((l.length - 1 : Nat) : Int) := by rw [w64 (by omega) (by omega)]; omega
    rw [e0, e1, show (0 : Int) = ((0 : Nat) : Int) from rfl, subI_at (by omega) (by omega), getI_nat, List.getElem?_eq_getElem (show l.length - 1 < l.length by omega)]
    simp only [cond_false, Option.bind_some]
    rw [clone_is (by simp; omega)]
    exact ⟨_, _, _, by simp; omega, rfl, rfl⟩
theorem steal32 {l : List KeyD} (h : l.length ≤ 1000) : ∃ (m : List KeyD) (k : KeyD) (b : Bool), m.length ≤ 1000 ∧ deque_Steal ⟨l⟩ = some (⟨m⟩, k, b) ∧ ref32_Steal ⟨l⟩ = some (⟨m⟩, k, b) := by
  unfold deque_Steal ref32_Steal
  rw [copy32 h]
  dsimp only [Option.bind_some]
  rcases (show l.length = 0 ∨ 0 < l.length by omega) with h0 | h0
  · have : l = [] := List.eq_nil_of_length_eq_zero h0
    subst this
    exact ⟨[], _, _, by simp, rfl, rfl⟩
  · have e0 : (((l.length : Int) : Int) == 0) = false := by simp; intro e; subst e; simp at h0
    rw [e0, show (1 : Int) = ((1 : Nat) : Int) from rfl, subI_at (by omega) (by omega), show (0 : Int) = ((0 : Nat) : Int) from rfl, getI_nat, List.getElem?_eq_getElem (show 0 < l.length by omega)]
    simp only [cond_false, Option.bind_some]
    rw [clone_is (by simp; omega)]
    exact ⟨_, _, _, by simp; omega, rfl, rfl⟩
/-- keys dealt, twice -/
theorem deal_same {l : List KeyD} (h : l.length ≤ 1000) (ht : TxtOk l) (z : Int) : ∃ (out : List DequeD) (c : Int), (∀ d ∈ out, d.Keys.length ≤ 1000) ∧ out.length ≤ 6 ∧ deque_Deal l z = some (out, c) ∧ ref32_Deal l z = some (out, c) := by
  unfold deque_Deal ref32_Deal
  by_cases h1 : z < 1
  · rw [decide_eq_true h1]
    exact ⟨[], 48, by simp, by simp, rfl, rfl⟩
  by_cases h2 : 6 < z
  · rw [decide_eq_false h1, decide_eq_true h2]
    exact ⟨[], 48, by simp, by simp, rfl, rfl⟩
  rw [decide_eq_false h1, decide_eq_false h2]
  simp only [cond_false]
  obtain ⟨w, rfl⟩ : ∃ w : Nat, z = (w : Int) := ⟨z.toNat, by omega⟩
  have hw : 1 ≤ w := by omega
  have h6 : w ≤ 6 := by omega
  by_cases hv : ∀ x ∈ l, vk x = true
  · have hV : ∀ x ∈ l, key_Valid x = some true := fun x hx => by rw [(vk_is (ht x hx)).1, hv x hx]
    rw [contains_none h hV, show loop (fun s : Int => ref32_Deal_l5 l s) 0 = some (Fl.go ()) from by
      refine loop_gather (xs := l) (fun k => (k : Int)) rfl (fun k x hx => ?_) ?_
      · have := lt_of_get hx
        have hm := List.mem_of_getElem? hx
        unfold ref32_Deal_l5
        rw [dlt_of hx, cond_true, getI_nat, hx, Option.bind_some, (vk_is (ht x hm)).2, hv x hm, winc (by omega)]
        rfl
      · unfold ref32_Deal_l5
        rw [dlt_end]; rfl]
    simp only [Option.bind_some, cond_false, Fl.el]
    rw [w64 (by omega) (by omega), decide_eq_true (show (0 : Int) ≤ (w : Int) by omega)]
    unfold ref32_Deal_j4
    rw [decide_eq_true (show (0 : Int) ≤ (w : Int) by omega)]
    simp only [gd_tt, Int.toNat_natCast]
    rw [show roomB w = true from room (by omega), gd_tt, gd_tt]
    obtain ⟨f, hf⟩ : ∃ f : Nat → KeyD, ∀ (k : Nat) x, l[k]? = some x → f k = x := ⟨fun k => (l[k]?).getD ⟨0, ByteArray.mk #[]⟩, fun k x hx => by dsimp only; rw [hx]; rfl⟩
    have hgo : ∀ k x, l[k]? = some x → k < w * 64 → ref32_Deal_l3 l (w : Int) (dealtD f w k) (k : Int) = some (.go (dealtD f w (k + 1), ((k + 1 : Nat) : Int))) := fun k x hx hk => by
      have hk0 := lt_of_get hx
      have hm : k % w < w := Nat.mod_lt _ hw
      have hmem := List.mem_of_getElem? hx
      have hc := share_room (f := f) (n := k) hw h6 hm
      have hc2 : cntD w k (k % w) < 64 := by
        unfold cntD
        rcases six hw h6 with rfl | rfl | rfl | rfl | rfl | rfl <;> omega
      unfold ref32_Deal_l3
      rw [dlt_of hx, cond_true, getI_nat, hx, Option.bind_some, show ((w : Int) != 0) = true by simp; omega, tmod_nat, getI_nat, dealt_get hm, gd_tt, Option.bind_some, (push_same (by rw [share_len]; omega) (ht x hmem)).2]
      unfold pushR
      rw [hv x hmem, share_len, decide_eq_false (show ¬ (64 ≤ ((cntD w k (k % w) : Nat) : Int)) by omega)]
      dsimp only [cond_true, cond_false, Option.bind_some]
      unfold ref32_Deal_j2
      rw [show ((0 : Int) != 0) = false from rfl, show ((w : Int) != 0) = true by simp; omega, tmod_nat, getI_nat, dealt_get hm]
      simp only [cond_false, gd_tt, Option.bind_some, Int.toNat_natCast]
      rw [← hf k x hx, dealt_step hw h6, winc (by omega)]
    by_cases h64 : (w : Int) * 64 < (l.length : Int)
    · rw [decide_eq_true h64]
      refine ⟨[], 45, by simp, by simp, rfl, ?_⟩
      rw [show loop (fun s : (List DequeD) × Int => ref32_Deal_l3 l (w : Int) s.1 s.2) ((List.replicate w (DequeD.mk [])), 0) = some (Fl.out ([], 45)) from by
        refine loop_to (fun k => (dealtD f w k, (k : Int))) (w * 64) (by rw [dealt_zero (f := f) hw h6]; rfl) (fun k hk => ?_) ?_
        · have hk2 : k < l.length := by omega
          exact hgo k _ (List.getElem?_eq_getElem hk2) hk
        · dsimp only
          have hk2 : w * 64 < l.length := by omega
          have hx := List.getElem?_eq_getElem hk2
          have hmem := List.mem_of_getElem? hx
          have hm : w * 64 % w < w := Nat.mod_lt _ hw
          have hc := share_room (f := f) (n := w * 64) hw h6 hm
          have hc2 : 64 ≤ cntD w (w * 64) (w * 64 % w) := by
            unfold cntD
            rcases six hw h6 with rfl | rfl | rfl | rfl | rfl | rfl <;> omega
          unfold ref32_Deal_l3
          rw [dlt_of hx, cond_true, getI_nat, hx, Option.bind_some, show ((w : Int) != 0) = true by simp; omega, tmod_nat, getI_nat, dealt_get hm, gd_tt, Option.bind_some, (push_same (by rw [share_len]; omega) (ht _ hmem)).2]
          unfold pushR
          rw [hv _ hmem, share_len, decide_eq_true (show (64 ≤ ((cntD w (w * 64) (w * 64 % w) : Nat) : Int)) by omega)]
          rfl]
      rfl
    · rw [decide_eq_false h64, deal_loop (f := f) hw h6 h hf]
      rw [show loop (fun s : (List DequeD) × Int => ref32_Deal_l3 l (w : Int) s.1 s.2) ((List.replicate w (DequeD.mk [])), 0) = some (Fl.go (dealtD f w l.length)) from by
        refine loop_gather (xs := l) (fun k => (dealtD f w k, (k : Int))) (by rw [dealt_zero (f := f) hw h6]; rfl) (fun k x hx => hgo k x hx (by have := lt_of_get hx; omega)) ?_
        dsimp only
        unfold ref32_Deal_l3
        rw [dlt_end]; rfl]
      refine ⟨dealtD f w l.length, 0, fun d hd => ?_, by rw [dealt_len]; omega, rfl, rfl⟩
      obtain ⟨i, hi⟩ := List.mem_iff_getElem?.1 hd
      have hi2 := lt_of_get hi
      rw [dealt_len] at hi2
      rw [dealt_get hi2] at hi
      obtain rfl := Option.some.inj hi
      dsimp only
      rw [share_len]
      have := share_room (f := f) (n := l.length) hw h6 hi2
      omega
  · obtain ⟨x, hx, hvx⟩ : ∃ x ∈ l, vk x = false := by
      refine Classical.byContradiction fun hn => hv fun x hx => ?_
      cases e : vk x
      · exact absurd ⟨x, hx, e⟩ hn
      · rfl
    have ha : (l.any fun k => !vk k) = true := List.any_eq_true.2 ⟨x, hx, by rw [hvx]; rfl⟩
    refine ⟨[], 40, by simp, by simp, ?_, ?_⟩
    · have hc : containsf_key deque_Deal1 l = some true := by
        unfold containsf_key indexf_key
        have hL := loop_first (B := fun s : Int × Int => indexf_key_l2 l deque_Deal1 s.1 s.2) (xs := l) (fun k => !vk k) (fun k => ((l.length : Int), (k : Int))) rfl (y := fun k _ => Fl.out (k : Int)) (n := Fl.go ()) (fun k x hx hp => ?_) (fun k x hx hp => ?_) ?_
        · rcases hL with ⟨k, x, h1, h2, h3, h4⟩ | ⟨h1, h2⟩
          · rw [show ((l.length : Int), (0 : Int)) = ((l.length : Int), ((0 : Nat) : Int)) from rfl, h4]
            simp [Fl.el]
          · exact absurd (h1 x hx) (by rw [hvx]; decide)
        · dsimp only
          have := lt_of_get hx
          unfold indexf_key_l2 deque_Deal1
          rw [dlt_of hx, cond_true, getI_nat, hx, Option.bind_some, (vk_is (ht x (List.mem_of_getElem? hx))).1, Option.bind_some, Option.bind_some, hp, winc (by omega)]
          rfl
        · dsimp only
          unfold indexf_key_l2 deque_Deal1
          rw [dlt_of hx, cond_true, getI_nat, hx, Option.bind_some, (vk_is (ht x (List.mem_of_getElem? hx))).1, Option.bind_some, Option.bind_some, hp]
          rfl
        · dsimp only
          unfold indexf_key_l2
          rw [dlt_end]; rfl
      rw [hc]; rfl
    · rw [loop_any (B := fun s : Int => ref32_Deal_l5 l s) (xs := l) (fun k => !vk k) (fun k => (k : Int)) (s0 := (0 : Int)) rfl (y := Fl.out ([], 40)) (n := Fl.go ()) (fun k x hx hp => by
        have := lt_of_get hx
        unfold ref32_Deal_l5
        rw [dlt_of hx, cond_true, getI_nat, hx, Option.bind_some, (vk_is (ht x (List.mem_of_getElem? hx))).2, Option.bind_some, hp, winc (by omega)]
        rfl) (fun k x hx hp => by
        unfold ref32_Deal_l5
        rw [dlt_of hx, cond_true, getI_nat, hx, Option.bind_some, (vk_is (ht x (List.mem_of_getElem? hx))).2, Option.bind_some, hp]
        rfl) (by
        unfold ref32_Deal_l5
        rw [dlt_end]; rfl), ha]
      rfl
end Go.Proofs.YthpeklnhkkadjaaDoor
