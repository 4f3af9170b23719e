/- recompilelaw01.SourceRaw: true, whatever it is given. -/
import Derived.Test.YtpjpndbagkcgcaaB7
import Derived.Test.YtpjpndbagkcgcaaA9
set_option linter.unusedVariables false
set_option linter.unusedSimpArgs false
namespace Go.Proofs.Ytpjpndbagkcgcaa
open Go.RowKit

set_option maxHeartbeats 8000000 in
set_option maxRecDepth 100000 in
theorem raw_any (l : List Src) (s : Src) (x : Ed) (v : Value) (w : World) (hv : Sl srcE 2 w w.heap.size v l) (hs : SzOk l) (h1 : s.1.size ≤ 140737488355328) (h2 : s.2.size ≤ 140737488355328) (hx : EdOk x) :
    Calls Try.prog 6 #[v, .agg #[.string s.1, .string s.2], edV x] w fun e w' => e = .returned (.bool true) ∧ Below w.heap.size w w' := by
  obtain ⟨W0, hW0, hC, hB⟩ := agree_pre l s x v w hv
  have HW0 := hid hW0
  clear hW0
  have hx2 := hx
  obtain ⟨q1, q2, q3, q4, q5, q6⟩ := hx2
  obtain ⟨A, c, rfl, hnc, hcap, hcell⟩ := hv
  unfold maxLen at hcap
  clear hcell
  by_cases h50 : (50 : Int) < (l.length : Int)
  · unfold edV
    go_enter Try.func6, Try.ntmps6
    go_upto_region 1 with fail
    rw [← HW0.out]
    clear HW0
    go_wp2_with (go_at_call 9; refine (awake_any _).mono ?_; rintro e w1 ⟨rfl, hb⟩)
    go_ret
    exact ⟨rfl, below_step hB hb⟩
  · have g0 : decide ((50 : Int) < (l.length : Int)) = false := by simpa using h50
    have hl : l.length ≤ 1000000000000 := by omega
    unfold edV
    go_enter Try.func6, Try.ntmps6
    go_upto_region 1 with fail
    rw [← HW0.out]
    clear HW0
    go_wp2_with fail
    refine (awake_any _).mono ?_
    rintro e w1 ⟨rfl, hb⟩
    have hC1 := hC.later hb
    have hB1 := below_step hB hb
    obtain ⟨p0, r1, r2, r3, r4, r5, r6⟩ := hC1
    go_wp2_with fail
    refine (agree_any l s x _ _ p0 hs hl h1 h2 hx).mono ?_
    rintro e w2 ⟨rfl, hb2⟩
    obtain ⟨p0', t1, t2, t3, t4, t5, t6⟩ := Cx.later (s := s) (x := x) ⟨p0, r1, r2, r3, r4, r5, r6⟩ hb2
    clear r1 r2 r3 r4 r5 r6
    have hB2 := below_step hB1 hb2
    go_wp2_with fail
    refine (agree_any l (x.m, x.text) ⟨s.1, x.at_, x.cnt, s.2⟩ _ _ p0' hs hl q1 q2 ⟨h1, h2, q3, q4, q5, q6⟩).mono ?_
    rintro e w3 ⟨rfl, hb3⟩
    have hB3 := below_step hB2 hb3
    go_wp2_with fail
    go_ret
    exact ⟨rfl, hB3⟩
end Go.Proofs.Ytpjpndbagkcgcaa
