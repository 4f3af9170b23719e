/- Plain: dice. -/
import Derived.Test.YtdappapdddnciaaDoorUK
set_option linter.unusedVariables false
set_option linter.unusedSimpArgs false
namespace Go.Proofs.YtdappapdddnciaaDoor
open Go.RowKit
open Go.Lib hiding intOf

/-- dice that can be thrown -/
structure DiceOk (l : List Int) (at_ : Int) : Prop where
  low : 0 ≤ at_
  high : at_ ≤ l.length
  len : l.length ≤ 400
theorem next_ok {l : List Int} {i : Int} (h : DiceOk l i) {n : Int} (h1 : 1 ≤ n) (h2 : n ≤ 1000000000) : Ok (dice_Next ⟨l, i⟩ n) fun r => 0 ≤ r.1 ∧ r.1 < n ∧ DiceOk r.2.L r.2.At := by
  unfold dice_Next
  refine Ok.cond (fun h3 => Ok.ret ⟨by omega, by omega, h⟩) (fun h3 => ?_)
  have h3 : i < l.length := by simpa using h3
  have := h.low; have := h.high; have := h.len
  dsimp only
  rw [show IntKind.i64.wrap (i + 1) = i + 1 from w64 (by omega) (by omega), w64 (by omega) (by omega)]
  refine Ok.get (by simpa using h.low) (by simpa using h3) fun v _ _ => ?_
  obtain ⟨m, rfl⟩ : ∃ m : Nat, n = m := ⟨n.toNat, by omega⟩
  obtain ⟨r, hr, e⟩ := mod_is v (m := m) (by omega) (by omega)
  exact Ok.eq e (Ok.ret ⟨by simp, by simp; omega, ⟨by simp; omega, by simp; omega, h.len⟩⟩)
theorem word_ok {l : List Int} {i : Int} (h : DiceOk l i) {ws : List ByteArray} (h1 : 1 ≤ ws.length) (h2 : ws.length ≤ 1000) : Ok (dice_Word ⟨l, i⟩ ws) fun r => r.1 ∈ ws ∧ DiceOk r.2.L r.2.At := by
  unfold dice_Word
  refine Ok.bind (next_ok h (by omega) (by omega)) fun r hr => Ok.get hr.1 hr.2.1 fun v _ hv => Ok.ret ⟨hv, hr.2.2⟩

end Go.Proofs.YtdappapdddnciaaDoor
