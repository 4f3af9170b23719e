/- Plain laws: what a rule does next. -/
import Derived.Test.YtappkgmbdoiocaaDoorU8
set_option linter.unusedVariables false
set_option linter.unusedSimpArgs false
namespace Go.Proofs.YtappkgmbdoiocaaDoor
open Go.RowKit
open Go.Lib hiding intOf

def Small (ls : List ByteArray) : Prop := ∀ s ∈ ls, s.size ≤ 140737488355328
theorem lim_le {l : List RuleD} {i : Nat} (h : i < l.length) : lim (rings l) i ≤ l.length := by
  have := blk_in (rs := rings l) (n := i) (by simpa [rings] using h)
  have hl : (rings l).length = l.length := by simp [rings]
  unfold lim
  split <;> omega
/-- the key that an ask asks for -/
noncomputable def askK (l : List RuleD) (a : AskD) (t : Nat) : KeyD := if a.Cell then cellK t else match l[t]? with
  | some r => ruleK r t
  | none => ⟨0, ByteArray.mk #[]⟩
/-- which one it asks for -/
noncomputable def askT (a : AskD) (ls : List ByteArray) : Int := if elseB a ls then a.Else else a.N
theorem askT_ok {ring : Bool} {k : Nat} {b : Int} {a : AskD} (h : AskOk ring k b a) (ls : List ByteArray) : 0 ≤ askT a ls ∧ (a.Cell = true → askT a ls < 4) ∧ (a.Cell = false → askT a ls < b) := by
  unfold askT
  split
  · exact ⟨h.low2, h.cell2, h.rule2⟩
  · exact ⟨h.low, h.cell, h.rule⟩
theorem j2_ask {l : List RuleD} (hl : l.length ≤ 100) {a : AskD} {g : Bool} {t : Nat} (ht : (if g then a.Else else a.N) = t) (hc : a.Cell = true → t < 4) (hr : a.Cell = false → t < l.length) : toy_Turn_j2 l a g = some ⟨false, ByteArray.mk #[], askK l a t⟩ := by
  have key : toy_Turn_j1 l a t = some ⟨false, ByteArray.mk #[], askK l a t⟩ := by
    unfold toy_Turn_j1 askK
    cases h : a.Cell with
    | true => rw [cond_true, key_cell_is (by have := hc h; omega)]; rfl
    | false =>
      have := hr h
      rw [cond_false, key_of_is this (by omega), List.getElem?_eq_getElem this]; rfl
  unfold toy_Turn_j2
  cases g
  · simp only [Bool.false_eq_true, if_false] at ht; rw [cond_false, ht]; exact key
  · simp only [if_true] at ht; rw [cond_true, ht]; exact key
section
variable {l : List RuleD} {i : Nat} {ls : List ByteArray}
/-- a rule that asks, and for what -/
theorem asks_ok (hR : RulesOk l) (h : i < l.length) (hn : ls.length < l[i].Asks.length) (hs : Small ls) :
    ∃ t : Nat, askT l[i].Asks[ls.length] ls = t ∧ (l[i].Asks[ls.length].Cell = true → t < 4) ∧ (l[i].Asks[ls.length].Cell = false → t < lim (rings l) i ∧ t < l.length) ∧ toy_Turn l (ruleK l[i] i) ls = some ⟨false, ByteArray.mk #[], askK l l[i].Asks[ls.length] t⟩ := by
  have hr := hR.each i _ (List.getElem?_eq_getElem h)
  have hl8 := hR.high
  have ha := hr.each _ _ (List.getElem?_eq_getElem hn)
  have h3 := hr.asks
  obtain ⟨h0, h1, h2⟩ := askT_ok ha ls
  have hlim := lim_le h
  obtain ⟨t, ht⟩ : ∃ t : Nat, askT l[i].Asks[ls.length] ls = t := ⟨(askT l[i].Asks[ls.length] ls).toNat, by omega⟩
  rw [ht] at h0 h1 h2
  refine ⟨t, ht, fun h => by have := h1 h; omega, fun h => by have := h2 h; omega, ?_⟩
  rw [turn_ask h (by omega) hn (by omega) hs]
  exact j2_ask (by omega) ht (fun h => by have := h1 h; omega) (fun h => by have := h2 h; omega)
/-- a rule that has all it asked for -/
theorem done_ok (hR : RulesOk l) (h : i < l.length) (hn : l[i].Asks.length ≤ ls.length) (hs : Small ls) :
    ∃ c : Nat, l[i].C = c ∧ c ≤ 16 ∧ toy_Turn l (ruleK l[i] i) ls = some ⟨true, itoaS (finN l[i].Final (c :: (ls.take l[i].Asks.length).map valN) : Nat), ⟨0, ByteArray.mk #[]⟩⟩ ∧ ∀ x ∈ c :: (ls.take l[i].Asks.length).map valN, x ≤ 65535 := by
  have hr := hR.each i _ (List.getElem?_eq_getElem h)
  have hl8 := hR.high
  have h3 := hr.asks
  have hc : 0 ≤ l[i].C ∧ l[i].C ≤ 16 := by
    cases hb : l[i].Ring with
    | true => exact ⟨(hr.ring hb).2.1, (hr.ring hb).2.2⟩
    | false => have := hr.plain hb; omega
  obtain ⟨c, hc2⟩ : ∃ c : Nat, l[i].C = c := ⟨l[i].C.toNat, by omega⟩
  have hb : ∀ x ∈ c :: (ls.take l[i].Asks.length).map valN, x ≤ 65535 := fun x hx => by
    rcases List.mem_cons.1 hx with rfl | hx
    · omega
    · obtain ⟨s, _, rfl⟩ := List.mem_map.1 hx
      exact valN_le s
  refine ⟨c, hc2, by omega, ?_, hb⟩
  rw [turn_done h (by omega) hn (by omega) hs]
  have e : l[i].C :: (ls.take l[i].Asks.length).map valS = (c :: (ls.take l[i].Asks.length).map valN).map fun x : Nat => (x : Int) := by
    rw [List.map_cons, List.map_map, hc2]
    congr 1
    exact List.map_congr_left fun s hs2 => valS_N (hs s (List.mem_of_mem_take hs2))
  rw [e]
  unfold toy_Turn_j3
  rw [toy_final_is _ hb (by simp; omega)]
  have := finN_le l[i].Final hb
  rw [Option.bind_some, itoaM_nat (by omega)]
  rfl
end
theorem number_ask {l : List RuleD} {a : AskD} {t : Nat} (hc : a.Cell = true → t < 4) (hr : a.Cell = false → t < l.length) (hl : l.length ≤ 100) : ref23_Number (askK l a t) = some (t : Int) ∧ (a.Cell = true → (askK l a t).Kind = 30) ∧ (a.Cell = false → (askK l a t).Kind ≠ 30) ∧ ref23_Valid (askK l a t) = some true := by
  have key : ∀ k : Int, 30 ≤ k ∧ k ≤ 32 → t < 100 → ref23_Number ⟨k, itoaS t⟩ = some (t : Int) ∧ ref23_Valid ⟨k, itoaS t⟩ = some true := fun k hk ht => by
    have h1 : ref23_Number ⟨k, itoaS t⟩ = some (t : Int) := by
      rw [ref_number]
      unfold numK numI
      rw [if_pos hk, itoaS_list, itoa_nat, decI_dec (by omega), if_pos (by omega)]
    refine ⟨h1, ?_⟩
    unfold ref23_Valid ref23_Valid_j2
    rw [decide_eq_true hk.1]
    simp only [cond_true]
    rw [decide_eq_true hk.2, cond_true, h1]
    simp
  unfold askK
  cases h : a.Cell with
  | true =>
    have := hc h
    obtain ⟨k1, k2⟩ := key 30 (by omega) (by omega)
    simp only [if_true]
    exact ⟨k1, fun _ => rfl, fun h => (by cases h), k2⟩
  | false =>
    have := hr h
    simp only [Bool.false_eq_true, if_false]
    rw [List.getElem?_eq_getElem this]
    simp only [ruleK]
    cases l[t].Ring with
    | true =>
      obtain ⟨k1, k2⟩ := key 32 (by omega) (by omega)
      exact ⟨k1, fun h => (by cases h), fun _ => (by simp), k2⟩
    | false =>
      obtain ⟨k1, k2⟩ := key 31 (by omega) (by omega)
      exact ⟨k1, fun h => (by cases h), fun _ => (by simp), k2⟩
end Go.Proofs.YtappkgmbdoiocaaDoor
