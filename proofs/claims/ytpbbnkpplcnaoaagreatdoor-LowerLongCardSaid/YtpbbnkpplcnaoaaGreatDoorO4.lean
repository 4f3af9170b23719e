/- LowerLong: the library: Trim, Atoi, IndexAny, CutPrefix at short strings; digits, number. -/
import Derived.Test.YtpbbnkpplcnaoaaGreatDoorO3
import Derived.Test.YtpbbnkpplcnaoaaGreatDoorShelf
import Derived.Shelf.Strings.SlTrimAscii
import Derived.Lib.AtoiErrMem
set_option linter.unusedVariables false
set_option linter.unusedSimpArgs false
namespace Go.Proofs.YtpbbnkpplcnaoaaGreatDoor
open Go.RowKit

theorem zero137 : ∀ w, (zeroValue 137).run Tryz.prog w = .ok (.agg (Array.replicate 256 (.bool false))) w := fun w => by
  have h : (Tryz.prog.info? 137).bind (·.zero) = some (.agg (Array.replicate 256 (.bool false))) := by kernel_rfl
  cases hi : Tryz.prog.info? 137 with
  | none => rw [hi] at h; cases h
  | some i =>
    rw [hi] at h
    simp only [Option.bind_some] at h
    simp [zeroValue, typeInfo, hi, h]
/-- the ten digits -/
abbrev tenB : ByteArray := ⟨#[48, 49, 50, 51, 52, 53, 54, 55, 56, 57]⟩
theorem trim_digit (s : ByteArray) (w : World) (h0 : 0 < s.size) (hs : s.size ≤ 18) (h : Lib.trimS s.data.toList tenB.data.toList = []) :
    Calls Tryz.prog 90 #[.string s, .string tenB] w (fun e w' => e = .returned (.string (ByteArray.mk #[])) ∧ Kt No w w') := by
  refine (Any.strings_Trim_set Tryz.lays160 zero137 (by kernel_rfl) s tenB w (by decide) h0 (by omega) (by decide) ?_).mono ?_
  · intro j b hj
    have : b ∈ tenB.data.toList := List.mem_of_getElem? hj
    simp at this
    rcases this with rfl | rfl | rfl | rfl | rfl | rfl | rfl | rfl | rfl | rfl <;> decide
  · rintro e w' ⟨rfl, q, rfl⟩
    rw [h]
    exact ⟨rfl, ((Kt.alloc _ _).trans (Kt.alloc _ _)).trans (Kt.drewN _ _)⟩
theorem atoi_digit (s : ByteArray) (n : Int) (w : World) (hs : s.size ≤ 18) (h : Lib.atoi s.data.toList = some n) :
    Calls Tryz.prog 91 #[.string s] w (fun e w' => e = .returned (.tuple #[.int .i64 n, .nilIface]) ∧ Kt No w w') := by
  refine (Tryz.strconv_Atoi s n hs h w).mono ?_
  rintro e w' ⟨rfl, t, rfl⟩
  exact ⟨rfl, Kt.ofBelow (Lib.bytesWorld_below _ _ _)⟩
theorem indexAny_short (s : ByteArray) (w : World) (h8 : s.size ≤ 8) (hascii : ∀ (j : Nat) b, s.data.toList[j]? = some b → b.toNat < 128) (n : Int) (h : Lib.indexAny s.data.toList [60, 62, 44] = n) :
    Calls Tryz.prog 86 #[.string s, .string ⟨#[60, 62, 44]⟩] w (fun e w' => e = .returned (.int .i64 n) ∧ Kt No w w') := by
  refine (Tryz.strings_IndexAny_short s ⟨#[60, 62, 44]⟩ w (by decide) h8 hascii).mono ?_
  rintro e w' ⟨rfl, pos, rfl⟩
  subst h
  exact ⟨rfl, Kt.alloc _ _⟩
theorem cut_dollar (s : ByteArray) (w : World) (h : Lib.hasPrefix s.data.toList [36] = false) :
    Calls Tryz.prog 88 #[.string s, .string ⟨#[36]⟩] w (fun e w' => e = .returned (.tuple #[.string s, .bool false]) ∧ Kt No w w') := by
  refine (Tryz.strings_CutPrefix s ⟨#[36]⟩ w).mono ?_
  rintro e w' ⟨rfl, rfl⟩
  refine ⟨?_, Kt.refl _ _⟩
  have h : Lib.hasPrefix s.data.toList ([36] : List UInt8) = false := h
  have h2 : Lib.trimPrefix s.data.toList ([36] : List UInt8) = s.data.toList := by unfold Lib.trimPrefix; rw [h]; simp
  show Ending.returned (.tuple #[.string ⟨(Lib.trimPrefix s.data.toList ([36] : List UInt8)).toArray⟩, .bool (Lib.hasPrefix s.data.toList ([36] : List UInt8))]) = _
  rw [h, h2]

set_option maxHeartbeats 2000000 in
theorem digits_fr (s : ByteArray) (n : Int) (w : World) (h0 : 0 < s.size) (hs : s.size ≤ 18) (ht : Lib.trimS s.data.toList tenB.data.toList = []) (hn : Lib.atoi s.data.toList = some n) :
    Calls Tryz.prog 62 #[.string s] w (fun e w' => e = .returned (.tuple #[.int .i64 n, .bool true]) ∧ Kt No w w') := by
  have hne : (s.toList == []) = false := by
    cases h : s.toList with
    | nil => have := size_eq s; rw [h] at this; simp only [List.length_nil] at this; omega
    | cons _ _ => rfl
  have H := hid hn
  have HT := hid ht
  clear hn ht
  go_enter Tryz.func62, Tryz.ntmps62
  go_wp2_with fail
  refine (trim_digit s _ h0 hs HT.out).mono ?_
  rintro e w1 ⟨rfl, hK1⟩
  go_wp2_with fail
  refine (atoi_digit s n _ hs H.out).mono ?_
  rintro e w2 ⟨rfl, hK2⟩
  go_wp2
  go_quiet (fail)
  go_wp2
  go_returns
  exact ⟨rfl, (hK1.trans hK2).trans (Kt.drewN _ _)⟩

set_option maxHeartbeats 2000000 in
theorem number_fr (b : UInt8) (w : World) (hb : b = 49 ∨ b = 50 ∨ b = 55) :
    Calls Tryz.prog 47 #[.string ⟨#[b]⟩] w (fun e w' => e = .returned (.tuple #[.int .i64 ((b.toNat : Int) - 48), .bool true]) ∧ Kt No w w') := by
  rcases hb with rfl | rfl | rfl
  all_goals
    go_enter Tryz.func47, Tryz.ntmps47
    go_wp2
    go_rounds 2
    go_returns
    exact ⟨rfl, Kt.refl _ _⟩
theorem dig_fr (b : UInt8) (w : World) (hb : b = 49 ∨ b = 50 ∨ b = 55) :
    Calls Tryz.prog 62 #[.string ⟨#[b]⟩] w (fun e w' => e = .returned (.tuple #[.int .i64 ((b.toNat : Int) - 48), .bool true]) ∧ Kt No w w') := by
  rcases hb with rfl | rfl | rfl
  all_goals exact digits_fr _ _ w (by decide) (by decide) (by decide) (by decide)
end Go.Proofs.YtpbbnkpplcnaoaaGreatDoor
