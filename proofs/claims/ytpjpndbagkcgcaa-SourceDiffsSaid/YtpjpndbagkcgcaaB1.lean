/- The reference's Check and Find; source.Find; Same. -/
import Derived.Test.YtpjpndbagkcgcaaB0
set_option linter.unusedVariables false
set_option linter.unusedSimpArgs false
namespace Go.Proofs.Ytpjpndbagkcgcaa
open Go.RowKit

theorem less_total : ∀ a b : List UInt8, Op.bytesLess a b = !(Op.bytesLess b a || b == a)
  | [], [] => rfl
  | _ :: _, [] => by simp [Op.bytesLess]
  | [], _ :: _ => by simp [Op.bytesLess]
  | a :: x, b :: y => by
    have ih := less_total x y
    simp only [Op.bytesLess, List.cons_beq_cons]
    rw [ih]
    rcases Nat.lt_trichotomy a.toNat b.toNat with h | h | h
    · have h1 : a < b := h
      have h2 : ¬ b < a := fun h3 => by have : b.toNat < a.toNat := h3; omega
      have h3 : (a == b) = false := by rw [beq_eq_false_iff_ne]; rintro rfl; omega
      have h4 : (b == a) = false := by rw [beq_eq_false_iff_ne]; rintro rfl; omega
      simp [h1, h2, h3, h4]
    · have h1 : a = b := UInt8.toNat_inj.1 h
      subst h1
      have h2 : ¬ a < a := fun h3 => by have : a.toNat < a.toNat := h3; omega
      simp [h2]
    · have h1 : b < a := h
      have h2 : ¬ a < b := fun h3 => by have : a.toNat < b.toNat := h3; omega
      have h3 : (a == b) = false := by rw [beq_eq_false_iff_ne]; rintro rfl; omega
      have h4 : (b == a) = false := by rw [beq_eq_false_iff_ne]; rintro rfl; omega
      simp [h1, h2, h3, h4]
theorem less_not {x y : List UInt8} {b : Bool} (h : Op.bytesLess y x = !b) : (Op.bytesLess x y || x == y) = b := by
  rw [less_total] at h
  exact Bool.not_inj h

theorem okSrc_of {x : Src} {b : Bool} (h1 : named x.1.toList = b) (h2 : b = false ∨ decide (x.2.size ≤ 20000) = false) : okSrc x = false := by
  unfold okSrc; rw [h1]; rcases h2 with h | h <;> rw [h] <;> simp
theorem okSrc_ok {x : Src} (h1 : named x.1.toList = true) (h2 : decide (x.2.size ≤ 20000) = true) : okSrc x = true := by
  unfold okSrc; rw [h1, h2]; rfl

set_option maxHeartbeats 2000000 in
set_option maxRecDepth 100000 in
theorem refcheck_any (l : List Src) (v : Value) (w : World) (hv : Sl srcE 2 w w.heap.size v l) (hs : SzOk l) :
    Calls Try.prog 43 #[v] w fun e w' => e = .returned (.int .i64 (errB (checkL l))) ∧ Below w.heap.size w w' := by
  obtain ⟨A, c, rfl, hnc, hc, hcell⟩ := hv
  unfold maxLen at hc
  go_enter Try.func43, Try.ntmps43
  go_wp2_with fail
  go_loopw [3] (fun i wr => Below w.heap.size w wr ∧ ∃ k : Nat, k ≤ l.length ∧ i = .int .i64 k ∧ Hid (∀ j, j < k → chk l j = true)) (fun i _ => l.length - (intOf i).toNat)
  case atStart => exact ⟨Below.refl _ _, 0, Nat.zero_le _, rfl, fun j h => absurd h (by omega)⟩
  case round =>
    obtain ⟨hb, k, hk, rfl, H⟩ := hrel
    by_cases hlt : k < l.length
    · rcases hcell with rfl | ⟨b, off, rfl, hbB, hcell⟩
      · simp at hlt
      obtain ⟨x, hx⟩ : ∃ x, l[k]? = some x := ⟨_, List.getElem?_eq_getElem hlt⟩
      obtain ⟨c1, c2⟩ := src_at hcell hx
      have d1 := (hb.cell (by exact hbB)).trans c1
      have d2 := (hb.cell (by exact hbB)).trans c2
      have hxm : x ∈ l := List.mem_of_getElem? hx
      have hsx := hs x hxm
      obtain ⟨s1, s2⟩ := hsx
      have hsz := hb.size
      have e1 : ∀ x' : La wr, x'.w.cell? ⟨b, off + k * 2, none⟩ = some (.string x.1) := fun x' => x'.cell d1
      have e2 : ∀ x' : La wr, x'.w.cell? ⟨b, off + k * 2 + 1, none⟩ = some (.string x.2) := fun x' => x'.cell d2
      have Hx := hid hx
      have s1' : x.1.size ≤ maxLen := by unfold maxLen; omega
      clear hx c1 c2
      cases hnm : named x.1.toList
      · have Hno := hid (okSrc_of hnm (.inl rfl))
        go_wp2_with fail
        refine wp_region_la (by kernel_rfl) (by kernel_rfl) ?_
        repeat (go_big_quiet_step ((go_at_call 55; exact La.same (refnamed_any _ _ s1'))))
        refine wpq_nil ?_
        intro w1 hb1
        go_wp2
        go_ret
        exact ⟨ret_int (check_no hlt (chk_bad Hx.out Hno.out)).symm, below_step hb hb1⟩
      · by_cases hmx : (20000 : Int) < (x.2.size : Int)
        · have Hno := hid (okSrc_of hnm (.inr (by simp; omega)))
          have g3 : decide ((20000 : Int) < (x.2.size : Int)) = true := by simpa using hmx
          go_wp2_with fail
          refine wp_region_la (by kernel_rfl) (by kernel_rfl) ?_
          repeat (go_big_quiet_step ((go_at_call 55; exact La.same (refnamed_any _ _ s1'))))
          refine wpq_nil ?_
          intro w1 hb1
          go_wp2
          go_ret
          exact ⟨ret_int (check_no hlt (chk_bad Hx.out Hno.out)).symm, below_step hb hb1⟩
        · have hok := okSrc_ok hnm (by simp; omega)
          have g3 : decide ((20000 : Int) < (x.2.size : Int)) = false := by simpa using hmx
          have Hok := hid hok
          clear hok
          rcases Nat.eq_zero_or_pos k with h0 | h0
          · have g0 : decide (0 < k) = false := by simp; omega
            have H0 := hid h0
            clear h0
            go_wp2_with fail
            refine wp_region_la (by kernel_rfl) (by kernel_rfl) ?_
            repeat (go_big_quiet_step ((go_at_call 55; exact La.same (refnamed_any _ _ s1'))))
            refine wpq_nil ?_
            intro w1 hb1
            go_wp2
            go_roundw
            case rel => exact ⟨below_step hb hb1, k + 1, by omega, by go_num, chk_ext H (by have e := H0.out; subst e; rw [chk_zero Hx.out, Hok.out])⟩
            case measure => simp [intOf]; omega
          · obtain ⟨j, hj⟩ : ∃ j, k = j + 1 := ⟨k - 1, by omega⟩
            obtain ⟨y, hy⟩ : ∃ y, l[j]? = some y := ⟨_, List.getElem?_eq_getElem (by omega)⟩
            obtain ⟨c1, c2⟩ := src_at hcell hy
            have d1' := (hb.cell (by exact hbB)).trans c1
            have e3 : ∀ x' : La wr, x'.w.cell? ⟨b, off + j * 2, none⟩ = some (.string y.1) := fun x' => x'.cell d1'
            have Hy := hid hy
            have g0 : decide ((0 : Int) < (k : Int)) = true := by simp; omega
            have g1 : IntKind.i64.wrap ((k : Int) - 1) = (j : Int) := by rw [IntWalk.i64_in _ (by omega)]; omega
            have g2 : j < l.length := by omega
            have Hj := hid hj
            clear hy c1 c2 d1' hj
            cases hbl : bl y.1 x.1
            · have hbl' : (Op.bytesLess x.1.toList y.1.toList || x.1.toList == y.1.toList) = true := less_not (by exact hbl)
              have Hbl := hid hbl
              clear hbl
              go_wp2_with fail
              refine wp_region_la (by kernel_rfl) (by kernel_rfl) ?_
              repeat (go_big_quiet_step ((go_at_call 55; exact La.same (refnamed_any _ _ s1'))))
              refine wpq_nil ?_
              intro w1 hb1
              go_wp2
              go_ret
              exact ⟨ret_int (check_no hlt (by have e := Hj.out; subst e; rw [chk_some Hx.out Hy.out, Hok.out, Hbl.out]; rfl)).symm, below_step hb hb1⟩
            · have hbl' : (Op.bytesLess x.1.toList y.1.toList || x.1.toList == y.1.toList) = false := less_not (by exact hbl)
              have Hbl := hid hbl
              clear hbl
              go_wp2_with fail
              refine wp_region_la (by kernel_rfl) (by kernel_rfl) ?_
              repeat (go_big_quiet_step ((go_at_call 55; exact La.same (refnamed_any _ _ s1'))))
              refine wpq_nil ?_
              intro w1 hb1
              clear g1
              go_wp2
              go_roundw
              case rel => exact ⟨below_step hb hb1, k + 1, by omega, by go_num, chk_ext H (by have e := Hj.out; subst e; rw [chk_some Hx.out Hy.out, Hok.out, Hbl.out]; rfl)⟩
              case measure => simp [intOf]; omega
    · go_wp2
      go_ret
      exact ⟨ret_int (check_yes hlt H).symm, hb⟩

def findP (l : List Src) (n : ByteArray) : ByteArray × Bool := match l.findIdx? (nameIs n) with
  | some k => ((l.getD k default).2, true)
  | none => (⟨#[]⟩, false)
theorem findP_hit {l : List Src} {n : ByteArray} {k : Nat} {x : Src} (h : NotYet l n k) (hx : l[k]? = some x) (hn : nameIs n x = true) : findP l n = (x.2, true) := by
  have : l.findIdx? (nameIs n) = some k := by
    rw [List.findIdx?_eq_some_iff_getElem]
    obtain ⟨hk, e⟩ := List.getElem?_eq_some_iff.1 hx
    exact ⟨hk, by rw [e]; exact hn, fun j hj => by have := h j _ hj (List.getElem?_eq_getElem (by omega)); simp [this]⟩
  simp [findP, this, hx]
theorem findP_none {l : List Src} {n : ByteArray} {k : Nat} (h : NotYet l n k) (hk : l.length ≤ k) : findP l n = (⟨#[]⟩, false) := by
  have : l.findIdx? (nameIs n) = none := by
    rw [List.findIdx?_eq_none_iff]
    intro x hx
    obtain ⟨j, hj, e⟩ := List.getElem_of_mem hx
    exact h j x (by omega) (by rw [← e]; exact List.getElem?_eq_getElem hj)
  simp [findP, this]

set_option maxHeartbeats 1000000 in
theorem reffind_any (l : List Src) (v : Value) (n : ByteArray) (w : World) (hv : Sl srcE 2 w w.heap.size v l) :
    Calls Try.prog 21 #[v, .string n] w fun e w' => e = .returned (.tuple #[.string (findP l n).1, .bool (findP l n).2]) ∧ w = w' := by
  obtain ⟨A, c, rfl, hnc, hc, hcell⟩ := hv
  unfold maxLen at hc
  go_enter Try.func21, Try.ntmps21
  go_wp2_with fail
  go_loop [6] (fun i => ∃ k : Nat, k ≤ l.length ∧ i = .int .i64 k ∧ NotYet l n k) (fun i => l.length - (intOf i).toNat)
  case atStart => exact ⟨0, Nat.zero_le _, rfl, fun j x h _ => absurd h (by omega)⟩
  case round =>
    obtain ⟨k, hk, rfl, H⟩ := hrel
    by_cases hlt : k < l.length
    · rcases hcell with rfl | ⟨b, off, rfl, hbB, hcell⟩
      · simp at hlt
      obtain ⟨x, hx⟩ : ∃ x, l[k]? = some x := ⟨_, List.getElem?_eq_getElem hlt⟩
      obtain ⟨c1, c2⟩ := src_at hcell hx
      have Hx := hid hx
      clear hx
      cases hn : nameIs n x
      · have hn' : (x.1.toList == n.toList) = false := hn
        have Hn := hid hn
        clear hn
        go_wp2
        go_round
        case rel => exact ⟨k + 1, by omega, by go_num, H.ext Hx.out Hn.out⟩
        case measure => simp [intOf]; omega
      · have hn' : (x.1.toList == n.toList) = true := hn
        have Hn := hid hn
        clear hn
        go_wp2
        go_ret2
        have e := findP_hit H Hx.out Hn.out
        exact ⟨by rw [e]; rfl, rfl⟩
    · go_wp2
      go_ret2
      have e := findP_none H (by omega)
      exact ⟨by rw [e]; rfl, rfl⟩

set_option maxHeartbeats 1000000 in
theorem find_any (l : List Src) (v : Value) (n : ByteArray) (w : World) (hv : Sl srcE 2 w w.heap.size v l) :
    Calls Try.prog 42 #[v, .string n] w fun e w' => e = .returned (.tuple #[.string (findP l n).1, .bool (findP l n).2]) ∧ Below w.heap.size w w' := by
  have hv' := hv
  obtain ⟨A, c, rfl, hnc, hc, hcell⟩ := hv
  unfold maxLen at hc
  rcases fIdx_cases l n with ⟨hf, H⟩ | ⟨k, x, hf, hk, hx, hn, H⟩
  · have e0 := findP_none H (Nat.le_refl _)
    have E0 := hid e0
    have Hf := hid hf
    clear e0 hf hcell
    go_enter Try.func42, Try.ntmps42
    go_wp2_with (go_at_call 37; refine (index_any l _ n _ hv').mono ?_; rintro e w1 ⟨rfl, hb1⟩; rw [Hf.out])
    go_ret2
    exact ⟨by rw [E0.out]; rfl, hb1⟩
  · have e0 := findP_hit H hx hn
    have E0 := hid e0
    have Hf := hid hf
    rcases hcell with rfl | ⟨b, off, rfl, hbB, hcell⟩
    · simp at hk
    obtain ⟨c1, c2⟩ := src_at hcell hx
    clear e0 hf hcell hx
    go_enter Try.func42, Try.ntmps42
    go_wp2_with (go_at_call 37; refine (index_any l _ n _ hv').mono ?_; rintro e w1 ⟨rfl, hb1⟩; rw [Hf.out]; have c3 := (hb1.cell (by exact hbB)).trans c2)
    go_ret2
    exact ⟨by rw [E0.out]; rfl, hb1⟩

theorem src_at' {w : World} {b off : Nat} {l : List Src} (h : ∀ k x, l[k]? = some x → ∀ j u, (srcE x)[j]? = some u → w.cell? ⟨b, off + k * 2 + j, none⟩ = some u) {k : Nat} (hk : k < l.length) :
    w.cell? ⟨b, off + k * 2, none⟩ = some (.string l[k].1) ∧ w.cell? ⟨b, off + k * 2 + 1, none⟩ = some (.string l[k].2) :=
  ⟨h k _ (List.getElem?_eq_getElem hk) 0 _ rfl, h k _ (List.getElem?_eq_getElem hk) 1 _ rfl⟩

/-- the same lists are the same -/
theorem same_any (l : List Src) (v v2 : Value) (w : World) (hv : Sl srcE 2 w w.heap.size v l) (hv2 : Sl srcE 2 w w.heap.size v2 l) :
    Calls Try.prog 22 #[v, v2] w fun e w' => e = .returned (.bool true) ∧ Below w.heap.size w w' := by
  obtain ⟨A, c, rfl, hnc, hc, hcell⟩ := hv
  obtain ⟨A2, c2, rfl, hnc2, hc2, hcell2⟩ := hv2
  unfold maxLen at hc hc2
  go_enter Try.func22, Try.ntmps22
  go_wp2_with fail
  go_loopw [5] (fun i wr => Dr w wr ∧ ∃ k : Nat, k ≤ l.length ∧ i = .int .i64 k) (fun i _ => l.length - (intOf i).toNat)
  case atStart => exact ⟨Dr.refl _, 0, Nat.zero_le _, rfl⟩
  case round =>
    obtain ⟨hd, k, hk, rfl⟩ := hrel
    by_cases hlt : k < l.length
    · rcases hcell with rfl | ⟨b, off, rfl, hbB, hcell⟩
      · simp at hlt
      rcases hcell2 with rfl | ⟨b2, off2, rfl, hbB2, hcell2⟩
      · simp at hlt
      have hb := hd.below w.heap.size
      obtain ⟨c1, c2⟩ := src_at' hcell hlt
      obtain ⟨c3, c4⟩ := src_at' hcell2 hlt
      have d1 := (hb.cell (by exact hbB)).trans c1
      have d2 := (hb.cell (by exact hbB)).trans c2
      have d3 := (hb.cell (by exact hbB2)).trans c3
      have d4 := (hb.cell (by exact hbB2)).trans c4
      go_wp2
      go_quiet (fail)
      go_wp2
      go_roundw
      case rel => exact ⟨hd.next _, k + 1, by omega, by go_num⟩
      case measure => simp [intOf]; omega
    · go_wp2
      go_ret
      exact ⟨rfl, hd.below _⟩
end Go.Proofs.Ytpjpndbagkcgcaa
