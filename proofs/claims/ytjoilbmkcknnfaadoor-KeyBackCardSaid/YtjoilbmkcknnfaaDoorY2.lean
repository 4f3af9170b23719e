/- Records, plain: what the decompiled functions of lists of records answer. -/
import Derived.Test.YtjoilbmkcknnfaaDoorY0
import Derived.Test.YtjoilbmkcknnfaaDoorUL
import Derived.Test.YtjoilbmkcknnfaaDoorE1
set_option linter.unusedVariables false
set_option linter.unusedSimpArgs false
namespace Go.Proofs.YtjoilbmkcknnfaaDoor
open Go.RowKit
open Go.Lib hiding intOf

section
variable {σ ρ α : Type} {B : σ → Option (Fl σ ρ)}
/-- a loop that goes so far and ends -/
theorem loop_to (st : Nat → σ) (m : Nat) {s0 : σ} (h0 : s0 = st 0) {r : ρ} (hgo : ∀ k, k < m → B (st k) = some (.go (st (k + 1)))) (hout : B (st m) = some (.out r)) : loop B s0 = some r := by
  subst h0
  exact loop_eq (fun k s => s = st k) r m (fun k s hk hs => .inl ⟨st (k + 1), by rw [hs]; exact hgo k hk, rfl⟩) (fun s hs => by rw [hs]; exact hout) rfl
/-- a loop over a list that ends at the first element of a kind -/
theorem loop_first {xs : List α} (p : α → Bool) (st : Nat → σ) {s0 : σ} (h0 : s0 = st 0) {y : Nat → α → ρ} {n : ρ} (hgo : ∀ k x, xs[k]? = some x → p x = false → B (st k) = some (.go (st (k + 1))))
    (hy : ∀ k x, xs[k]? = some x → p x = true → B (st k) = some (.out (y k x))) (hn : B (st xs.length) = some (.out n)) :
    (∃ k x, xs[k]? = some x ∧ p x = true ∧ (∀ j z, j < k → xs[j]? = some z → p z = false) ∧ loop B s0 = some (y k x)) ∨ (∀ z ∈ xs, p z = false) ∧ loop B s0 = some n := by
  by_cases h : xs.findIdx p < xs.length
  · have e := List.getElem?_eq_getElem h
    have hp := List.findIdx_getElem (w := h)
    have hb : ∀ j z, j < xs.findIdx p → xs[j]? = some z → p z = false := fun j z hj hz => by
      have := List.not_of_lt_findIdx hj
      obtain ⟨h1, h2⟩ := List.getElem?_eq_some_iff.1 hz
      rw [h2] at this; simpa using this
    refine .inl ⟨_, _, e, hp, hb, loop_to st _ h0 (fun k hk => ?_) (hy _ _ e hp)⟩
    have hk2 : k < xs.length := by omega
    exact hgo k _ (List.getElem?_eq_getElem hk2) (hb k _ hk (List.getElem?_eq_getElem hk2))
  · have hb : ∀ j z, xs[j]? = some z → p z = false := fun j z hz => by
      obtain ⟨h1, h2⟩ := List.getElem?_eq_some_iff.1 hz
      have := List.not_of_lt_findIdx (p := p) (xs := xs) (i := j) (by omega)
      rw [h2] at this; simpa using this
    refine .inr ⟨fun z hz => ?_, loop_to st xs.length h0 (fun k hk => hgo k _ (List.getElem?_eq_getElem hk) (hb k _ (List.getElem?_eq_getElem hk))) hn⟩
    obtain ⟨i, hi⟩ := List.mem_iff_getElem?.1 hz
    exact hb i z hi
theorem loop_any {xs : List α} (p : α → Bool) (st : Nat → σ) {s0 : σ} (h0 : s0 = st 0) {y n : ρ} (hgo : ∀ k x, xs[k]? = some x → p x = false → B (st k) = some (.go (st (k + 1))))
    (hy : ∀ k x, xs[k]? = some x → p x = true → B (st k) = some (.out y)) (hn : B (st xs.length) = some (.out n)) : loop B s0 = some (if xs.any p then y else n) := by
  rcases loop_first p st h0 (y := fun _ _ => y) hgo hy hn with ⟨k, x, h1, h2, _, h3⟩ | ⟨h1, h2⟩
  · rw [if_pos (List.any_eq_true.2 ⟨x, List.mem_of_getElem? h1, h2⟩)]; exact h3
  · rw [if_neg (fun h => by obtain ⟨x, hx, e⟩ := List.any_eq_true.1 h; rw [h1 x hx] at e; cases e)]; exact h2
/-- a loop over a list that gathers -/
theorem loop_gather {xs : List α} (st : Nat → σ) {s0 : σ} (h0 : s0 = st 0) {r : ρ} (hgo : ∀ k x, xs[k]? = some x → B (st k) = some (.go (st (k + 1)))) (hout : B (st xs.length) = some (.out r)) : loop B s0 = some r :=
  loop_to st xs.length h0 (fun k hk => hgo k _ (List.getElem?_eq_getElem hk)) hout
theorem bind_to {β γ : Type} {m : Option β} {v : β} {f : β → Option γ} {y : Option γ} (h : m = some v) (k : f v = y) : m.bind f = y := by subst h; exact k
end
theorem getI_nat {α : Type} (xs : List α) (k : Nat) : getI xs (k : Int) = xs[k]? := by simp [getI]
theorem dlt {k n : Nat} (h : k < n) : decide ((k : Int) < (n : Int)) = true := decide_eq_true (by omega)
theorem dnlt {k n : Nat} (h : ¬ k < n) : decide ((k : Int) < (n : Int)) = false := decide_eq_false (by omega)
theorem dlt_of {α : Type} {xs : List α} {k : Nat} {x : α} (h : xs[k]? = some x) : decide ((k : Int) < (xs.length : Int)) = true := dlt (List.getElem?_eq_some_iff.1 h).1
theorem dlt_end (n : Nat) : decide ((n : Int) < (n : Int)) = false := dnlt (Nat.lt_irrefl _)
theorem winc {k : Nat} (h : k ≤ 9223372036854775806) : IntKind.i64.wrap ((k : Int) + 1) = ((k + 1 : Nat) : Int) := by rw [w64 (by omega) (by omega)]; omega
theorem lt_of_get {α : Type} {xs : List α} {k : Nat} {x : α} (h : xs[k]? = some x) : k < xs.length := (List.getElem?_eq_some_iff.1 h).1
theorem take_snoc' {α : Type} {xs : List α} {k : Nat} {x : α} (h : xs[k]? = some x) : xs.take (k + 1) = xs.take k ++ [x] := by
  rw [List.take_add_one, h]; rfl
theorem filter_take_len {α : Type} (p : α → Bool) (xs : List α) (k : Nat) : ((xs.take k).filter p).length ≤ xs.length :=
  Nat.le_trans (List.length_filter_le _ _) (by rw [List.length_take]; omega)
theorem set_self {α : Type} {xs : List α} {k : Nat} {x : α} (h : xs[k]? = some x) : xs.set k x = xs := by
  obtain ⟨h1, h2⟩ := List.getElem?_eq_some_iff.1 h
  rw [← h2]; exact List.set_getElem_self h1
/-- not more than fits -/
def Rm (n : Nat) : Prop := n ≤ 1000000000
theorem clone_key {s : List KeyD} (h : Rm s.length) : clone_Key s = some s := by
  unfold clone_Key Rm at *
  rw [show roomB (([] : List KeyD).length + s.length) = true from room (by simp; omega)]; rfl
theorem clone_rec {s : List RecordD} (h : Rm s.length) : clone_Record s = some s := by
  unfold clone_Record Rm at *
  rw [show roomB (([] : List RecordD).length + s.length) = true from room (by simp; omega)]; rfl
theorem own_is {r : RecordD} (h : Rm r.Reads.length) : record_Own r = some r := by
  unfold record_Own
  rw [clone_key h]; rfl
def RmL (l : List RecordD) : Prop := Rm l.length ∧ ∀ r ∈ l, Rm r.Reads.length
theorem copy_is {l : List RecordD} (h : RmL l) : record_Copy l = some l := by
  unfold record_Copy
  rw [clone_rec h.1, Option.bind_some]
  refine bind_to (loop_gather (xs := l) (fun k => (l, (k : Int))) rfl (r := l) (fun k x hx => ?_) ?_) rfl
  · unfold record_Copy_l2
    dsimp only
    rw [dlt_of hx, cond_true, getI_nat, hx, Option.bind_some, own_is (h.2 x (List.mem_of_getElem? hx)), winc (by have := lt_of_get hx; have := h.1; unfold Rm at this; omega)]
    simp only [Option.bind_some, Int.toNat_natCast]
    rw [set_self hx]
  · unfold record_Copy_l2
    dsimp only
    rw [dlt_end]; rfl
theorem cmp_int (x y : Int) : cmp_Compare x y = some (if x < y then -1 else if y < x then 1 else 0) := by
  unfold cmp_Compare cmp_isNaN_int
  by_cases h1 : x < y
  · simp [h1]
  · by_cases h2 : y < x <;> simp [h1, h2]
theorem or_two (a b : Int) : cmp_Or [a, b] = some (if a ≠ 0 then a else b) := by
  unfold cmp_Or
  by_cases h : a = 0
  · subst h
    rw [loop_go (s' := (0, 2, 1))]
    · by_cases hb : b = 0
      · subst hb
        rw [loop_go (s' := (0, 2, 2))]
        · rw [loop_out (r := .go 0)]
          · rfl
          · rfl
        · rfl
      · rw [loop_out (r := .out b)]
        · simp [Fl.el]
        · unfold cmp_Or_l2
          have : (b != 0) = true := by simpa using hb
          simp [getI, this]
    · rfl
  · rw [loop_out (r := .out a)]
    · simp [Fl.el, h]
    · unfold cmp_Or_l2
      have : (a != 0) = true := by simpa using h
      simp [getI, this]
theorem cmp_is (a b : KeyD) : key_Cmp a b = some (kcmp a b) := by
  unfold key_Cmp kcmp compareSM
  rw [cmp_int]
  simp only [Option.bind_some]
  rw [or_two]
  by_cases h1 : a.Kind < b.Kind
  · simp [h1]
  · by_cases h2 : b.Kind < a.Kind <;> simp [h1, h2]
theorem place1_is (r : RecordD) (k : KeyD) : record_place_1 r k = some (kcmp r.Key k) := by
  unfold record_place_1
  rw [cmp_is]; rfl
/-- records in order, each key once -/
def Asc (l : List RecordD) : Prop := l.Pairwise fun a b => kcmp a.Key b.Key < 0
/-- how many lie below a key -/
def below (l : List RecordD) (k : KeyD) : Nat := (l.filter fun r => decide (kcmp r.Key k < 0)).length
theorem asc_split {l : List RecordD} (h : Asc l) (k : KeyD) : l = (l.filter fun r => decide (kcmp r.Key k < 0)) ++ (l.filter fun r => decide (¬ kcmp r.Key k < 0)) := by
  induction l with
  | nil => rfl
  | cons x r ih =>
    have h2 := List.pairwise_cons.1 h
    by_cases hx : kcmp x.Key k < 0
    · rw [List.filter_cons_of_pos (by simpa using hx), List.filter_cons_of_neg (by simpa using hx), List.cons_append, ← ih h2.2]
    · have e : (r.filter fun r => decide (kcmp r.Key k < 0)) = [] := by
        rw [List.filter_eq_nil_iff]
        intro y hy
        have := h2.1 y hy
        simp only [decide_eq_true_eq]
        exact fun h => hx (kcmp_trans this h)
      have e2 : (r.filter fun r => decide (¬ kcmp r.Key k < 0)) = r := by
        rw [List.filter_eq_self]
        intro y hy
        simp only [decide_eq_true_eq]
        exact fun h => hx (kcmp_trans (h2.1 y hy) h)
      rw [List.filter_cons_of_neg (by simpa using hx), List.filter_cons_of_pos (by simpa using hx), e, e2]; rfl
theorem below_le (l : List RecordD) (k : KeyD) : below l k ≤ l.length := List.length_filter_le _ _
theorem below_get {l : List RecordD} (h : Asc l) (k : KeyD) {i : Nat} {x : RecordD} (hx : l[i]? = some x) : kcmp x.Key k < 0 ↔ i < below l k := by
  have e := asc_split h k
  constructor
  · intro hc
    refine Nat.lt_of_not_ge fun hi => ?_
    rw [e, List.getElem?_append_right hi] at hx
    have := (List.mem_filter.1 (List.mem_of_getElem? hx)).2
    simp only [decide_eq_true_eq] at this
    exact this hc
  · intro hi
    rw [e, List.getElem?_append_left hi] at hx
    have := (List.mem_filter.1 (List.mem_of_getElem? hx)).2
    simpa using this
theorem mid_is {i j : Nat} (h : i ≤ j) (hj : j ≤ 1000000000) : IntKind.i64.wrap (shrI .u64 (IntKind.u64.wrap (IntKind.i64.wrap ((i : Int) + j))) 1) = (((i + j) / 2 : Nat) : Int) := by
  have e : IntKind.i64.wrap ((i : Int) + j) = ((i + j : Nat) : Int) := by rw [w64 (by omega) (by omega)]; omega
  have e2 : IntKind.u64.wrap ((i + j : Nat) : Int) = ((i + j : Nat) : Int) := by simp [IntKind.wrap, IntKind.bits, IntKind.signed]; omega
  have e3 : shrI .u64 ((i + j : Nat) : Int) 1 = (((i + j) / 2 : Nat) : Int) := by
    have : shrI .u64 ((i + j : Nat) : Int) 1 = Int.fdiv ((i + j : Nat) : Int) 2 := rfl
    rw [this, Int.fdiv_eq_ediv_of_nonneg _ (by omega)]
    omega
  rw [e, e2, e3, w64 (by omega) (by omega)]
theorem place_is {l : List RecordD} (h : Asc l) (hl : Rm l.length) (k : KeyD) : record_place l k = some ((below l k : Int), match l[below l k]? with | some x => kcmp x.Key k == 0 | none => false) := by
  have hl' := hl
  unfold Rm at hl
  have hb := below_le l k
  have key : Ok (record_place l k) fun r => r = ((below l k : Int), match l[below l k]? with | some x => kcmp x.Key k == 0 | none => false) := by
    unfold record_place bsearch
    refine Ok.bind (Q := fun r => r = ((below l k : Int), match l[below l k]? with | some x => kcmp x.Key k == 0 | none => false)) ?_ fun v hv => Ok.ret (by rw [hv])
    refine Ok.loop (fun n s => ∃ i j : Nat, s = ((i : Int), (j : Int)) ∧ i ≤ below l k ∧ below l k ≤ j ∧ j ≤ l.length ∧ (j - i) + n ≤ l.length) (fun r => r = (below l k : Int)) l.length ⟨0, l.length, rfl, Nat.zero_le _, hb, Nat.le_refl _, by omega⟩ (fun n s hn hI => ?_) (fun r hr => ?_)
    · obtain ⟨i, j, rfl, h1, h2, h3, h4⟩ := hI
      unfold bsearch_l3
      dsimp only
      by_cases hij : i < j
      · rw [dlt hij, cond_true, mid_is (by omega) (by omega), getI_nat]
        have hm : (i + j) / 2 < l.length := by omega
        rw [List.getElem?_eq_getElem hm, Option.bind_some, place1_is, Option.bind_some]
        have hg := below_get h k (List.getElem?_eq_getElem hm)
        by_cases hc : kcmp l[(i + j) / 2].Key k < 0
        · rw [decide_eq_true hc, cond_true, winc (by omega)]
          have := hg.1 hc
          exact Ok.ret ⟨by omega, (i + j) / 2 + 1, j, rfl, by omega, h2, h3, by omega⟩
        · rw [decide_eq_false hc, cond_false]
          have : ¬ (i + j) / 2 < below l k := fun hh => hc (hg.2 hh)
          exact Ok.ret ⟨by omega, i, (i + j) / 2, rfl, h1, by omega, by omega, by omega⟩
      · rw [dnlt hij, cond_false]
        exact Ok.ret (by rw [show i = below l k by omega])
    · subst hr
      unfold bsearch_j2 bsearch_j1
      by_cases hlt : below l k < l.length
      · rw [dlt hlt, cond_true, getI_nat, List.getElem?_eq_getElem hlt, Option.bind_some, place1_is, Option.bind_some]
        exact Ok.ret rfl
      · rw [dnlt hlt, cond_false, List.getElem?_eq_none (by omega)]
        exact Ok.ret rfl
  obtain ⟨r, e, rfl⟩ := key
  exact e
/-- a list after a record is put -/
def putL (l : List RecordD) (r : RecordD) : List RecordD := (l.filter fun x => decide (kcmp x.Key r.Key < 0)) ++ r :: (l.filter fun x => decide (0 < kcmp x.Key r.Key))
theorem put_is {l : List RecordD} {r : RecordD} (h : Asc l) (hl : RmL l) (hr : Rm r.Reads.length) : record_Put l r = some (putL l r) := by
  have hl1 := hl.1
  unfold Rm at hl1
  unfold record_Put
  rw [copy_is hl, Option.bind_some, place_is h hl.1, Option.bind_some]
  dsimp only
  have hs := asc_split h r.Key
  have hb := below_le l r.Key
  obtain ⟨L, hL⟩ : ∃ L, L = l.filter fun x => decide (kcmp x.Key r.Key < 0) := ⟨_, rfl⟩
  obtain ⟨H, hH⟩ : ∃ H, H = l.filter fun x => decide (¬ kcmp x.Key r.Key < 0) := ⟨_, rfl⟩
  have hbl : below l r.Key = L.length := by rw [hL]; rfl
  rw [← hL, ← hH] at hs
  have hasc : Asc H := by rw [hH]; exact List.Pairwise.filter _ h
  have hge : ∀ x ∈ H, ¬ kcmp x.Key r.Key < 0 := fun x hx => by rw [hH] at hx; simpa using (List.mem_filter.1 hx).2
  have hgt : l.filter (fun x => decide (0 < kcmp x.Key r.Key)) = H.filter fun x => decide (0 < kcmp x.Key r.Key) := by
    rw [hH, List.filter_filter]
    refine List.filter_congr fun x _ => ?_
    by_cases h0 : 0 < kcmp x.Key r.Key
    · simp [h0]; omega
    · simp [h0]
  have e0 : putL l r = L ++ r :: H.filter fun x => decide (0 < kcmp x.Key r.Key) := by unfold putL; rw [hgt, hL]
  rw [e0]
  cases hHc : H with
  | nil =>
    have : l[below l r.Key]? = none := by rw [hbl, List.getElem?_eq_none]; rw [hs, hHc]; simp
    rw [this]
    dsimp only
    rw [cond_false, own_is hr, Option.bind_some, hbl]
    have hn : L.length = l.length := by rw [hs, hHc]; simp
    rw [show decide (0 ≤ (L.length : Int)) = true from decide_eq_true (by omega), show decide ((L.length : Int) ≤ (l.length : Int)) = true from decide_eq_true (by omega), show roomB (l.length + 1) = true from room (by omega)]
    simp only [gd, cond_true, Int.toNat_natCast]
    have hl2 : l = L := by rw [hs, hHc, List.append_nil]
    rw [hl2]; simp
  | cons x r2 =>
    have hx : l[below l r.Key]? = some x := by rw [hbl, hs, hHc]; simp
    have hle : L.length ≤ l.length := by rw [hs]; simp
    rw [hx]
    dsimp only
    have hasc2 := hasc
    rw [hHc] at hasc2
    have hr2 := (List.pairwise_cons.1 hasc2).1
    have hge' := hge x (by rw [hHc]; simp)
    have tl : (r2.filter fun x => decide (0 < kcmp x.Key r.Key)) = r2 := by
      rw [List.filter_eq_self]
      intro y hy
      simp only [decide_eq_true_eq]
      have h1 := hr2 y hy
      rw [kcmp_pos]
      refine kcmp_lt_of_le (b := x.Key) ?_ h1
      intro hh
      exact hge' hh
    by_cases h0 : kcmp x.Key r.Key = 0
    · rw [h0, show ((0 : Int) == 0) = true from rfl, cond_true, own_is hr, Option.bind_some, getI_nat, hx, Option.bind_some, Int.toNat_natCast, hbl, List.filter_cons_of_neg (by simp [h0]), tl]
      rw [hs, hHc]
      simp
    · have hpos : 0 < kcmp x.Key r.Key := by omega
      rw [show (kcmp x.Key r.Key == 0) = false from by simpa using h0, cond_false, own_is hr, Option.bind_some, hbl, show decide (0 ≤ (L.length : Int)) = true from decide_eq_true (by omega), show decide ((L.length : Int) ≤ (l.length : Int)) = true from decide_eq_true (by omega), show roomB (l.length + 1) = true from room (by omega)]
      simp only [gd, cond_true, Int.toNat_natCast]
      rw [List.filter_cons_of_pos (by simpa using hpos), tl, hs, hHc]
      simp
end Go.Proofs.YtjoilbmkcknnfaaDoor
