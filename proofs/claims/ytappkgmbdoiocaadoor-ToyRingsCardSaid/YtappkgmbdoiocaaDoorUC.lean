/- Law 24, plain: ToyRings. -/
import Derived.Test.YtappkgmbdoiocaaDoorU9
import Derived.Test.YtappkgmbdoiocaaDoorD7
set_option linter.unusedVariables false
set_option linter.unusedSimpArgs false
namespace Go.Proofs.YtappkgmbdoiocaaDoor
open Go.RowKit
open Go.Lib hiding intOf

theorem sub_or {a b x y : Nat} (h : a &&& b = a) (k : x &&& y = x) : (a ||| x) &&& (b ||| y) = a ||| x := by
  apply Nat.eq_of_testBit_eq
  intro i
  have h1 := congrArg (·.testBit i) h
  have h2 := congrArg (·.testBit i) k
  simp only [Nat.testBit_and, Nat.testBit_or] at h1 h2 ⊢
  revert h1 h2
  cases a.testBit i <;> cases b.testBit i <;> cases x.testBit i <;> cases y.testBit i <;> simp
theorem sub_fold (m : Nat) : ∀ (vs : List Nat) (a b : Nat), a &&& b = a → vs.foldl (· ||| ·) a &&& (vs.map (· ||| m)).foldl (· ||| ·) b = vs.foldl (· ||| ·) a
  | [], a, b, h => h
  | v :: vs, a, b, h => by
    simp only [List.map_cons, List.foldl_cons]
    refine sub_fold m vs _ _ (sub_or h ?_)
    have := sub_or (a := v) (b := v) (x := 0) (y := m) (Nat.and_self v) (Nat.zero_and m)
    simpa using this
theorem and_is {a b : Nat} (ha : a < 65536) (hb : b < 65536) : ibit .and .i64 (a : Int) (b : Int) = ((a &&& b : Nat) : Int) := by
  have h : a &&& b ≤ a := Nat.and_le_left
  unfold ibit
  simp only [show IntKind.i64.bits = 64 from rfl]
  rw [BitVec.toNat_and, BitVec.toNat_ofInt, BitVec.toNat_ofInt, show ((a : Int) % ((2 ^ IntKind.i64.bits : Nat) : Int)).toNat = a by rw [show IntKind.i64.bits = 64 from rfl]; omega, show ((b : Int) % ((2 ^ IntKind.i64.bits : Nat) : Int)).toNat = b by rw [show IntKind.i64.bits = 64 from rfl]; omega]
  exact w64 (by omega) (by omega)
noncomputable def itoaN (v : Nat) : ByteArray := itoaS (v : Int)
theorem valN_itoa {n : Nat} (h : n < 65536) : valN (itoaN n) = n := by
  unfold valN numI itoaN
  rw [itoaS_list, itoa_nat, decI_dec (by omega), if_pos (by omega)]; rfl
theorem set_mid {α : Type} (A : List α) (k : Nat) (e y : α) : (A ++ List.replicate (k + 1) e).set A.length y = (A ++ [y]) ++ List.replicate k e := by
  rw [List.set_append_right _ _ (Nat.le_refl _), Nat.sub_self, List.replicate_succ, List.set_cons_zero]
  simp
section
variable {l : List RuleD} {i : Nat} {y : DiceD} {d : List Int} {j : Int} {more at_ : Int}
def NextR (i : Nat) : Fl (Int × List Int × Int) (Fl Unit Bool) → Prop
  | .go s => s.1 = (i : Int) + 1 ∧ DiceOk s.2.1 s.2.2
  | .out _ => False
theorem rings_l9 (hR : RulesOk l) (h : i < l.length) {a b : List ByteArray} (ha : a.length = l[i].Asks.length) (hb : b.length = l[i].Asks.length) (sa : Small a) (sb : Small b) {x : Nat} (hx : x < l[i].Asks.length) :
    law24_ToyRings_l9 (l, y) l[i] (ruleK l[i] i) a b x = some (.go ((x : Int) + 1)) := by
  have hl8 := hR.high
  have h3 := (hR.each i _ (List.getElem?_eq_getElem h)).asks
  have hao := (hR.each i _ (List.getElem?_eq_getElem h)).each _ _ (List.getElem?_eq_getElem hx)
  unfold law24_ToyRings_l9
  rw [show decide ((x : Int) < (l[i].Asks.length : Int)) = true by simpa using hx, show (0 : Int) = ((0 : Nat) : Int) from rfl, subI_at (by omega) (by omega), subI_at (by omega) (by omega)]
  simp only [cond_true, Option.bind_some, List.drop_zero]
  have hax : (a.take x).length = x := by rw [List.length_take]; omega
  have hbx : (b.take x).length = x := by rw [List.length_take]; omega
  obtain ⟨t1, q1, c1, r1, e1⟩ := asks_ok hR h (ls := a.take x) (by omega) (fun s hs => sa s (List.mem_of_mem_take hs))
  obtain ⟨t2, q2, c2, r2, e2⟩ := asks_ok hR h (ls := b.take x) (by omega) (fun s hs => sb s (List.mem_of_mem_take hs))
  simp only [hax] at q1 c1 r1 e1
  simp only [hbx] at q2 c2 r2 e2
  rw [e1, e2]
  simp only [Option.bind_some]
  obtain ⟨_, _, _, v1⟩ := number_ask (l := l) (a := l[i].Asks[x]) (t := t1) c1 (fun h => (r1 h).2) (by omega)
  have v1 : ref23_Valid ⟨(askK l l[i].Asks[x] t1).Kind, (askK l l[i].Asks[x] t1).Text⟩ = some true := v1
  unfold law24_ToyRings_j8 law24_ToyRings_j7
  rw [w64 (by omega) (by omega)]
  cases hr : l[i].Ring with
  | true =>
    have hp : l[i].Asks[x].Pick = false := by
      cases hp : l[i].Asks[x].Pick
      · rfl
      · have := (hao.pick hp).1; rw [hr] at this; cases this
    have ht : t1 = t2 := by
      unfold askT elseB at q1 q2
      rw [hp] at q1 q2
      simp only [Bool.false_and, Bool.false_eq_true, if_false] at q1 q2
      omega
    subst ht
    simp [v1]
  | false => simp [v1]
theorem rings_l13 (hR : RulesOk l) (h : i < l.length) (hd : DiceOk d j) : Ok (law24_ToyRings_l13 more at_ (l, y) i d j) (NextR i) := by
  have hl8 := hR.high
  have hl2 := hR.low
  have h3 := (hR.each i _ (List.getElem?_eq_getElem h)).asks
  unfold law24_ToyRings_l13
  rw [show decide ((i : Int) < (l.length : Int)) = true by simpa using h, getI_at h]
  simp only [cond_true, Option.bind_some]
  rw [ref_of_is h (by omega)]
  simp only [Option.bind_some]
  refine Ok.gd (by simp) (Ok.gd (room (by simp; omega)) (Ok.gd (by simp) (Ok.gd (room (by simp; omega)) ?_)))
  unfold law24_ToyRings_j12
  obtain ⟨m, hm, em⟩ := mod_is more (m := 64) (by omega) (by omega)
  simp only [Int.toNat_natCast]
  have hs0 : (ByteArray.mk #[]).size ≤ 140737488355328 := by decide
  refine Ok.loop (fun x s => ∃ vs : List Nat, vs.length = x ∧ (∀ v ∈ vs, v < 64) ∧ s.1 = vs.map itoaN ++ List.replicate (l[i].Asks.length - x) (ByteArray.mk #[]) ∧ s.2.1 = (vs.map (· ||| m)).map itoaN ++ List.replicate (l[i].Asks.length - x) (ByteArray.mk #[]) ∧ s.2.2.1 = (x : Int) ∧ DiceOk s.2.2.2.1 s.2.2.2.2)
    (fun r => ∃ vs : List Nat, vs.length = l[i].Asks.length ∧ (∀ v ∈ vs, v < 64) ∧ r.1 = vs.map itoaN ∧ r.2.1 = (vs.map (· ||| m)).map itoaN ∧ DiceOk r.2.2.1 r.2.2.2) l[i].Asks.length ⟨[], rfl, fun v hv => (by cases hv), by simp, by simp, rfl, hd⟩ (fun x s hx hI => ?_) (fun r hr => ?_)
  · obtain ⟨a, b, sx, dl, da⟩ := s
    obtain ⟨vs, e1, e2, e3, e4, e5, e6⟩ := hI
    simp only at e3 e4 e5 e6
    subst e3 e4 e5
    unfold law24_ToyRings_l11
    dsimp only
    refine Ok.cond (fun e => ?_) (fun e => Ok.ret ?_)
    · have e : x < l[i].Asks.length := by have := of_decide_eq_true e; omega
      refine Ok.bind (next_ok e6 (by omega) (by omega)) fun r hr => ?_
      obtain ⟨v, hv⟩ : ∃ v : Nat, r.1 = v := ⟨r.1.toNat, by omega⟩
      have hv64 : v < 64 := by omega
      obtain ⟨or1, or2⟩ := or_is (a := v) (b := m) (by omega) (by omega)
      rw [hv, itoaM_nat (by omega), Option.bind_some, show mill_Mod more 64 = some (m : Int) from em, Option.bind_some, or1, itoaM_nat (by omega), Option.bind_some]
      refine Ok.get (by omega) (by simp; omega) fun _ _ _ => Ok.get (by omega) (by simp; omega) fun _ _ _ => Ok.ret ⟨e, vs ++ [v], by simp [e1], fun u hu => ?_, ?_, ?_, w64 (by omega) (by omega), hr.2.2⟩
      · rcases List.mem_append.1 hu with h1 | h1
        · exact e2 u h1
        · simp only [List.mem_cons, List.not_mem_nil, or_false] at h1; omega
      · have := set_mid (vs.map itoaN) (l[i].Asks.length - (x + 1)) (ByteArray.mk #[]) (itoaN v)
        rw [List.length_map, e1, show l[i].Asks.length - (x + 1) + 1 = l[i].Asks.length - x by omega] at this
        simpa [itoaN] using this
      · have := set_mid ((vs.map (· ||| m)).map itoaN) (l[i].Asks.length - (x + 1)) (ByteArray.mk #[]) (itoaN (v ||| m))
        rw [List.length_map, List.length_map, e1, show l[i].Asks.length - (x + 1) + 1 = l[i].Asks.length - x by omega] at this
        simpa [itoaN] using this
    · have e : ¬ x < l[i].Asks.length := by have := of_decide_eq_false e; omega
      have hz : l[i].Asks.length - x = 0 := by omega
      exact ⟨vs, by omega, e2, by simp [hz], by simp [hz], e6⟩
  · obtain ⟨a, b, dl, da⟩ := r
    obtain ⟨vs, e1, e2, e3, e4, e5⟩ := hr
    simp only at e3 e4 e5
    have sm : ∀ (us : List Nat), (∀ u ∈ us, u < 65536) → Small (us.map itoaN) := fun us hus s hs => by
      obtain ⟨u, hu, rfl⟩ := List.mem_map.1 hs
      have := hus u hu
      exact size_itoa (by omega)
    have hv2 : ∀ u ∈ vs.map (· ||| m), u < 65536 := fun u hu => by
      obtain ⟨v, hv, rfl⟩ := List.mem_map.1 hu
      exact (or_is (by have := e2 v hv; omega) (by omega)).2
    have sa : Small a := by rw [e3]; exact sm vs fun u hu => by have := e2 u hu; omega
    have sb : Small b := by rw [e4]; exact sm _ hv2
    have la : a.length = l[i].Asks.length := by rw [e3]; simpa using e1
    have lb : b.length = l[i].Asks.length := by rw [e4]; simpa using e1
    unfold law24_ToyRings_j10
    refine Ok.loop (fun x s => s = (x : Int)) (fun r => r = Fl.go ()) l[i].Asks.length rfl (fun x s hx hI => ?_) (fun r hr => ?_)
    · subst hI
      by_cases hz : x < l[i].Asks.length
      · rw [rings_l9 hR h la lb sa sb hz]
        exact Ok.ret ⟨hz, rfl⟩
      · unfold law24_ToyRings_l9
        rw [show decide ((x : Int) < (l[i].Asks.length : Int)) = false by simp; omega]
        exact Ok.ret rfl
    · subst hr
      simp only [Fl.el]
      unfold law24_ToyRings_j6
      obtain ⟨c, hc, hc16, p1, b1⟩ := done_ok hR h (ls := a) (by omega) sa
      obtain ⟨c2, hc2, _, p2, b2⟩ := done_ok hR h (ls := b) (by omega) sb
      obtain rfl : c = c2 := by omega
      rw [← la, List.take_length] at p1 b1
      rw [← lb, List.take_length] at p2 b2
      rw [p1, p2]
      simp only [Option.bind_some]
      have f1 := finN_le l[i].Final b1
      have f2 := finN_le l[i].Final b2
      have hva : a.map valN = vs := by
        rw [e3, List.map_map]
        exact (List.map_congr_left fun v hv => valN_itoa (by have := e2 v hv; omega)).trans (List.map_id vs)
      have hvb : b.map valN = vs.map (· ||| m) := by
        rw [e4, List.map_map]
        exact (List.map_congr_left fun v hv => valN_itoa (hv2 v hv)).trans (List.map_id _)
      have j3 : Ok (law24_ToyRings_j3 i dl da false) (NextR i) := by
        unfold law24_ToyRings_j3 law24_ToyRings_j2
        exact Ok.ret ⟨w64 (by omega) (by omega), e5⟩
      have j4 : Ok (law24_ToyRings_j4 at_ (l, y) i (ruleK l[i] i) a dl da true (itoaS (finN l[i].Final (c :: a.map valN) : Nat)) 0 (ByteArray.mk #[]) false) (NextR i) := by
        unfold law24_ToyRings_j4
        obtain ⟨q, hq, eq⟩ := mod_is at_ (m := l.length) (by omega) (by omega)
        simp only [cond_false]
        rw [eq, Option.bind_some]
        refine Ok.cond (fun _ => Ok.gd (room (by simp; omega)) ?_) (fun _ => j3)
        have s77 : Small (a ++ [ByteArray.mk #[55, 55]]) := fun s hs => by
          rcases List.mem_append.1 hs with h1 | h1
          · exact sa s h1
          · simp only [List.mem_cons, List.not_mem_nil, or_false] at h1; subst h1; decide
        obtain ⟨c3, hc3, _, p3, _⟩ := done_ok hR h (ls := a ++ [ByteArray.mk #[55, 55]]) (by simp; omega) s77
        obtain rfl : c3 = c := by omega
        rw [← la, List.take_left] at p3
        rw [p3]
        simp only [Option.bind_some, beq_self_eq_true, Bool.and_self, Bool.not_true]
        exact j3
      unfold law24_ToyRings_j5
      have tv : ∀ n : Nat, n < 65536 → toy_Value (itoaS n) = some (n : Int) := fun n h => value_is h
      rw [tv _ (by omega), tv _ (by omega)]
      simp only [Option.bind_some, Bool.not_true, cond_false]
      rw [itoaM_nat (by omega)]
      simp only [Option.bind_some, beq_self_eq_true, Bool.not_true, cond_false]
      cases hr : l[i].Ring with
      | false => exact j4
      | true =>
        have h5 := ((hR.each i _ (List.getElem?_eq_getElem h)).ring hr).1
        have key : finN l[i].Final (c :: a.map valN) &&& finN l[i].Final (c :: b.map valN) = finN l[i].Final (c :: a.map valN) := by
          rw [h5, hva, hvb]
          unfold finN
          rw [if_neg (by omega), if_neg (by omega), if_neg (by omega), if_neg (by omega), if_neg (by omega), if_neg (by omega), if_neg (by omega), if_neg (by omega)]
          simp only [List.foldl_cons, Nat.zero_or]
          exact sub_fold m vs c c (Nat.and_self c)
        simp only [cond_true]
        rw [and_is (by omega) (by omega), key, show (((finN l[i].Final (c :: a.map valN) : Nat) : Int) != ((finN l[i].Final (c :: a.map valN) : Nat) : Int)) = false from bne_self_eq_false _]
        exact j4
end
theorem rings_is (t : List Int) (more at_ : Int) : law24_ToyRings t more at_ = some true := by
  have key : Ok (law24_ToyRings t more at_) fun b => b = true := by
    unfold law24_ToyRings mill_Light
    simp only [Option.bind_some]
    rw [law24_awake_is]
    refine Ok.cond (fun _ => Ok.ret rfl) fun h => ?_
    have h : t.length ≤ 400 := by simp at h; omega
    unfold mill_Roll
    simp only [Option.bind_some]
    refine Ok.bind (rules_ok (d := t) (i := 0) ⟨by omega, by omega, by omega⟩) fun y hy => ?_
    obtain ⟨l, dd⟩ := y
    obtain ⟨hR, hD⟩ := hy
    have hR : RulesOk l := hR
    have hl8 := hR.high
    refine Ok.loop (fun k s => s.1 = (k : Int) ∧ DiceOk s.2.1 s.2.2) (fun r => r = Fl.go ()) l.length ⟨rfl, hD⟩ (fun k s hk hI => ?_) (fun r hr => ?_)
    · obtain ⟨e1, e2⟩ := hI
      rw [e1]
      by_cases hz : k < l.length
      · refine (rings_l13 hR hz e2).mono fun r hr => ?_
        cases r with
        | go s2 => exact ⟨hz, by rw [hr.1]; simp, hr.2⟩
        | out q => exact hr.elim
      · unfold law24_ToyRings_l13
        rw [show decide ((k : Int) < (l.length : Int)) = false by simp; omega]
        exact Ok.ret rfl
    · subst hr
      simp only [Fl.el]
      unfold law24_ToyRings_j1
      rw [law24_awake_is]
      exact Ok.ret rfl
  obtain ⟨b, e, rfl⟩ := key
  exact e
end Go.Proofs.YtappkgmbdoiocaaDoor
