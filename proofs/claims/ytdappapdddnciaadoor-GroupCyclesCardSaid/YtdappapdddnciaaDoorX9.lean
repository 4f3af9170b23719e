/- GroupCycles, plain: ways found by going over all keys in between. -/
import Derived.Test.YtdappapdddnciaaDoorX7
import Derived.Test.YtdappapdddnciaaDoorE4
set_option linter.unusedVariables false
set_option linter.unusedSimpArgs false
namespace Go.Proofs.YtdappapdddnciaaDoor
open Go.RowKit
open Go.Lib hiding intOf

/-- a square of truth values -/
def Mat (n : Nat) (way : List (List Bool)) (f : Nat → Nat → Bool) : Prop :=
  way.length = n ∧ ∀ i, i < n → ∃ row, way[i]? = some row ∧ row.length = n ∧ ∀ k, k < n → row[k]? = some (f i k)
theorem Mat.congr {n : Nat} {way : List (List Bool)} {f g : Nat → Nat → Bool} (h : Mat n way f) (e : ∀ a c, a < n → c < n → f a c = g a c) : Mat n way g :=
  ⟨h.1, fun i hi => by obtain ⟨row, h1, h2, h3⟩ := h.2 i hi; exact ⟨row, h1, h2, fun k hk => by rw [h3 k hk, e i k hi hk]⟩⟩
def updF (f : Nat → Nat → Bool) (i k : Nat) (b : Bool) : Nat → Nat → Bool := fun a c => if a = i ∧ c = k then b else f a c
theorem Mat.set {n : Nat} {way : List (List Bool)} {f : Nat → Nat → Bool} (h : Mat n way f) {i k : Nat} {row : List Bool} (hi : i < n) (hk : k < n) (hr : way[i]? = some row) (b : Bool) : Mat n (way.set i (row.set k b)) (updF f i k b) := by
  obtain ⟨row', h1, h2, h3⟩ := h.2 i hi
  obtain rfl := Option.some.inj (hr.symm.trans h1)
  refine ⟨by simp [h.1], fun a ha => ?_⟩
  by_cases hai : i = a
  · subst hai
    refine ⟨row.set k b, by rw [List.getElem?_set_self (by rw [h.1]; exact hi)], by simp [h2], fun c hc => ?_⟩
    unfold updF
    by_cases hck : k = c
    · subst hck; rw [List.getElem?_set_self (by omega), if_pos ⟨rfl, rfl⟩]
    · rw [List.getElem?_set_ne hck, h3 c hc, if_neg (fun h => hck h.2.symm)]
  · obtain ⟨row2, g1, g2, g3⟩ := h.2 a ha
    refine ⟨row2, by rw [List.getElem?_set_ne hai]; exact g1, g2, fun c hc => ?_⟩
    unfold updF
    rw [g3 c hc, if_neg (fun h => hai h.1.symm)]
/-- new values up to a place, old ones behind it -/
def prg (v f : Nat → Nat → Bool) (i k : Nat) : Nat → Nat → Bool := fun a c => if a < i ∨ (a = i ∧ c < k) then v a c else f a c
theorem prg_step (v f : Nat → Nat → Bool) (i k : Nat) : updF (prg v f i k) i k (v i k) = prg v f i (k + 1) := by
  funext a c
  unfold updF prg
  by_cases h1 : a = i
  · subst h1
    by_cases h2 : c = k
    · subst h2; rw [if_pos ⟨rfl, rfl⟩, if_pos (.inr ⟨rfl, by omega⟩)]
    · rw [if_neg (fun h => h2 h.2)]
      by_cases h3 : c < k
      · rw [if_pos (.inr ⟨rfl, h3⟩), if_pos (.inr ⟨rfl, by omega⟩)]
      · rw [if_neg (by omega), if_neg (by omega)]
  · rw [if_neg (fun h => h1 h.1)]
    by_cases h3 : a < i
    · rw [if_pos (.inl h3), if_pos (.inl h3)]
    · rw [if_neg (by omega), if_neg (by omega)]
theorem prg_row {v f : Nat → Nat → Bool} {n i : Nat} {way : List (List Bool)} (h : Mat n way (prg v f i n)) : Mat n way (prg v f (i + 1) 0) :=
  h.congr fun a c ha hc => by
    unfold prg
    by_cases h1 : a < i ∨ (a = i ∧ c < n)
    · rw [if_pos h1, if_pos (by omega)]
    · rw [if_neg h1, if_neg (by omega)]
theorem prg_zero (v f : Nat → Nat → Bool) : prg v f 0 0 = f := by
  funext a c
  unfold prg
  rw [if_neg (by omega)]
theorem prg_all {v f : Nat → Nat → Bool} {n : Nat} {way : List (List Bool)} (h : Mat n way (prg v f n 0)) : Mat n way v :=
  h.congr fun a c ha hc => by unfold prg; rw [if_pos (.inl ha)]
/-- ways over keys below m in between -/
def wf (E0 : Nat → Nat → Bool) : Nat → Nat → Nat → Bool
  | 0 => E0
  | m + 1 => fun a c => wf E0 m a c || (wf E0 m a m && wf E0 m m c)
theorem prg_at (E0 : Nat → Nat → Bool) (m i k a : Nat) : prg (wf E0 (m + 1)) (wf E0 m) i k a m = wf E0 m a m ∧ prg (wf E0 (m + 1)) (wf E0 m) i k m a = wf E0 m m a := by
  unfold prg
  constructor
  · split
    · show (wf E0 m a m || (wf E0 m a m && wf E0 m m m)) = _
      cases wf E0 m a m <;> rfl
    · rfl
  · split
    · show (wf E0 m m a || (wf E0 m m m && wf E0 m m a)) = _
      cases wf E0 m m a <;> simp
    · rfl
theorem wf_mono {E0 : Nat → Nat → Bool} {a c : Nat} : ∀ m, E0 a c = true → wf E0 m a c = true
  | 0, h => h
  | m + 1, h => by unfold wf; rw [wf_mono m h]; rfl
theorem wf_trans {E0 : Nat → Nat → Bool} : ∀ (m j i k : Nat), j < m → wf E0 m i j = true → wf E0 m j k = true → wf E0 m i k = true
  | m + 1, j, i, k, hj, h1, h2 => by
    have ih := wf_trans (E0 := E0) m j
    unfold wf at h1 h2 ⊢
    simp only [Bool.or_eq_true, Bool.and_eq_true] at h1 h2 ⊢
    by_cases hjm : j = m
    · subst hjm
      have h1' : wf E0 j i j = true := h1.elim id fun h => h.1
      have h2' : wf E0 j j k = true := h2.elim id fun h => h.2
      exact .inr ⟨h1', h2'⟩
    · have hlt : j < m := by omega
      rcases h1 with h1 | ⟨h1, h1'⟩ <;> rcases h2 with h2 | ⟨h2, h2'⟩
      · exact .inl (ih i k hlt h1 h2)
      · exact .inr ⟨ih i m hlt h1 h2, h2'⟩
      · exact .inr ⟨h1, ih m k hlt h1' h2⟩
      · exact .inr ⟨h1, h2'⟩

section
variable {l : List RecordD}
/-- the edges by number -/
noncomputable def eN (l : List RecordD) (i k : Nat) : Bool := match l[i]?, l[k]? with
  | some r, some q => openB r 2 && (openB q 2 && decide (q.Key ∈ r.Reads))
  | _, _ => false
theorem opK_at (hl : SmL l) {i : Nat} {r : RecordD} (hr : l[i]? = some r) : opK l 2 r.Key = openB r 2 ∧ rdK l r.Key = r.Reads := by
  unfold opK rdK
  rw [find_asc hl.asc (List.mem_of_getElem? hr)]
  exact ⟨rfl, rfl⟩
theorem eN_is (hl : SmL l) {i k : Nat} {r q : RecordD} (hr : l[i]? = some r) (hq : l[k]? = some q) : eN l i k = true ↔ Ek l 2 r.Key q.Key := by
  unfold eN Ek Eg
  rw [hr, hq]
  simp only [Bool.and_eq_true, decide_eq_true_eq]
  rw [(opK_at hl hr).1, (opK_at hl hr).2, (opK_at hl hq).1]
  exact ⟨fun h => ⟨h.1, h.2.2, h.2.1⟩, fun h => ⟨h.1, h.2.2, h.2.1⟩⟩
theorem key_inj (hl : SmL l) {i k : Nat} {r q : RecordD} (hr : l[i]? = some r) (hq : l[k]? = some q) (e : r.Key = q.Key) : i = k := by
  obtain ⟨i1, i2⟩ := List.getElem?_eq_some_iff.1 hr
  obtain ⟨k1, k2⟩ := List.getElem?_eq_some_iff.1 hq
  rcases Nat.lt_trichotomy i k with h | h | h
  · have := List.pairwise_iff_getElem.1 hl.asc i k i1 k1 h
    rw [i2, k2, e] at this; exact absurd this kcmp_irr
  · exact h
  · have := List.pairwise_iff_getElem.1 hl.asc k i k1 i1 h
    rw [i2, k2, e] at this; exact absurd this kcmp_irr
theorem wf_way (hl : SmL l) : ∀ (m i k : Nat) (r q : RecordD), l[i]? = some r → l[k]? = some q → m ≤ l.length → wf (eN l) m i k = true → Plus (Ek l 2) r.Key q.Key
  | 0, i, k, r, q, hr, hq, _, h => ⟨r.Key, .refl, (eN_is hl hr hq).1 h⟩
  | m + 1, i, k, r, q, hr, hq, hm, h => by
    unfold wf at h
    simp only [Bool.or_eq_true, Bool.and_eq_true] at h
    rcases h with h | ⟨h1, h2⟩
    · exact wf_way hl m i k r q hr hq (by omega) h
    · have hx : l[m]? = some l[m] := List.getElem?_eq_getElem (by omega)
      obtain ⟨y, h3, h4⟩ := wf_way hl m m k _ q hx hq (by omega) h2
      exact ⟨y, (wf_way hl m i m r _ hr hx (by omega) h1).star.trans h3, h4⟩
theorem way_wf (hl : SmL l) {i k : Nat} {r q : RecordD} (hr : l[i]? = some r) (hq : l[k]? = some q) : wf (eN l) l.length i k = true ↔ Plus (Ek l 2) r.Key q.Key := by
  refine ⟨wf_way hl _ i k r q hr hq (Nat.le_refl _), ?_⟩
  have key : ∀ y, Star (Ek l 2) r.Key y → y = r.Key ∨ ∃ j s, l[j]? = some s ∧ s.Key = y ∧ wf (eN l) l.length i j = true := by
    intro y hy
    induction hy with
    | refl => exact .inl rfl
    | snoc _ e ih =>
      rename_i y z _
      obtain ⟨s, hs, e2⟩ := List.mem_map.1 (opK_mem e.2.2)
      obtain ⟨j, hj⟩ := List.mem_iff_getElem?.1 hs
      subst e2
      refine .inr ⟨j, s, hj, rfl, ?_⟩
      rcases ih with rfl | ⟨j2, s2, h1, rfl, h3⟩
      · exact wf_mono _ ((eN_is hl hr hj).2 e)
      · exact wf_trans _ j2 i j (lt_of_get h1) h3 (wf_mono _ ((eN_is hl h1 hj).2 e))
  rintro ⟨y, h0, e⟩
  rcases key y h0 with rfl | ⟨j2, s2, h1, rfl, h3⟩
  · exact wf_mono _ ((eN_is hl hr hq).2 e)
  · exact wf_trans _ j2 i k (lt_of_get h1) h3 (wf_mono _ ((eN_is hl h1 hq).2 e))
end

section
variable {u : List RecordD × DiceD} (hsm : SmL u.1) (hn : u.1.length ≤ 7)
include hn in
/-- the loop over all three -/
theorem war_in {m i : Nat} (hm : m < u.1.length) (hi : i < u.1.length) {way : List (List Bool)} (h : Mat u.1.length way (prg (wf (eN u.1) (m + 1)) (wf (eN u.1) m) i 0)) :
    Ok (loop (fun s : (List (List Bool)) × Int => law29_GroupCycles_l9 u (m : Int) (i : Int) s.1 s.2) (way, 0)) fun w => Mat u.1.length w (prg (wf (eN u.1) (m + 1)) (wf (eN u.1) m) (i + 1) 0) := by
  refine loop_spec (B := fun s : (List (List Bool)) × Int => law29_GroupCycles_l9 u (m : Int) (i : Int) s.1 s.2) (fun k s => s.2 = (k : Int) ∧ Mat u.1.length s.1 (prg (wf (eN u.1) (m + 1)) (wf (eN u.1) m) i k)) _ u.1.length ?_ ?_ ⟨rfl, h⟩
  · rintro k ⟨w, kk⟩ hk ⟨rfl, hM⟩
    dsimp only at hM ⊢
    obtain ⟨row, h1, h2, h3⟩ := hM.2 i hi
    obtain ⟨rom, g1, g2, g3⟩ := hM.2 m hm
    have hold : prg (wf (eN u.1) (m + 1)) (wf (eN u.1) m) i k i k = wf (eN u.1) m i k := by unfold prg; rw [if_neg (by omega)]
    have hset : ∀ b, b = wf (eN u.1) (m + 1) i k → Mat u.1.length (w.set i (row.set k b)) (prg (wf (eN u.1) (m + 1)) (wf (eN u.1) m) i (k + 1)) := fun b hb => by
      rw [← prg_step, ← hb]; exact hM.set hi hk h1 b
    have hv : wf (eN u.1) (m + 1) i k = (wf (eN u.1) m i k || (wf (eN u.1) m i m && wf (eN u.1) m m k)) := rfl
    refine .inl ?_
    unfold law29_GroupCycles_l9
    rw [dlt hk, cond_true, getI_nat, h1, Option.bind_some, Option.bind_some, getI_nat, h3 k hk, Option.bind_some, winc (by omega), Int.toNat_natCast, Int.toNat_natCast, hold]
    cases e1 : wf (eN u.1) m i k with
    | true =>
      rw [cond_true, Option.bind_some]
      exact ⟨_, rfl, rfl, hset true (by rw [hv, e1]; rfl)⟩
    | false =>
      rw [cond_false, Option.bind_some, getI_nat, h3 m hm, Option.bind_some, (prg_at (eN u.1) m i k i).1]
      cases e2 : wf (eN u.1) m i m with
      | true =>
        rw [cond_true, getI_nat, g1, Option.bind_some, getI_nat, g3 k hk, Option.bind_some, Option.bind_some, (prg_at (eN u.1) m i k k).2]
        exact ⟨_, rfl, rfl, hset _ (by rw [hv, e1, e2]; simp)⟩
      | false =>
        rw [cond_false, Option.bind_some]
        exact ⟨_, rfl, rfl, hset false (by rw [hv, e1, e2]; rfl)⟩
  · rintro ⟨w, kk⟩ ⟨rfl, hM⟩
    dsimp only at hM ⊢
    have hend : law29_GroupCycles_l9 u (m : Int) (i : Int) w (u.1.length : Int) = some (.out w) := by
      unfold law29_GroupCycles_l9
      rw [dlt_end]; rfl
    exact ⟨w, hend, prg_row hM⟩
include hn in
theorem war_mid {m : Nat} (hm : m < u.1.length) {way : List (List Bool)} (h : Mat u.1.length way (wf (eN u.1) m)) :
    Ok (loop (fun s : (List (List Bool)) × Int => law29_GroupCycles_l10 u (m : Int) s.1 s.2) (way, 0)) fun w => Mat u.1.length w (wf (eN u.1) (m + 1)) := by
  refine loop_spec (B := fun s : (List (List Bool)) × Int => law29_GroupCycles_l10 u (m : Int) s.1 s.2) (fun i s => s.2 = (i : Int) ∧ Mat u.1.length s.1 (prg (wf (eN u.1) (m + 1)) (wf (eN u.1) m) i 0)) _ u.1.length ?_ ?_ ⟨rfl, by rw [prg_zero]; exact h⟩
  · rintro i ⟨w, kk⟩ hi ⟨rfl, hM⟩
    dsimp only at hM ⊢
    obtain ⟨w2, e2, h2⟩ := war_in hn hm hi hM
    refine .inl ⟨(w2, ((i + 1 : Nat) : Int)), ?_, rfl, h2⟩
    unfold law29_GroupCycles_l10 law29_GroupCycles_j8
    rw [dlt hi, cond_true, e2, Option.bind_some, winc (by omega)]
  · rintro ⟨w, kk⟩ ⟨rfl, hM⟩
    dsimp only at hM ⊢
    refine ⟨w, ?_, prg_all hM⟩
    unfold law29_GroupCycles_l10
    rw [dlt_end]; rfl
include hn in
theorem war_all {way : List (List Bool)} (h : Mat u.1.length way (eN u.1)) :
    Ok (loop (fun s : (List (List Bool)) × Int => law29_GroupCycles_l11 u s.1 s.2) (way, 0)) fun w => Mat u.1.length w (wf (eN u.1) u.1.length) := by
  refine loop_spec (B := fun s : (List (List Bool)) × Int => law29_GroupCycles_l11 u s.1 s.2) (fun m s => s.2 = (m : Int) ∧ Mat u.1.length s.1 (wf (eN u.1) m)) _ u.1.length ?_ ?_ ⟨rfl, h⟩
  · rintro m ⟨w, kk⟩ hm ⟨rfl, hM⟩
    dsimp only at hM ⊢
    obtain ⟨w2, e2, h2⟩ := war_mid hn hm hM
    refine .inl ⟨(w2, ((m + 1 : Nat) : Int)), ?_, rfl, h2⟩
    unfold law29_GroupCycles_l11 law29_GroupCycles_j7
    rw [dlt hm, cond_true, e2, Option.bind_some, winc (by omega)]
  · rintro ⟨w, kk⟩ ⟨rfl, hM⟩
    dsimp only at hM ⊢
    refine ⟨w, ?_, hM⟩
    unfold law29_GroupCycles_l11
    rw [dlt_end]; rfl
/-- the open ones -/
noncomputable def opsL (l : List RecordD) : List Bool := l.map fun r => openB r 2
include hsm hn in
theorem fill_in {i : Nat} {r : RecordD} (hr : u.1[i]? = some r) {way : List (List Bool)} (h : Mat u.1.length way (prg (eN u.1) (fun _ _ => false) i 0)) :
    Ok (loop (fun s : (List (List Bool)) × Int => law29_GroupCycles_l14 u (opsL u.1) (i : Int) r s.1 s.2) (way, 0)) fun w => Mat u.1.length w (prg (eN u.1) (fun _ _ => false) (i + 1) 0) := by
  have hi := lt_of_get hr
  have hrl := hsm.rds r (List.mem_of_getElem? hr)
  refine loop_spec (B := fun s : (List (List Bool)) × Int => law29_GroupCycles_l14 u (opsL u.1) (i : Int) r s.1 s.2) (fun k s => s.2 = (k : Int) ∧ Mat u.1.length s.1 (prg (eN u.1) (fun _ _ => false) i k)) _ u.1.length ?_ ?_ ⟨rfl, h⟩
  · rintro k ⟨w, kk⟩ hk ⟨rfl, hM⟩
    dsimp only at hM ⊢
    obtain ⟨row, h1, h2, h3⟩ := hM.2 i hi
    have hq : u.1[k]? = some u.1[k] := List.getElem?_eq_getElem hk
    generalize u.1[k] = q at hq
    have hset : ∀ b, b = eN u.1 i k → Mat u.1.length (w.set i (row.set k b)) (prg (eN u.1) (fun _ _ => false) i (k + 1)) := fun b hb => by
      rw [← prg_step, ← hb]; exact hM.set hi hk h1 b
    have hv : eN u.1 i k = (openB r 2 && (openB q 2 && decide (q.Key ∈ r.Reads))) := by unfold eN; rw [hr, hq]
    have hoi : (opsL u.1)[i]? = some (openB r 2) := by unfold opsL; rw [List.getElem?_map, hr]; rfl
    have hok : (opsL u.1)[k]? = some (openB q 2) := by unfold opsL; rw [List.getElem?_map, hq]; rfl
    refine .inl ?_
    unfold law29_GroupCycles_l14
    rw [dlt hk, cond_true, getI_nat, hq, Option.bind_some, getI_nat, h1, Option.bind_some, getI_nat, hoi, Option.bind_some, winc (by omega), Int.toNat_natCast, Int.toNat_natCast]
    cases e1 : openB r 2 with
    | true =>
      rw [cond_true, getI_nat, hok, Option.bind_some]
      cases e2 : openB q 2 with
      | true =>
        rw [cond_true, refhas_dec (by omega), Option.bind_some, getI_nat, h3 k hk, Option.bind_some]
        exact ⟨_, rfl, rfl, hset _ (by rw [hv, e1, e2]; simp)⟩
      | false =>
        rw [cond_false, getI_nat, h3 k hk, Option.bind_some]
        exact ⟨_, rfl, rfl, hset _ (by rw [hv, e1, e2]; rfl)⟩
    | false =>
      rw [cond_false, getI_nat, h3 k hk, Option.bind_some]
      exact ⟨_, rfl, rfl, hset _ (by rw [hv, e1]; rfl)⟩
  · rintro ⟨w, kk⟩ ⟨rfl, hM⟩
    dsimp only at hM ⊢
    have hend : law29_GroupCycles_l14 u (opsL u.1) (i : Int) r w (u.1.length : Int) = some (.out w) := by
      unfold law29_GroupCycles_l14
      rw [dlt_end]; rfl
    exact ⟨w, hend, prg_row hM⟩
include hsm hn in
theorem fill_all {way : List (List Bool)} (h : Mat u.1.length way (fun _ _ => false)) :
    Ok (loop (fun s : (List (List Bool)) × Int => law29_GroupCycles_l15 u (opsL u.1) s.1 s.2) (way, 0)) fun w => Mat u.1.length w (eN u.1) := by
  refine loop_spec (B := fun s : (List (List Bool)) × Int => law29_GroupCycles_l15 u (opsL u.1) s.1 s.2) (fun i s => s.2 = (i : Int) ∧ Mat u.1.length s.1 (prg (eN u.1) (fun _ _ => false) i 0)) _ u.1.length ?_ ?_ ⟨rfl, by rw [prg_zero]; exact h⟩
  · rintro i ⟨w, kk⟩ hi ⟨rfl, hM⟩
    dsimp only at hM ⊢
    have hr : u.1[i]? = some u.1[i] := List.getElem?_eq_getElem hi
    obtain ⟨w2, e2, h2⟩ := fill_in hsm hn hr hM
    refine .inl ⟨(w2, ((i + 1 : Nat) : Int)), ?_, rfl, h2⟩
    unfold law29_GroupCycles_l15 law29_GroupCycles_j13
    rw [dlt hi, cond_true, getI_nat, hr, Option.bind_some, e2, Option.bind_some, winc (by omega)]
  · rintro ⟨w, kk⟩ ⟨rfl, hM⟩
    dsimp only at hM ⊢
    refine ⟨w, ?_, prg_all hM⟩
    unfold law29_GroupCycles_l15
    rw [dlt_end]; rfl
include hn in
theorem make_all (hg : G29 u.1 7) : loop (fun s : (List (List Bool)) × (List Bool) × Int => law29_GroupCycles_l18 u s.1 s.2.1 s.2.2) (List.replicate u.1.length [], List.replicate u.1.length false, 0) = some (List.replicate u.1.length (List.replicate u.1.length false), opsL u.1) := by
  refine loop_gather (xs := u.1) (fun i => (List.replicate i (List.replicate u.1.length false) ++ List.replicate (u.1.length - i) [], (opsL u.1).take i ++ List.replicate (u.1.length - i) false, (i : Int))) (by simp) (fun i r hr => ?_) ?_
  · have hi := lt_of_get hr
    have hol : (opsL u.1).length = u.1.length := by unfold opsL; simp
    have hoi : (opsL u.1)[i]? = some (openB r 2) := by unfold opsL; rw [List.getElem?_map, hr]; rfl
    have htl : ((opsL u.1).take i).length = i := by rw [List.length_take]; omega
    have ho : openB r 2 = (decide (r.Key.Kind = 32) && decide (r.Verified < 2) && !r.Dirty) := by
      rw [openB_is]
      congr 2
      unfold cycB
      rcases (hg.good r (List.mem_of_getElem? hr)).kind with h | h <;> simp [h]
    have hset : ∀ b, b = openB r 2 → ((opsL u.1).take i ++ List.replicate (u.1.length - i) false).set i b = (opsL u.1).take (i + 1) ++ List.replicate (u.1.length - (i + 1)) false := fun b hb => by
      rw [List.set_append_right _ _ (by omega), htl, Nat.sub_self, take_snoc' hoi, hb, show u.1.length - i = (u.1.length - (i + 1)) + 1 by omega, List.replicate_succ, List.set_cons_zero, List.append_assoc]; rfl
    have hwset : (List.replicate i (List.replicate u.1.length false) ++ List.replicate (u.1.length - i) []).set i (List.replicate u.1.length false) = List.replicate (i + 1) (List.replicate u.1.length false) ++ List.replicate (u.1.length - (i + 1)) [] := by
      rw [List.set_append_right _ _ (by simp), List.length_replicate, Nat.sub_self, show u.1.length - i = (u.1.length - (i + 1)) + 1 by omega, List.replicate_succ, List.set_cons_zero, List.replicate_succ', List.append_assoc]; rfl
    have hget : ((opsL u.1).take i ++ List.replicate (u.1.length - i) false)[i]? = some false := by
      rw [List.getElem?_append_right (by omega), htl, Nat.sub_self, show u.1.length - i = (u.1.length - (i + 1)) + 1 by omega, List.replicate_succ]; rfl
    have hgw : (List.replicate i (List.replicate u.1.length false) ++ List.replicate (u.1.length - i) [])[i]? = some [] := by
      rw [List.getElem?_append_right (by simp), List.length_replicate, Nat.sub_self, show u.1.length - i = (u.1.length - (i + 1)) + 1 by omega, List.replicate_succ]; rfl
    have j17 : ∀ o, law29_GroupCycles_j17 u (List.replicate i (List.replicate u.1.length false) ++ List.replicate (u.1.length - i) []) (i : Int) o = some (.go (List.replicate (i + 1) (List.replicate u.1.length false) ++ List.replicate (u.1.length - (i + 1)) [], o, ((i + 1 : Nat) : Int))) := fun o => by
      unfold law29_GroupCycles_j17
      rw [gd, decide_eq_true (by omega), cond_true, gd, room (by rw [Int.toNat_natCast]; omega), cond_true, getI_nat, hgw, Option.bind_some, Int.toNat_natCast, Int.toNat_natCast, hwset, winc (by omega)]
    unfold law29_GroupCycles_l18
    dsimp only
    rw [dlt_of hr, cond_true, getI_nat, hr, Option.bind_some, getI_nat, hget, Int.toNat_natCast]
    simp only [Option.bind_some, j17]
    cases h1 : ((r.Key.Kind : Int) == 32) with
    | true =>
      rw [cond_true]
      cases h2 : decide (r.Verified < 2) with
      | true =>
        rw [cond_true, hset _ (by rw [ho, h2, decide_eq_true (by simpa using h1)]; simp)]
      | false =>
        rw [cond_false, hset _ (by rw [ho, h2]; simp)]
    | false =>
      rw [cond_false, hset _ (by rw [ho, decide_eq_false (by simpa using h1)]; rfl)]
  · unfold law29_GroupCycles_l18
    dsimp only
    rw [dlt_end, Nat.sub_self, show (opsL u.1).take u.1.length = opsL u.1 from by rw [List.take_of_length_le]; unfold opsL; simp]
    simp
theorem mat_false (n : Nat) : Mat n (List.replicate n (List.replicate n false)) fun _ _ => false :=
  ⟨by simp, fun i hi => ⟨List.replicate n false, by rw [List.getElem?_replicate, if_pos hi], by simp, fun k hk => by rw [List.getElem?_replicate, if_pos hk]⟩⟩
end
theorem groupCycles_is (t : List Int) : law29_GroupCycles t = some true := by
  unfold law29_GroupCycles
  rw [light_is, Option.bind_some]
  by_cases ht : t.length ≤ 400
  · rw [decide_eq_true ht, Bool.not_true, cond_false, roll_is, Option.bind_some]
    obtain ⟨u, hu, hg, hpos⟩ := records_ok (l := t) (i := 0) ⟨Int.le_refl _, by omega, ht⟩
    rw [hu, Option.bind_some]
    have hsm := hg.sm (by omega)
    have hn := hg.len
    rw [gd, decide_eq_true (by omega), cond_true, gd, room (by rw [Int.toNat_natCast]; omega), cond_true, gd, cond_true, gd, cond_true, Int.toNat_natCast, make_all hn hg, Option.bind_some]
    unfold law29_GroupCycles_j16 law29_GroupCycles_j12 law29_GroupCycles_j6
    obtain ⟨w1, e1, h1⟩ := fill_all hsm hn (mat_false u.1.length)
    dsimp only
    rw [e1, Option.bind_some]
    obtain ⟨w2, e2, h2⟩ := war_all hn h1
    rw [e2, Option.bind_some]
    have key : loop (fun s : Int => law29_GroupCycles_l5 u w2 s) 0 = some (Fl.go ()) := by
      refine loop_gather (xs := u.1) (fun k => (k : Int)) rfl (r := Fl.go ()) (fun i r hr => ?_) ?_
      · have hi := lt_of_get hr
        obtain ⟨g, hgo⟩ := go_is hsm 2 r.Key
        have hgl := hgo.len
        have hin : loop (fun s : Int => law29_GroupCycles_l4 u w2 (i : Int) g s) 0 = some (Fl.go ()) := by
          refine loop_gather (xs := u.1) (fun k => (k : Int)) rfl (r := Fl.go ()) (fun k q hq => ?_) ?_
          · have hk := lt_of_get hq
            have j3 : law29_GroupCycles_j3 (k : Int) false = some (.go ((k + 1 : Nat) : Int)) := by
              unfold law29_GroupCycles_j3
              rw [cond_false, winc (by omega)]
            obtain ⟨row, a1, a2, a3⟩ := h2.2 i hi
            obtain ⟨rok, b1, b2, b3⟩ := h2.2 k hk
            have hmem : q.Key ∈ g ↔ i = k ∨ (wf (eN u.1) u.1.length i k = true ∧ wf (eN u.1) u.1.length k i = true) := by
              rw [way_wf hsm hr hq, way_wf hsm hq hr]
              rcases hgo.how with ⟨ho, rfl⟩ | ⟨ho, hG⟩
              · rw [List.mem_singleton]
                constructor
                · intro e; exact .inl (key_inj hsm hr hq e.symm)
                · rintro (rfl | ⟨⟨y, h3, h4⟩, _⟩)
                  · rw [hr] at hq; rw [Option.some.inj hq]
                  · exfalso
                    have : opK u.1 2 r.Key = true := by
                      rcases h3.cases_head with rfl | ⟨z, h5, _⟩
                      · exact h4.1
                      · exact h5.1
                    rw [ho] at this; cases this
              · rw [hG.2]
                constructor
                · rintro ⟨h3, h4⟩
                  by_cases hik : i = k
                  · exact .inl hik
                  · have hne : r.Key ≠ q.Key := fun e => hik (key_inj hsm hr hq e)
                    exact .inr ⟨h3.plus hne, h4.plus hne.symm⟩
                · rintro (rfl | ⟨h3, h4⟩)
                  · rw [hr] at hq
                    rw [Option.some.inj hq]; exact ⟨.refl, .refl⟩
                  · exact ⟨h3.star, h4.star⟩
            unfold law29_GroupCycles_l4
            rw [dlt_of hq, cond_true, getI_nat, hq, Option.bind_some, refhas_dec (by omega), Option.bind_some]
            by_cases hik : i = k
            · rw [show ((i : Int) == (k : Int)) = true from by simp [hik], cond_true, decide_eq_true (hmem.2 (.inl hik))]
              exact j3
            · rw [show ((i : Int) == (k : Int)) = false from by simp; omega, cond_false, getI_nat, a1, Option.bind_some, getI_nat, a3 k hk, Option.bind_some]
              cases c1 : wf (eN u.1) u.1.length i k with
              | true =>
                rw [cond_true, getI_nat, b1, Option.bind_some, getI_nat, b3 i hi, Option.bind_some]
                have : decide (q.Key ∈ g) = wf (eN u.1) u.1.length k i := by
                  rw [Bool.eq_iff_iff, decide_eq_true_iff, hmem]
                  exact ⟨fun h => (h.resolve_left hik).2, fun h => .inr ⟨c1, h⟩⟩
                rw [this, bne_self_eq_false]; exact j3
              | false =>
                rw [cond_false]
                have : decide (q.Key ∈ g) = false := decide_eq_false fun h => by
                  have := ((hmem.1 h).resolve_left hik).1
                  rw [c1] at this; cases this
                rw [this]; exact j3
          · unfold law29_GroupCycles_l4
            rw [dlt_end]; rfl
        unfold law29_GroupCycles_l5 law29_GroupCycles_j2
        rw [dlt_of hr, cond_true, getI_nat, hr, Option.bind_some, hgo.eq, Option.bind_some, hin, Option.bind_some]
        simp only [Fl.el]
        rw [winc (by omega)]
      · unfold law29_GroupCycles_l5
        rw [dlt_end]; rfl
    rw [key, Option.bind_some]
    simp only [Fl.el]
    unfold law29_GroupCycles_j1
    rw [awake_is]; rfl
  · rw [decide_eq_false ht, Bool.not_false, cond_true, awake_is]; rfl
end Go.Proofs.YtdappapdddnciaaDoor
