/- The records that law 29 makes; its sanity check; GroupOf, plain. -/
import Derived.Test.YtdappapdddnciaaDoorX4
set_option linter.unusedVariables false
set_option linter.unusedSimpArgs false
namespace Go.Proofs.YtdappapdddnciaaDoor
open Go.RowKit
open Go.Lib hiding intOf

/-- the names of the law's rings -/
def words5 : List ByteArray := [(ByteArray.mk #[48]), (ByteArray.mk #[49]), (ByteArray.mk #[50]), (ByteArray.mk #[51]), (ByteArray.mk #[52])]
structure Good29 (r : RecordD) : Prop where
  kind : r.Key.Kind = 31 ∨ r.Key.Kind = 32
  text : r.Key.Text ∈ words5
  reads : r.Reads.length ≤ 3
structure G29 (l : List RecordD) (n : Nat) : Prop where
  asc : Asc l
  len : l.length ≤ n
  good : ∀ r ∈ l, Good29 r
theorem G29.sm {l : List RecordD} {n : Nat} (h : G29 l n) (hn : n ≤ 1000) : SmL l := ⟨h.asc, by have := h.len; omega, fun r hr => by have := (h.good r hr).reads; omega⟩
theorem G29.put {l : List RecordD} {n : Nat} (h : G29 l n) {r : RecordD} (hr : Good29 r) : G29 (putL l r) (n + 1) :=
  ⟨putL_asc h.asc r, by have := putL_len l r; have := h.len; omega, fun x hx => by rcases putL_mem hx with hx | rfl; exact h.good x hx; exact hr⟩
theorem putL_pos (l : List RecordD) (r : RecordD) : 0 < (putL l r).length := by unfold putL; simp; omega
theorem kd4 {u : Int} (h0 : 0 ≤ u) (h : u < 5) : IntKind.i64.wrap (32 - (IntKind.i64.wrap (Int.tdiv u 4))) = 31 ∨ IntKind.i64.wrap (32 - (IntKind.i64.wrap (Int.tdiv u 4))) = 32 := by
  have : u = 0 ∨ u = 1 ∨ u = 2 ∨ u = 3 ∨ u = 4 := by omega
  rcases this with rfl | rfl | rfl | rfl | rfl
  · exact .inr rfl
  · exact .inr rfl
  · exact .inr rfl
  · exact .inr rfl
  · exact .inl rfl
theorem records_ok {l : List Int} {i : Int} (h : DiceOk l i) : Ok (law29_records ⟨l, i⟩) fun r => G29 r.1 7 ∧ 0 < r.1.length := by
  unfold law29_records
  refine Ok.bind (next_ok h (n := 6) (by omega) (by omega)) fun u hu => ?_
  obtain ⟨K, hK⟩ : ∃ K : Nat, u.1 = K := ⟨u.1.toNat, by omega⟩
  refine Ok.loop (fun n s => n ≤ K + 2 ∧ s.2.1 = ((K + 2 - n : Nat) : Int) ∧ DiceOk s.2.2.1 s.2.2.2 ∧ G29 s.1 n ∧ (0 < n → 0 < s.1.length)) (fun r => G29 r.1 7 ∧ 0 < r.1.length) (K + 2)
    ⟨Nat.zero_le _, by show IntKind.i64.wrap _ = _; rw [wrap_small (by omega) (by omega)]; omega, hu.2.2, ⟨List.Pairwise.nil, Nat.le_refl _, by simp⟩, fun h => absurd h (Nat.lt_irrefl _)⟩ (fun n s hn hI => ?_) (fun r hr => ?_)
  · obtain ⟨rs, k, dl, da⟩ := s
    obtain ⟨a1, a2, a3, a4, a5⟩ := hI
    dsimp only at a2 a3 a4 a5
    subst a2
    unfold law29_records_l6
    dsimp only
    refine Ok.cond (fun e => ?_) (fun e => ?_)
    · have e : 0 < K + 2 - n := by have := of_decide_eq_true e; omega
      refine Ok.bind (next_ok a3 (n := 5) (by omega) (by omega)) fun v1 h1 => Ok.bind (word_ok h1.2.2 (by simp) (by simp)) fun v2 h2 => Ok.bind (next_ok h2.2 (n := 3) (by omega) (by omega)) fun v3 h3 => Ok.bind (next_ok h3.2.2 (n := 8) (by omega) (by omega)) fun v4 h4 => ?_
      have j5 : ∀ b : Bool, Ok (law29_records_j5 rs ((K + 2 - n : Nat) : Int) v1 v2 v3 v4 b) fun r => match r with
          | .go s' => n < K + 2 ∧ n + 1 ≤ K + 2 ∧ s'.2.1 = ((K + 2 - (n + 1) : Nat) : Int) ∧ DiceOk s'.2.2.1 s'.2.2.2 ∧ G29 s'.1 (n + 1) ∧ (0 < n + 1 → 0 < s'.1.length)
          | .out r => G29 r.1 7 ∧ 0 < r.1.length := fun b => by
        unfold law29_records_j5
        refine Ok.bind (next_ok h4.2.2 (n := 4) (by omega) (by omega)) fun v5 h5 => ?_
        obtain ⟨R, hR⟩ : ∃ R : Nat, v5.1 = R := ⟨v5.1.toNat, by omega⟩
        refine Ok.loop (fun m s => m ≤ R ∧ s.1 = ((R - m : Nat) : Int) ∧ DiceOk s.2.1 s.2.2.1 ∧ s.2.2.2.length = m) (fun r => DiceOk r.1 r.2.1 ∧ r.2.2.length ≤ 3) R
          ⟨Nat.zero_le _, by simpa using hR, h5.2.2, rfl⟩ (fun m s hm hI => ?_) (fun r hr => ?_)
        · obtain ⟨q, dl2, da2, ks⟩ := s
          obtain ⟨c1, c2, c3, c4⟩ := hI
          dsimp only at c2 c3 c4
          subst c2
          unfold law29_records_l4
          dsimp only
          refine Ok.cond (fun e => ?_) (fun e => Ok.ret ⟨c3, by dsimp only; omega⟩)
          have e : 0 < R - m := by have := of_decide_eq_true e; omega
          refine Ok.bind (next_ok c3 (n := 6) (by omega) (by omega)) fun w1 g1 => Ok.bind (word_ok g1.2.2 (by simp) (by simp)) fun w2 g2 => ?_
          refine Ok.gd (room (by simp; omega)) (Ok.ret ⟨by omega, by omega, ?_, g2.2, by simp [c4]⟩)
          show IntKind.i64.wrap _ = _
          rw [wrap_small (by omega) (by omega)]; omega
        · obtain ⟨dl2, da2, ks⟩ := r
          obtain ⟨d1, d2⟩ := hr
          dsimp only at d1 d2 ⊢
          unfold law29_records_j3 law29_records_j2
          have hgood : Good29 (RecordD.mk (KeyD.mk (IntKind.i64.wrap (32 - (IntKind.i64.wrap (Int.tdiv v1.1 4)))) v2.1) (ByteArray.mk #[]) ks 0 v3.1 1 b) := ⟨kd4 h1.1 h1.2.1, h2.1, d2⟩
          rw [refput_is a4.asc (a4.sm (by omega)).rm.1 (by unfold Rm; dsimp only; omega), Option.bind_some]
          refine Ok.ret ⟨by omega, by omega, ?_, d1, a4.put hgood, fun _ => putL_pos _ _⟩
          show IntKind.i64.wrap _ = _
          rw [wrap_small (by omega) (by omega)]; omega
      exact Ok.cond (fun _ => Ok.mono (j5 _) fun v hv => by cases v <;> exact hv) (fun _ => Ok.mono (j5 _) fun v hv => by cases v <;> exact hv)
    · have : n = K + 2 := by have := of_decide_eq_false e; omega
      subst this
      exact Ok.ret ⟨⟨a4.asc, by have := a4.len; dsimp only at *; omega, a4.good⟩, a5 (by omega)⟩
  · obtain ⟨rs, dl, da⟩ := r
    exact Ok.ret hr
theorem keqB_ne {a b : KeyD} (h : a ≠ b) : keqB a b = false := keqB_no.2 h
/-- the sanity check's keys -/
def ringK (n : UInt8) : KeyD := KeyD.mk 32 (ByteArray.mk #[n])
theorem awake_is : law29_awake = some true := by
  unfold law29_awake
  rw [show (2 : Int) = ((2 : Nat) : Int) from rfl, ref23_cell (by omega), Option.bind_some]
  generalize hl : ([_, _] : List RecordD) = l
  have hsm : SmL l := by
    subst hl
    refine ⟨?_, by simp, fun r hr => by simp at hr; rcases hr with rfl | rfl <;> simp⟩
    unfold Asc
    rw [List.pairwise_cons]
    refine ⟨fun r hr => ?_, List.pairwise_singleton _ _⟩
    rw [List.mem_singleton] at hr
    subst hr
    show kcmp (ringK 48) (ringK 49) < 0
    unfold kcmp ringK
    rw [ByteArray.toList_eq, ByteArray.toList_eq]
    decide
  have hab : (ringK 48) ≠ (ringK 49) := fun h => by
    have : (ByteArray.mk #[48] : ByteArray) = ByteArray.mk #[49] := congrArg KeyD.Text h
    exact absurd this (by decide)
  have hfa : findL l (ringK 48) = (l[0]'(by subst hl; simp), true) := by
    have := find_asc hsm.asc (r := l[0]'(by subst hl; simp)) (List.getElem_mem _)
    subst hl; exact this
  have hfb : findL l (ringK 49) = (l[1]'(by subst hl; simp), true) := by
    have := find_asc hsm.asc (r := l[1]'(by subst hl; simp)) (List.getElem_mem _)
    subst hl; exact this
  have hoa : opK l 1 (ringK 48) = true := by unfold opK; rw [hfa, openB_is]; subst hl; rfl
  have hob : opK l 1 (ringK 49) = true := by unfold opK; rw [hfb, openB_is]; subst hl; rfl
  have hra : rdK l (ringK 48) = [ringK 49] := by unfold rdK; rw [hfa]; subst hl; rfl
  have hrb : rdK l (ringK 49) = [ringK 48, cellK 2] := by unfold rdK; rw [hfb]; subst hl; rfl
  have hab2 : Ek l 1 (ringK 48) (ringK 49) := ⟨hoa, by rw [hra]; simp, hob⟩
  have hba2 : Ek l 1 (ringK 49) (ringK 48) := ⟨hob, by rw [hrb]; simp, hoa⟩
  have hg : Grp l 1 (ringK 49) [ringK 48, ringK 49] := by
    refine ⟨?_, fun x => ⟨fun hx => ?_, fun hx => ?_⟩⟩
    · have := hsm.asc
      subst hl
      unfold Asc at this
      unfold KAsc
      rw [List.pairwise_cons] at this ⊢
      refine ⟨fun y hy => ?_, List.pairwise_singleton _ _⟩
      rw [List.mem_singleton] at hy
      subst hy
      exact this.1 _ (List.mem_singleton.2 rfl)
    · simp only [List.mem_cons, List.not_mem_nil, or_false] at hx
      rcases hx with rfl | rfl
      · exact ⟨.snoc .refl hba2, .snoc .refl hab2⟩
      · exact ⟨.refl, .refl⟩
    · have := opK_mem (star_opK hob hx.1)
      subst hl; exact this
  obtain ⟨m, e1, _, hm, h3⟩ := of_both hsm 1 (ringK 49)
  obtain rfl : m = [ringK 48, ringK 49] := by
    rcases h3 with ⟨h, _⟩ | ⟨_, h⟩
    · rw [hob] at h; cases h
    · exact h.uniq hg
  have h0 : group_Of l 0 (ringK 49) = some [ringK 49] := (of_is hsm 0 (ringK 49)).1 (by unfold opK; rw [hfb, openB_is]; subst hl; rfl)
  have hck : group_Checks l [ringK 48, ringK 49] = some [CheckD.mk (ringK 49) (cellK 2)] := by
    rw [checks_both hsm.rm (by unfold Rm; simp), checks_is hsm (by simp)]
    have hc : ∀ n, keqB (cellK 2) (ringK n) = false := fun n => keqB_ne fun h => by
      have : (30 : Int) = 32 := congrArg KeyD.Kind h
      omega
    unfold checksL chk1
    simp only [List.flatMap_cons, List.flatMap_nil, hra, hrb, List.filter_cons, List.filter_nil, List.any_cons, List.any_nil, keqB_refl, keqB_ne hab, keqB_ne (Ne.symm hab), hc, Bool.or_false, Bool.or_true, Bool.true_or, Bool.not_true, Bool.not_false, Bool.false_eq_true, if_false, if_true, List.map_nil, List.map_cons, List.nil_append, List.append_nil]
  unfold law29_awake_j2
  show ((group_Of l 1 (ringK 49)).bind _) = _
  rw [e1, Option.bind_some]
  show ((ref23_SameList [ringK 48, ringK 49] [ringK 48, ringK 49]).bind _) = _
  rw [samelist_is (by simp), decide_eq_true rfl, Option.bind_some, cond_true, hck, Option.bind_some, show (2 : Int) = ((2 : Nat) : Int) from rfl, ref23_cell (by omega), Option.bind_some]
  show ((ref29_SameChecks [CheckD.mk (ringK 49) (cellK 2)] [CheckD.mk (ringK 49) (cellK 2)]).bind _) = _
  rw [samechecks_refl (by simp), Option.bind_some, cond_true]
  show ((group_Of l 0 (ringK 49)).bind _) = _
  rw [h0, Option.bind_some]
  rfl
end Go.Proofs.YtdappapdddnciaaDoor
