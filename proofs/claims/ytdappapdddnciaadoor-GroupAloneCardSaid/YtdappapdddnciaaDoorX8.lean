/- GroupAlone, plain. -/
import Derived.Test.YtdappapdddnciaaDoorX7
import Derived.Test.YtdappapdddnciaaDoorE3
set_option linter.unusedVariables false
set_option linter.unusedSimpArgs false
namespace Go.Proofs.YtdappapdddnciaaDoor
open Go.RowKit
open Go.Lib hiding intOf

theorem GO.alone {l : List RecordD} {rev : Int} {k : KeyD} {m : List KeyD} (h : GO l rev k m) (hk : opK l rev k = false) : m = [k] := by
  rcases h.how with ⟨_, e⟩ | ⟨e, _⟩
  · exact e
  · rw [hk] at e; cases e
theorem putL_self (l : List RecordD) (r : RecordD) : r ∈ putL l r := by unfold putL; simp
theorem groupAlone_is (t : List Int) (rev : Int) : law29_GroupAlone t rev = some true := by
  unfold law29_GroupAlone
  rw [light_is, Option.bind_some]
  by_cases ht : t.length ≤ 400
  · rw [decide_eq_true ht, Bool.not_true, cond_false, roll_is, Option.bind_some]
    obtain ⟨u, hu, hg, hpos⟩ := records_ok (l := t) (i := 0) ⟨Int.le_refl _, by omega, ht⟩
    rw [hu, Option.bind_some]
    have hsm := hg.sm (by omega)
    have hlen := hg.len
    obtain ⟨q, hq, e⟩ := mod_is rev (m := 4) (by omega) (by omega)
    rw [show (4 : Int) = ((4 : Nat) : Int) from rfl, e, Option.bind_some]
    generalize ((q : Nat) : Int) = n
    have key : loop (fun s : Int => law29_GroupAlone_l4 u n s) 0 = some (Fl.go ()) := by
      refine loop_gather (xs := u.1) (fun k => (k : Int)) rfl (r := Fl.go ()) (fun k r hr => ?_) ?_
      · have hk := lt_of_get hr
        have hmem := List.mem_of_getElem? hr
        obtain ⟨m, hm⟩ := go_is hsm n r.Key
        have hml := hm.len
        have hop : opK u.1 n r.Key = openB r n := by unfold opK; rw [find_asc hsm.asc hmem]; rfl
        have j3 : law29_GroupAlone_j3 (k : Int) false = some (.go ((k + 1 : Nat) : Int)) := by
          unfold law29_GroupAlone_j3
          rw [cond_false, winc (by omega)]
        have hal : openB r n = false → ((ref23_SameList m [r.Key]).bind fun u => law29_GroupAlone_j3 (k : Int) (!u)) = some (.go ((k + 1 : Nat) : Int)) := fun h => by
          rw [samelist_is (by omega), decide_eq_true (hm.alone (hop.trans h)), Option.bind_some, Bool.not_true, j3]
        unfold law29_GroupAlone_l4
        rw [dlt_of hr, cond_true, getI_nat, hr, Option.bind_some, hm.eq, Option.bind_some]
        rw [openB_is] at hal
        cases h1 : ((r.Key.Kind : Int) != 32) with
        | true =>
          rw [cond_true]
          refine hal ?_
          have hk31 : r.Key.Kind = 31 := by
            rcases (hg.good r hmem).kind with h | h
            · exact h
            · rw [h] at h1; simp at h1
          unfold cycB
          simp [hk31]
        | false =>
          rw [cond_false]
          cases h2 : decide ((n : Int) ≤ r.Verified) with
          | true =>
            rw [cond_true]
            refine hal ?_
            have : ¬ r.Verified < n := by have := of_decide_eq_true h2; omega
            simp [this]
          | false =>
            rw [cond_false]
            cases h3 : r.Dirty with
            | true =>
              rw [cond_true]
              exact hal (by simp [h3])
            | false => rw [cond_false, j3]
      · unfold law29_GroupAlone_l4
        rw [dlt_end]; rfl
    rw [key, Option.bind_some]
    simp only [Fl.el]
    unfold law29_GroupAlone_j2 law29_GroupAlone_j1
    rw [show (1 : Int) = ((1 : Nat) : Int) from rfl, ref23_cell (by omega), Option.bind_some]
    -- the ring that reads itself alone
    have hx : (KeyD.mk 32 (ByteArray.mk #[57])) = ringK 57 := rfl
    rw [hx]
    generalize hr : RecordD.mk (ringK 57) (ByteArray.mk #[]) [ringK 57, cellK 1] 0 0 3 false = x
    have hrx : x.Reads = [ringK 57, cellK 1] := by subst hr; rfl
    rw [refput_is hsm.asc hsm.rm.1 (by unfold Rm; rw [hrx]; simp), Option.bind_some]
    have hsp : SmL (putL u.1 x) := ⟨putL_asc hsm.asc x, by have := putL_len u.1 x; omega, fun r hr => by
      rcases putL_mem hr with h | rfl
      · exact hsm.rds r h
      · rw [hrx]; simp⟩
    have hkx : x.Key = ringK 57 := by subst hr; rfl
    have hfx : findL (putL u.1 x) (ringK 57) = (x, true) := by rw [← hkx]; exact find_asc hsp.asc (putL_self _ _)
    have hop : opK (putL u.1 x) 3 (ringK 57) = true := by
      unfold opK
      rw [hfx, openB_is]
      subst hr; rfl
    have hrd : rdK (putL u.1 x) (ringK 57) = [ringK 57, cellK 1] := by unfold rdK; rw [hfx]; exact hrx
    have hcell : ∀ rv, opK (putL u.1 x) rv (cellK 1) = false := fun rv => by
      cases hf : (findL (putL u.1 x) (cellK 1)).2 with
      | false => unfold opK; rw [hf]; rfl
      | true =>
        unfold opK
        rw [openB_is, (find_some hf).2, hf]
        rfl
    obtain ⟨m, hm⟩ := go_is hsp 3 (ringK 57)
    have hmx : m = [ringK 57] := by
      rcases hm.how with ⟨h, _⟩ | ⟨_, h⟩
      · rw [hop] at h; cases h
      · refine kasc_ext h.1 (List.pairwise_singleton _ _) fun y => (h.2 y).trans ⟨?_, ?_⟩
        · rintro ⟨h1, h9⟩
          rw [List.mem_singleton]
          clear h9
          induction h1 with
          | refl => rfl
          | snoc _ e ih =>
            subst ih
            obtain ⟨_, h3, h4⟩ := e
            rw [hrd] at h3
            simp only [List.mem_cons, List.not_mem_nil, or_false] at h3
            rcases h3 with rfl | rfl
            · rfl
            · rw [hcell] at h4; cases h4
        · intro hy
          rw [List.mem_singleton] at hy
          subst hy; exact ⟨.refl, .refl⟩
    subst hmx
    have hne : keqB (cellK 1) (ringK 57) = false := keqB_ne fun h => by
      have : (30 : Int) = 32 := congrArg KeyD.Kind h
      omega
    have hck : checksL (putL u.1 x) [ringK 57] [ringK 57] = [CheckD.mk (ringK 57) (cellK 1)] := by
      unfold checksL chk1
      simp only [List.flatMap_cons, List.flatMap_nil, hrd, List.filter_cons, List.filter_nil, List.any_cons, List.any_nil, keqB_refl, hne, Bool.or_false, Bool.not_true, Bool.not_false, Bool.false_eq_true, if_false, if_true, List.map_nil, List.map_cons, List.append_nil]
    rw [hm.eq, Option.bind_some, samelist_is (by simp), decide_eq_true rfl, Option.bind_some, cond_true, checks_both hsp.rm (by unfold Rm; simp), checks_is hsp (by simp), Option.bind_some, hck]
    have hnone : (findL u.1 (KeyD.mk 32 (ByteArray.mk #[56, 56]))).2 = false := by
      cases hf : (findL u.1 (KeyD.mk 32 (ByteArray.mk #[56, 56]))).2 with
      | false => rfl
      | true =>
        obtain ⟨h1, h2⟩ := find_some hf
        have h3 := (hg.good _ h1).text
        rw [h2] at h3
        simp only [words5, List.mem_cons, List.not_mem_nil, or_false] at h3
        rcases h3 with h | h | h | h | h <;> exact absurd h (by decide)
    obtain ⟨m2, hm2⟩ := go_is hsm n (KeyD.mk 32 (ByteArray.mk #[56, 56]))
    have hm2x := hm2.alone (by unfold opK; rw [hnone]; rfl)
    subst hm2x
    have hrn : rdK u.1 (KeyD.mk 32 (ByteArray.mk #[56, 56])) = [] := by unfold rdK; rw [(find_no hnone).1]; rfl
    have hck2 : checksL u.1 [KeyD.mk 32 (ByteArray.mk #[56, 56])] [KeyD.mk 32 (ByteArray.mk #[56, 56])] = [] := by
      unfold checksL chk1
      simp only [List.flatMap_cons, List.flatMap_nil, hrn, List.filter_nil, List.map_nil, List.append_nil]
    rw [show (((([CheckD.mk (ringK 57) (cellK 1)] : List CheckD).length : Int) : Int) == ((1 : Nat) : Int)) = true from rfl, cond_true, hm2.eq, Option.bind_some, samelist_is (by simp), decide_eq_true rfl, Option.bind_some, cond_true, checks_both hsm.rm (by unfold Rm; simp), checks_is hsm (by simp), Option.bind_some, hck2,
      show (((([] : List CheckD).length : Int) : Int) == 0) = true from rfl, cond_true, awake_is, Option.bind_some]
  · rw [decide_eq_false ht, Bool.not_false, cond_true, awake_is]; rfl
end Go.Proofs.YtdappapdddnciaaDoor
