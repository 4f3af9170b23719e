/- GroupDivides, plain. -/
import Derived.Test.YtdappapdddnciaaDoorX5
set_option linter.unusedVariables false
set_option linter.unusedSimpArgs false
namespace Go.Proofs.YtdappapdddnciaaDoor
open Go.RowKit
open Go.Lib hiding intOf

theorem refhas_dec {l : List KeyD} (hl : l.length ≤ 100000000) (k : KeyD) : ref23_Has l k = some (decide (k ∈ l)) := by
  rw [refhas_is (by unfold Rm; omega)]
  congr 1
  rw [Bool.eq_iff_iff, List.any_eq_true, decide_eq_true_iff]
  exact ⟨fun ⟨x, hx, h⟩ => keqB_iff.1 h ▸ hx, fun h => ⟨k, h, keqB_refl k⟩⟩
/-- an open key of the law's records is a ring -/
theorem op_ring {l : List RecordD} {n : Nat} (hg : G29 l n) {rev : Int} {k : KeyD} (h : opK l rev k = true) : k.Kind = 32 := by
  unfold opK at h
  simp only [Bool.and_eq_true] at h
  obtain ⟨h1, h2⟩ := h
  obtain ⟨h3, h4⟩ := find_some h1
  have hk := (hg.good _ h3).kind
  rw [h4] at hk
  rw [openB_is, h4] at h2
  simp only [Bool.and_eq_true] at h2
  rcases hk with hk | hk
  · have := h2.1.1
    unfold cycB at this
    simp [hk] at this
  · exact hk
/-- the group of a key: what law 29 asks of it -/
structure GO (l : List RecordD) (rev : Int) (k : KeyD) (m : List KeyD) : Prop where
  eq : group_Of l rev k = some m
  len : m.length ≤ 1000
  self : k ∈ m
  how : (opK l rev k = false ∧ m = [k]) ∨ (opK l rev k = true ∧ Grp l rev k m)
theorem go_is {l : List RecordD} (hl : SmL l) (rev : Int) (k : KeyD) : ∃ m, GO l rev k m := by
  obtain ⟨m, h1, _, h3, h4⟩ := of_both hl rev k
  refine ⟨m, h1, h3, ?_, h4⟩
  rcases h4 with ⟨_, rfl⟩ | ⟨_, h⟩
  · simp
  · exact (h.2 k).2 ⟨.refl, .refl⟩
/-- keys of a group have the same one -/
theorem GO.same {l : List RecordD} {rev : Int} {k x : KeyD} {m g : List KeyD} (h : GO l rev k m) (h' : GO l rev x g) : x ∈ m ↔ m = g := by
  constructor
  · intro hx
    rcases h.how with ⟨h1, rfl⟩ | ⟨h1, h2⟩
    · rw [List.mem_singleton] at hx
      subst hx
      have := h.eq.symm.trans h'.eq
      exact Option.some.inj this
    · have hs := (h2.2 x).1 hx
      have hxo := star_opK h1 hs.1
      rcases h'.how with ⟨h3, _⟩ | ⟨_, h4⟩
      · rw [hxo] at h3; cases h3
      · refine kasc_ext h2.1 h4.1 fun z => (h2.2 z).trans (Iff.trans ?_ (h4.2 z).symm)
        exact ⟨fun hz => ⟨hs.2.trans hz.1, hz.2.trans hs.1⟩, fun hz => ⟨hs.1.trans hz.1, hz.2.trans hs.2⟩⟩
  · intro e
    rw [e]; exact h'.self
theorem checks_mem {l : List RecordD} {g : List KeyD} {c : CheckD} (h : c ∈ checksL l g g) : c.Member ∈ g ∧ c.Read ∈ rdK l c.Member ∧ c.Read ∉ g := by
  unfold checksL chk1 at h
  obtain ⟨m, hm, h⟩ := List.mem_flatMap.1 h
  obtain ⟨x, hx, rfl⟩ := List.mem_map.1 h
  obtain ⟨h1, h2⟩ := List.mem_filter.1 hx
  refine ⟨hm, h1, fun h3 => ?_⟩
  rw [List.any_eq_true.2 ⟨x, h3, keqB_refl x⟩] at h2
  cases h2
theorem groupDivides_is (t : List Int) : law29_GroupDivides t = some true := by
  unfold law29_GroupDivides
  rw [light_is, Option.bind_some]
  by_cases ht : t.length ≤ 400
  · rw [decide_eq_true ht, Bool.not_true, cond_false, roll_is, Option.bind_some]
    obtain ⟨u, hu, hg, hpos⟩ := records_ok (l := t) (i := 0) ⟨Int.le_refl _, by omega, ht⟩
    rw [hu, Option.bind_some]
    have hsm := hg.sm (by omega)
    have hlen := hg.len
    have key : loop (fun s : Int => law29_GroupDivides_l7 u s) 0 = some (Fl.go ()) := by
      refine loop_gather (xs := u.1) (fun k => (k : Int)) rfl (r := Fl.go ()) (fun k r hr => ?_) ?_
      · have hk := lt_of_get hr
        obtain ⟨m, hm⟩ := go_is hsm 2 r.Key
        have hml := hm.len
        unfold law29_GroupDivides_l7
        rw [dlt_of hr, cond_true, getI_nat, hr, Option.bind_some, hm.eq, Option.bind_some, refhas_dec (by omega), decide_eq_true hm.self, Option.bind_some, Bool.not_true, cond_false]
        have j6 : law29_GroupDivides_j6 u (k : Int) m false = some (.go ((k + 1 : Nat) : Int)) := by
          unfold law29_GroupDivides_j6
          have hin : loop (fun s : Int => law29_GroupDivides_l5 u m s) 0 = some (Fl.go ()) := by
            refine loop_gather (xs := u.1) (fun k => (k : Int)) rfl (r := Fl.go ()) (fun i q hq => ?_) ?_
            · have hi := lt_of_get hq
              obtain ⟨g, hgq⟩ := go_is hsm 2 q.Key
              unfold law29_GroupDivides_l5
              rw [dlt_of hq, cond_true, getI_nat, hq, Option.bind_some, hgq.eq, Option.bind_some, refhas_dec (by omega), Option.bind_some, samelist_is (by omega), Option.bind_some,
                show decide (q.Key ∈ m) = decide (m = g) from by rw [Bool.eq_iff_iff, decide_eq_true_iff, decide_eq_true_iff]; exact hm.same hgq, bne_self_eq_false, cond_false, winc (by omega)]
            · unfold law29_GroupDivides_l5
              rw [dlt_end]; rfl
          rw [cond_false, hin, Option.bind_some]
          simp only [Fl.el]
          unfold law29_GroupDivides_j4 law29_GroupDivides_j2
          rw [checks_both hsm.rm (by unfold Rm; omega), checks_is hsm (by omega), Option.bind_some]
          have hcl := checksL_len hsm m m
          have hck : loop (fun s : Int => law29_GroupDivides_l3 u m (checksL u.1 m m) s) 0 = some (Fl.go ()) := by
            refine loop_gather (xs := checksL u.1 m m) (fun k => (k : Int)) rfl (r := Fl.go ()) (fun i c hc => ?_) ?_
            · have hi := lt_of_get hc
              obtain ⟨c1, c2, c3⟩ := checks_mem (List.mem_of_getElem? hc)
              have hfd : (findL u.1 c.Member).2 = true := by
                cases hf : (findL u.1 c.Member).2 with
                | true => rfl
                | false =>
                  unfold rdK at c2
                  rw [(find_no hf).1] at c2
                  cases c2
              have hrl := hsm.rd c.Member
              unfold law29_GroupDivides_l3
              rw [dlt_of hc, cond_true, getI_nat, hc, Option.bind_some, reffind_is hsm.rm, Option.bind_some, hfd, Bool.not_true, cond_false, refhas_dec (by omega), decide_eq_true c1, Option.bind_some, Bool.not_true, cond_false, refhas_dec (by omega), decide_eq_false c3, Option.bind_some, cond_false,
                show (findL u.1 c.Member).1.Reads = rdK u.1 c.Member from rfl, refhas_dec (by omega), decide_eq_true c2, Option.bind_some, Bool.not_true, cond_false, winc (by omega)]
            · unfold law29_GroupDivides_l3
              rw [dlt_end]; rfl
          rw [hck, Option.bind_some]
          simp only [Fl.el]
          rw [winc (by omega)]
        by_cases h1 : 1 < m.length
        · have hk32 : ((r.Key.Kind : Int) != 32) = false := by
            rcases hm.how with ⟨_, rfl⟩ | ⟨h2, _⟩
            · simp at h1
            · rw [op_ring hg h2]; rfl
          rw [decide_eq_true (by omega), cond_true, hk32, j6]
        · rw [decide_eq_false (by omega), cond_false, j6]
      · unfold law29_GroupDivides_l7
        rw [dlt_end]; rfl
    rw [key, Option.bind_some]
    simp only [Fl.el]
    unfold law29_GroupDivides_j1
    rw [awake_is]; rfl
  · rw [decide_eq_false ht, Bool.not_false, cond_true, awake_is]; rfl
end Go.Proofs.YtdappapdddnciaaDoor
