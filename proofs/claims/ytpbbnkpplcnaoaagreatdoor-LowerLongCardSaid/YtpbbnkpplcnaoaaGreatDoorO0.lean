/- LowerLong: facts of the types; operations; the states of both writers. -/
import Derived.Test.YtpbbnkpplcnaoaaGreatDoorMB
import Derived.Test.YtpbbnkpplcnaoaaGreatDoorProg
import Derived.Handy
set_option linter.unusedVariables false
set_option linter.unusedSimpArgs false
namespace Go.Proofs.YtpbbnkpplcnaoaaGreatDoor
open Go.RowKit

theorem mixed : Tryz.prog.follows .mixedOrders = true := by kernel_rfl
theorem el29 : elI Tryz.prog 29 = some (35, 6, 72) := by kernel_rfl
theorem sl29 : isSl Tryz.prog 29 = some 35 := by kernel_rfl
theorem ze35 : zeroI Tryz.prog 35 = some [.int .i64 0, .int .i64 0, .int .i64 0, .int .i64 0, .slice none 0 0, .string (ByteArray.mk #[])] := by kernel_rfl
theorem ty35 : tyI Tryz.prog 35 = some (true, 6) := by kernel_rfl
theorem ty29 : tyI Tryz.prog 29 = some (false, 1) := by kernel_rfl
theorem ty3 : tyI Tryz.prog 3 = some (false, 1) := by kernel_rfl
theorem flW0 : fldI Tryz.prog 47 0 = some 0 := by kernel_rfl
theorem flW1 : fldI Tryz.prog 47 1 = some 1 := by kernel_rfl
theorem flS0 : fldI Tryz.prog 70 0 = some 0 := by kernel_rfl
theorem flS1 : fldI Tryz.prog 70 1 = some 1 := by kernel_rfl

/-- an operation without a list and a symbol -/
structure Op4 where
  k : Int
  a : Int
  b : Int
  c : Int
def opE (x : Op4) : List Value := [.int .i64 x.k, .int .i64 x.a, .int .i64 x.b, .int .i64 x.c, .slice none 0 0, .string (ByteArray.mk #[])]
abbrev opV (k a b c : Int) : Value := .agg #[.int .i64 k, .int .i64 a, .int .i64 b, .int .i64 c, .slice none 0 0, .string (ByteArray.mk #[])]
def R_Op4 : Rep Op4 where
  size := 6
  rel := fun _ _ cs x => cs = opE x
  len := by rintro _ _ _ _ rfl; rfl
  one := by rintro _ _ _ _ rfl; exact (oc rfl (oc rfl (oc rfl (oc rfl (oc rfl (oc rfl on))))))
  keep := fun h _ _ => h
theorem opE_len (x : Op4) : (opE x).length = 6 := rfl
theorem rows_flat {T : Nat → Prop} {w : World} : ∀ {cl : List Value} {L : List Op4}, RowsOk R_Op4 T w cl L → cl = L.flatMap opE := by
  intro cl L h
  have hl : (L.flatMap opE).length = L.length * 6 := flat_length opE_len L
  have hc : cl.length = L.length * 6 := h.1
  refine List.ext_getElem? fun i => ?_
  by_cases hi : i < L.length * 6
  · have hk : i / 6 < L.length := by omega
    obtain ⟨cs, h1, h2⟩ := h.2 (i / 6) _ (List.getElem?_eq_getElem hk)
    have h1 : cs = opE L[i / 6] := h1
    subst h1
    have hm : i / 6 * 6 + i % 6 = i := by omega
    have hj : i % 6 < 6 := by omega
    have h3 := h2 (i % 6) _ (List.getElem?_eq_getElem (by rw [opE_len]; exact hj))
    have h4 := flat_get opE_len L (i / 6) (i % 6) _ (List.getElem?_eq_getElem hk) hj
    have h3 : cl[i / 6 * 6 + i % 6]? = _ := h3
    rw [hm] at h3 h4
    rw [h3, h4]
    exact (List.getElem?_eq_getElem _).symm
  · rw [List.getElem?_eq_none (by omega), List.getElem?_eq_none (by omega)]
theorem flat_rows (T : Nat → Prop) (w : World) (L : List Op4) : RowsOk R_Op4 T w (L.flatMap opE) L :=
  ⟨flat_length opE_len L, fun k x hx => ⟨opE x, rfl, fun j u hu => by
    have hj : j < 6 := by have := (List.getElem?_eq_some_iff.1 hu).1; rwa [opE_len] at this
    exact (flat_get opE_len L k j x hx hj).trans hu⟩⟩
theorem own_no {w : World} {B : Nat} {e e' : TypeId} {size : Nat} {v : Value} {xs : List Value} (h : Own w B e size v xs) {b : Nat} {cs : Array Value} {fr : Nat × Nat} (hr : w.heap[b]? = some (.cells cs e' fr)) (hne : e ≠ e') : v.ownBlock ≠ some b := by
  intro hk
  obtain ⟨_, _, cs', fz, h2, _⟩ := h.blk b hk
  rw [hr] at h2
  injection h2 with h2
  injection h2 with _ h3
  exact hne h3.symm
/-- nothing has turned but the writer and its row -/
def Fr (p : Nat) (v : Value) (w : World) (v' : Value) (w' : World) : Prop := Kt (fun k => k = p ∨ v.ownBlock = some k) w w' ∧ ∀ k, v'.ownBlock = some k → v.ownBlock = some k ∨ w.heap.size ≤ k
theorem Fr.trans {p : Nat} {v v1 v2 : Value} {w w1 w2 : World} (h : Fr p v w v1 w1) (k : Fr p v1 w1 v2 w2) : Fr p v w v2 w2 :=
  ⟨h.1.step k.1 (fun j hj => by
    rcases hj with rfl | hj
    · exact .inl (.inl rfl)
    · exact (h.2 j hj).imp .inr id), fun j hj => by
    rcases k.2 j hj with h1 | h1
    · exact h.2 j h1
    · exact .inr (Nat.le_trans h.1.size h1)⟩
theorem Fr.of {p : Nat} {v : Value} {w w' : World} (h : Kt No w w') : Fr p v w v w' := ⟨h.no, fun _ hk => .inl hk⟩
theorem Fr.cell {p B : Nat} {v v' : Value} {w w' : World} (h : Fr p v w v' w') (hp : B ≤ p) (hv : ∀ k, v.ownBlock = some k → B ≤ k) {q : Addr} (hq : q.block < B) (hl : q.block < w.heap.size) : w'.cell? q = w.cell? q :=
  h.1.cell hl fun e => by rcases e with e | e; omega; have := hv _ e; omega

/-- Wr's state: its operations, and the next register -/
def Wr (w : World) (B p : Nat) (lo tg v : Value) (L : List Op4) (nx : Int) : Prop :=
  w.heap[p]? = some (.cells #[v, .int .i64 nx, lo, tg] 47 (0, 0)) ∧ B ≤ p ∧ Own w B 35 6 v (L.flatMap opE)
section
variable {w w' : World} {B p : Nat} {lo tg v v' : Value} {L : List Op4} {nx : Int}
theorem Wr.no (h : Wr w B p lo tg v L nx) : v.ownBlock ≠ some p := own_no h.2.2 h.1 (by decide)
theorem Wr.lt (h : Wr w B p lo tg v L nx) : p < w.heap.size := (Array.getElem?_eq_some_iff.1 h.1).1
theorem Wr.own (h : Wr w B p lo tg v L nx) : ∀ k, v.ownBlock = some k → B ≤ k ∧ k < w.heap.size := fun k hk => ⟨(h.2.2.blk k hk).1, (h.2.2.blk k hk).2.1⟩
theorem Wr.keep (h : Wr w B p lo tg v L nx) (k : Kt No w w') : Wr w' B p lo tg v L nx :=
  ⟨(k.block p h.lt (fun h => h)).trans h.1, h.2.1, h.2.2.later k.below⟩
theorem Wr.dok (h : Wr w B p lo tg v L nx) : DOk (fun k => k < B) w [.box p [v, .int .i64 nx, lo, tg] 47, .own v 35 6 (L.flatMap opE)] := by
  refine ⟨?_, ?_, ?_⟩
  · intro r hr
    rcases List.mem_cons.1 hr with rfl | hr
    · exact h.1
    · rw [List.mem_singleton] at hr; subst hr; exact ⟨h.2.2.less (Nat.zero_le _), by decide⟩
  · intro r hr k hk
    rcases List.mem_cons.1 hr with rfl | hr
    · have hk : k = p := by simpa [Res.dom] using hk.symm
      have := h.2.1; show ¬ k < B; omega
    · rw [List.mem_singleton] at hr; subst hr
      have hk : v.ownBlock = some k := hk
      have := (h.own k hk).1; show ¬ k < B; omega
  · refine List.pairwise_cons.2 ⟨fun s hs k hk hk2 => ?_, List.pairwise_singleton _ _⟩
    rw [List.mem_singleton] at hs; subst hs
    have hk : k = p := by simpa [Res.dom] using hk.symm
    subst hk
    exact h.no hk2
end

/-- St14's state: its operations, and the next register -/
def St14 (w : World) (B p : Nat) (vs rs ns gs ts v : Value) (L : List Op4) (nx : Int) : Prop :=
  w.heap[p]? = some (.cells #[v, .int .i64 nx, vs, rs, ns, gs, ts] 70 (0, 0)) ∧ B ≤ p ∧ Own w B 35 6 v (L.flatMap opE)
section
variable {w w' : World} {B p : Nat} {vs rs ns gs ts v v' : Value} {L : List Op4} {nx : Int}
theorem St14.no (h : St14 w B p vs rs ns gs ts v L nx) : v.ownBlock ≠ some p := own_no h.2.2 h.1 (by decide)
theorem St14.lt (h : St14 w B p vs rs ns gs ts v L nx) : p < w.heap.size := (Array.getElem?_eq_some_iff.1 h.1).1
theorem St14.own (h : St14 w B p vs rs ns gs ts v L nx) : ∀ k, v.ownBlock = some k → B ≤ k ∧ k < w.heap.size := fun k hk => ⟨(h.2.2.blk k hk).1, (h.2.2.blk k hk).2.1⟩
theorem St14.keep (h : St14 w B p vs rs ns gs ts v L nx) (k : Kt No w w') : St14 w' B p vs rs ns gs ts v L nx :=
  ⟨(k.block p h.lt (fun h => h)).trans h.1, h.2.1, h.2.2.later k.below⟩
theorem St14.dok (h : St14 w B p vs rs ns gs ts v L nx) : DOk (fun k => k < B) w [.box p [v, .int .i64 nx, vs, rs, ns, gs, ts] 70, .own v 35 6 (L.flatMap opE)] := by
  refine ⟨?_, ?_, ?_⟩
  · intro r hr
    rcases List.mem_cons.1 hr with rfl | hr
    · exact h.1
    · rw [List.mem_singleton] at hr; subst hr; exact ⟨h.2.2.less (Nat.zero_le _), by decide⟩
  · intro r hr k hk
    rcases List.mem_cons.1 hr with rfl | hr
    · have hk : k = p := by simpa [Res.dom] using hk.symm
      have := h.2.1; show ¬ k < B; omega
    · rw [List.mem_singleton] at hr; subst hr
      have hk : v.ownBlock = some k := hk
      have := (h.own k hk).1; show ¬ k < B; omega
  · refine List.pairwise_cons.2 ⟨fun s hs k hk hk2 => ?_, List.pairwise_singleton _ _⟩
    rw [List.mem_singleton] at hs; subst hs
    have hk : k = p := by simpa [Res.dom] using hk.symm
    subst hk
    exact h.no hk2
end
end Go.Proofs.YtpbbnkpplcnaoaaGreatDoor
