/- LowerLong: bodies and calls of the long function, in any world behind. -/
import Derived.Test.YtpbbnkpplcnaoaaGreatDoorON
set_option linter.unusedVariables false
set_option linter.unusedSimpArgs false
namespace Go.Proofs.YtpbbnkpplcnaoaaGreatDoor
open Go.RowKit

theorem Blk.up {w : World} {B B' n bk bd : Nat} {A : Option Addr} {m d : Nat} (h : Blk w B n bk bd A m d) (hB : B ≤ B') : Blk w B' n bk bd A m d :=
  ⟨Nat.lt_of_lt_of_le h.kB hB, h.kl, Nat.lt_of_lt_of_le h.dB hB, h.dl, h.t1, h.t2, h.t3, h.td, h.ch.more hB⟩
/-- what the long function is made of -/
structure Fun (w : World) (bt ba bk bd n : Nat) (A : Option Addr) (m d : Nat) : Prop where
  tl : bt < w.heap.size
  al : ba < w.heap.size
  t1 : TrAt w bt 4 12 ⟨#[]⟩ (some ⟨ba, 0, none⟩) 2 2
  t3 : TrAt w bt 12 30 ⟨#[]⟩ (some ⟨bk, 0, none⟩) 3 3
  a0 : TrAt w ba 0 13 sx none 0 0
  a1 : TrAt w ba 4 13 sy none 0 0
  b : Blk w w.heap.size n bk bd A m d
theorem Fun.no {w w' : World} {bt ba bk bd n : Nat} {A : Option Addr} {m d : Nat} (h : Fun w bt ba bk bd n A m d) (k : Kt No w w') : Fun w' bt ba bk bd n A m d :=
  ⟨Nat.lt_of_lt_of_le h.tl k.size, Nat.lt_of_lt_of_le h.al k.size, h.t1.keep fun q hq => k.cell (by have := h.tl; omega) (fun h => h), h.t3.keep fun q hq => k.cell (by have := h.tl; omega) (fun h => h),
    h.a0.keep fun q hq => k.cell (by have := h.al; omega) (fun h => h), h.a1.keep fun q hq => k.cell (by have := h.al; omega) (fun h => h), (h.b.no k).up k.size⟩
def MM (n : Nat) : List Op4 := [] ++ chain 2 n ++ chain (2 + n + 1) n ++ [⟨1, 2 + 2 * n + 2, 0, 7⟩]
theorem MM_len (n : Nat) : (MM n).length = 2 * n + 3 := by
  unfold MM
  simp only [List.length_append, chain_len, List.length_singleton, List.length_nil]
  omega
theorem body_P (w : World) (bt ba bk bd n : Nat) (A : Option Addr) (m d : Nat) (hn : n ≤ 2100) (h : Fun w bt ba bk bd n A m d) :
    BodyC w 7 bt (Rf (MM n) (2 + 2 * n + 3)) (Lf (MM n) (2 + 2 * n + 2)) := by
  intro W hk
  have g := h.no hk
  refine (body_two W bt ba g.tl g.al g.t1 g.a0 g.a1 30 ⟨#[]⟩ (some ⟨bk, 0, none⟩) 3 3 g.t3 (MM n) (2 + 2 * n + 2) (2 + 2 * n + 3) ?_).mono ?_
  · intro w1 p lo tg v hk1 hp hW
    refine (block_any n w1 W.heap.size p lo tg v [] 2 bk bd A m d hW (by omega) (by omega) (g.b.no hk1) (by decide)).mono ?_
    rintro e w' (⟨h1, h2, v', h3, h4⟩ | ⟨h1, h2, h3⟩)
    · exact .inl ⟨by rw [MM_len]; simpa using h1, h2, v', h3, h4⟩
    · exact .inr ⟨by rw [MM_len]; simpa using h1, h2, h3⟩
  · rintro e w' ⟨v', hk', ⟨h1, rfl, ho⟩ | ⟨h1, rfl, ho⟩⟩
    · exact ⟨v', by rw [Rf, if_pos h1], hk', by rw [Lf, if_pos h1]; exact ho⟩
    · exact ⟨v', by rw [Rf, if_neg (by omega)]; rfl, hk', by rw [Lf, if_neg (by omega)]; exact ho⟩
theorem body_S (w : World) (bt ba bk bd n : Nat) (A : Option Addr) (m d : Nat) (hn : n ≤ 2100) (h : Fun w bt ba bk bd n A m d) :
    BodyC w 12 bt (Rf (MM n) (2 + 2 * n + 3)) (Lf (MM n) (2 + 2 * n + 2)) := by
  intro W hk
  have g := h.no hk
  refine (bodyS_two W bt ba g.tl g.al g.t1 g.a0 g.a1 30 ⟨#[]⟩ (some ⟨bk, 0, none⟩) 3 3 g.t3 (MM n) (2 + 2 * n + 2) (2 + 2 * n + 3) (by rw [MM_len]; omega) ?_).mono ?_
  · intro w1 p vs rs ns gs ts v hk1 hp hW
    exact blockS_ok n w1 W.heap.size p vs rs ns gs ts v [] 2 bk bd A m d hW (by omega) (by omega) (g.b.no hk1) (by simp; omega)
  · rintro e w' ⟨v', hk', ⟨h1, rfl, ho⟩ | ⟨h1, rfl, ho⟩⟩
    · exact ⟨v', by rw [Rf, if_pos h1], hk', by rw [Lf, if_pos h1]; exact ho⟩
    · exact ⟨v', by rw [Rf, if_neg (by omega)]; rfl, hk', by rw [Lf, if_neg (by omega)]; exact ho⟩
theorem calls_P (w : World) (bt ba bk bd n : Nat) (A : Option Addr) (m d : Nat) (h : Fun w bt ba bk bd n A m d) : CallC w 9 bt := by
  intro W hk
  have g := h.no hk
  exact calls_t W bt g.tl bk bd n A m d g.t3 g.b
theorem calls_S (w : World) (bt ba bk bd n : Nat) (A : Option Addr) (m d : Nat) (h : Fun w bt ba bk bd n A m d) : CallC w 10 bt := by
  intro W hk
  have g := h.no hk
  exact callsS_t W bt g.tl bk bd n A m d g.t3 g.b
theorem Lf_len (n : Nat) (r : Int) (hn : n ≤ 2100) : (Lf (MM n) r).length ≤ 100000 := by
  unfold Lf
  split
  · rw [List.length_append, MM_len, List.length_singleton]; omega
  · decide
theorem agree_long (w : World) (bt ba bk bd n : Nat) (A : Option Addr) (m d : Nat) (hn : n ≤ 2100) (h : Fun w bt ba bk bd n A m d) :
    Calls Tryz.prog 6 #[trV 4 ⟨#[]⟩ (some ⟨bt, 0, none⟩) 4 4, .slice none 0 0, .slice none 0 0, .slice none 0 0] w (fun e w' => e = .returned (.bool true) ∧ Kt No w w') :=
  agree_t w bt _ _ (Lf_len n _ hn) (calls_P w bt ba bk bd n A m d h) (calls_S w bt ba bk bd n A m d h) (body_P w bt ba bk bd n A m d hn h) (body_S w bt ba bk bd n A m d hn h)
end Go.Proofs.YtpbbnkpplcnaoaaGreatDoor
