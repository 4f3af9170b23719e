/- LowerLong: trees; the code of a chain of signs. -/
import Derived.Test.YtpbbnkpplcnaoaaGreatDoorO4
set_option linter.unusedVariables false
set_option linter.unusedSimpArgs false
namespace Go.Proofs.YtpbbnkpplcnaoaaGreatDoor
open Go.RowKit

/-- the value of a tree -/
abbrev trV (k : Int) (s : ByteArray) (A : Option Addr) (n c : Nat) : Value := .agg #[.int .i64 k, .string s, .int .i64 0, .slice A n c]
abbrev trC (k : Int) (s : ByteArray) (A : Option Addr) (n c : Nat) : Array Value := #[.int .i64 k, .string s, .int .i64 0, .slice A n c]
/-- cells of a tree in a row -/
def TrAt (w : World) (b o : Nat) (k : Int) (s : ByteArray) (A : Option Addr) (n c : Nat) : Prop :=
  w.cell? ⟨b, o, none⟩ = some (.int .i64 k) ∧ w.cell? ⟨b, o + 1, none⟩ = some (.string s) ∧ w.cell? ⟨b, o + 2, none⟩ = some (.int .i64 0) ∧ w.cell? ⟨b, o + 3, none⟩ = some (.slice A n c)
theorem TrAt.keep {w w' : World} {b o : Nat} {k : Int} {s : ByteArray} {A : Option Addr} {n c : Nat} (h : TrAt w b o k s A n c) (hk : ∀ q : Addr, q.block = b → w'.cell? q = w.cell? q) : TrAt w' b o k s A n c :=
  ⟨(hk _ rfl).trans h.1, (hk _ rfl).trans h.2.1, (hk _ rfl).trans h.2.2.1, (hk _ rfl).trans h.2.2.2⟩
def kd : Nat → Int
  | 0 => 20
  | _ + 1 => 27
def tx : Nat → ByteArray
  | 0 => ⟨#[49]⟩
  | _ + 1 => ⟨#[45]⟩
/-- the kids of a chain of n signs before a 1 -/
def Ch (w : World) (B : Nat) : Nat → Option Addr → Nat → Nat → Prop
  | 0, A, m, d => A = none ∧ m = 0 ∧ d = 0
  | n + 1, A, m, d => ∃ b A' m' d', A = some ⟨b, 0, none⟩ ∧ m = 1 ∧ d = 1 ∧ b < B ∧ b < w.heap.size ∧ TrAt w b 0 (kd n) (tx n) A' m' d' ∧ Ch w B n A' m' d'
theorem Ch.keep {w w' : World} {B : Nat} (hs : w.heap.size ≤ w'.heap.size) (hk : ∀ q : Addr, q.block < B → q.block < w.heap.size → w'.cell? q = w.cell? q) : ∀ {n : Nat} {A : Option Addr} {m d : Nat}, Ch w B n A m d → Ch w' B n A m d
  | 0, _, _, _, h => h
  | n + 1, _, _, _, ⟨b, A', m', d', h1, h2, h3, h4, h5, h6, h7⟩ => ⟨b, A', m', d', h1, h2, h3, h4, Nat.lt_of_lt_of_le h5 hs, h6.keep (fun q hq => hk q (by omega) (by omega)), h7.keep hs hk⟩
theorem Ch.no {w w' : World} {B n : Nat} {A : Option Addr} {m d : Nat} (h : Ch w B n A m d) (k : Kt No w w') : Ch w' B n A m d :=
  h.keep k.size fun q _ hl => k.cell hl (fun h => h)
theorem Ch.fr {w w' : World} {B n p : Nat} {A : Option Addr} {m d : Nat} {v v' : Value} (h : Ch w B n A m d) (hp : B ≤ p) (hv : ∀ k, v.ownBlock = some k → B ≤ k) (k : Fr p v w v' w') : Ch w' B n A m d :=
  h.keep k.size fun q hq hl => k.cell hp hv hq hl
theorem Ch.more {w : World} {B B' : Nat} (hB : B ≤ B') : ∀ {n : Nat} {A : Option Addr} {m d : Nat}, Ch w B n A m d → Ch w B' n A m d
  | 0, _, _, _, h => h
  | n + 1, _, _, _, ⟨b, A', m', d', h1, h2, h3, h4, h5, h6, h7⟩ => ⟨b, A', m', d', h1, h2, h3, by omega, h5, h6, h7.more hB⟩

set_option maxHeartbeats 2000000 in
theorem kid_at (w : World) (k : Int) (s : ByteArray) (b n c : Nat) (i : Nat) (k2 : Int) (s2 : ByteArray) (A : Option Addr) (m d : Nat) (hi : i < n) (hn : n ≤ 100) (h : TrAt w b (i * 4) k2 s2 A m d) (hb : b < w.heap.size) :
    Calls Tryz.prog 32 #[trV k s (some ⟨b, 0, none⟩) n c, .int .i64 (i : Int)] w (fun e w' => e = .returned (trV k2 s2 A m d) ∧ Kt No w w') := by
  obtain ⟨h1, h2, h3, h4⟩ := h
  have g : decide ((i : Int) < (n : Int)) = true := by simp; omega
  go_enter Tryz.func32, Tryz.ntmps32
  go_wp2
  go_returns
  exact ⟨rfl, (Kt.alloc _ _).trans (Kt.alloc _ _)⟩
set_option maxHeartbeats 2000000 in
theorem kidS_at (w : World) (k : Int) (s : ByteArray) (b n c : Nat) (i : Nat) (k2 : Int) (s2 : ByteArray) (A : Option Addr) (m d : Nat) (hi : i < n) (hn : n ≤ 100) (h : TrAt w b (i * 4) k2 s2 A m d) (hb : b < w.heap.size) :
    Calls Tryz.prog 53 #[trV k s (some ⟨b, 0, none⟩) n c, .int .i64 (i : Int)] w (fun e w' => e = .returned (trV k2 s2 A m d) ∧ Kt No w w') := by
  obtain ⟨h1, h2, h3, h4⟩ := h
  have g : decide ((i : Int) < (n : Int)) = true := by simp; omega
  go_enter Tryz.func53, Tryz.ntmps53
  go_wp2
  go_returns
  exact ⟨rfl, (Kt.alloc _ _).trans (Kt.alloc _ _)⟩
/-- a box of the call's own -/
theorem trBox {w w' : World} {N : Nat} {k : Int} {s : ByteArray} {A : Option Addr} {n c : Nat} {t : TypeId} {fz : Nat × Nat} (h : w.heap[N]? = some (.cells (trC k s A n c) t fz)) (hk : w'.heap[N]? = w.heap[N]?) : TrAt w' N 0 k s A n c := by
  have h := hk.trans h
  refine ⟨?_, ?_, ?_, ?_⟩ <;> rw [cell_of_row _ _ _ _ _ _ h] <;> rfl

set_option maxHeartbeats 2000000 in
theorem value_int (w : World) (B p : Nat) (lo tg v : Value) (L : List Op4) (nx : Int) (b : UInt8) (hb : b = 49 ∨ b = 50 ∨ b = 55) (h : Wr w B p lo tg v L nx) (h0 : 0 ≤ nx) (h1 : nx ≤ 100000) (hl : L.length < 4000) :
    Calls Tryz.prog 40 #[.pointer (some ⟨p, 0, none⟩), trV 20 ⟨#[b]⟩ none 0 0] w (fun e w' => e = .returned (.int .i64 nx) ∧ ∃ v', Wr w' B p lo tg v' (L ++ [⟨1, nx, 0, (b.toNat : Int) - 48⟩]) (nx + 1) ∧ Fr p v w v' w') := by
  have hz := h.keep (Kt.alloc w (.cells (trC 20 ⟨#[b]⟩ none 0 0) 25))
  have hb0 := heap_alloc_new w (.cells (trC 20 ⟨#[b]⟩ none 0 0) 25)
  have hF0 : Fr p v w v (w.alloc (.cells (trC 20 ⟨#[b]⟩ none 0 0) 25)) := Fr.of (Kt.alloc _ _)
  have hs0 : (w.alloc (.cells (trC 20 ⟨#[b]⟩ none 0 0) 25)).heap.size = w.heap.size + 1 := by simp
  clear h
  go_enter Tryz.func40, Tryz.ntmps40
  go_wp2_with fail
  refine (dig_fr b _ hb).mono ?_
  rintro e w1 ⟨rfl, hK1⟩
  obtain ⟨c0, c1, c2, c3⟩ := trBox hb0 (hK1.block w.heap.size (by rw [hs0]; omega) (fun h => h))
  have hz1 := hid (hz.keep hK1)
  have hF1 := hid (hF0.no hK1)
  clear hz hb0 hF0 hs0
  go_wp2_with fail
  refine (result_fr _ B p lo tg v L nx _ _ _ _ hz1.out h0 h1 hl).mono ?_
  rintro e w2 ⟨rfl, v', hW2, hF2⟩
  have hF := hF1.out.trans hF2
  clear c0 c1 c2 c3 hF2 hz1 hF1
  go_wp2
  go_returns
  exact ⟨rfl, v', hW2, hF⟩
end Go.Proofs.YtpbbnkpplcnaoaaGreatDoor
