/- Programs that are made: sources, the walk. -/
import Derived.Test.YtpjpndbagkcgcaaM9
import Derived.Test.YtpjpndbagkcgcaaB2
set_option linter.unusedVariables false
set_option linter.unusedSimpArgs false
namespace Go.Proofs.Ytpjpndbagkcgcaa
open Go.RowKit

theorem step_append_Own {P : Program} {ops : Array Oper} {w : World} {o : Oper} {a : Act} {K : Act → World → Prop} {Q : Exit → Act → World → Prop} {E0 : Prop} (hgd : o.guard = none) (s x : Operand) (t : TypeId)
    (ho : o.op = .call { callee := .builtin .append, args := #[s, x], argTypes := #[t, t] })
    (e : TypeId) (size bytes : Nat) (E : Elem P t e size bytes) (B : Nat) (v : Value) (xs : List Value) (hs : a.eval s = v) (hown : Own w B e size v xs)
    (A : Option Addr) (m c : Nat) (news : List Value) (hx : a.eval x = .slice A m c) (hl : news.length = m * size) (hat : At w A news) (h1 : ∀ u ∈ news, u.oneCell' = true)
    (h63 : xs.length + news.length ≤ maxLen) (hbytes : (xs.length + news.length) * bytes ≤ 140737488355328) (hbase : B ≤ w.heap.size)
    (h : ∀ v' w', Own w' B e size v' (xs ++ news) → w.grownBy w' v.ownBlock → (v'.ownBlock = v.ownBlock ∨ v'.ownBlock = some w.heap.size) → K (a.put o.dst v') w') :
    if Region.wanted o (yielded ops a.tmps) = true then Oper.wp P o a w K Q else E0 := by
  rw [if_pos (by simp [Region.wanted, hgd])]
  exact wp_append_Own w s x t ho e size bytes E B v xs hs hown A m c news hx hl hat h1 h63 hbytes hbase h
theorem SrcL.snoc {ys : List Src} {i : Nat} {s : ByteArray} (hl : ys.length = i) (h : ∀ k x, ys[k]? = some x → x.1 = letterS k ∧ x.2.size ≤ 12000) (hs : s.size ≤ 12000) :
    ∀ k x, (ys ++ [(letterS i, s)])[k]? = some x → x.1 = letterS k ∧ x.2.size ≤ 12000 := by
  intro k x hx
  rw [List.getElem?_append] at hx
  split at hx
  · exact h k x hx
  · rename_i hk
    have hk0 : k - ys.length = 0 := by
      have := (List.getElem?_eq_some_iff.1 hx).1
      simp at this; omega
    rw [hk0] at hx
    simp at hx
    subst hx
    have : k = i := by omega
    subst this
    exact ⟨rfl, hs⟩
theorem below_d {w w' : World} (h : Below w.drew.heap.size w.drew w') : Below w.heap.size w w' := ⟨h.os, h.tape, h.output, h.size, h.block⟩
theorem below_ald {w w' : World} {o : Obj} (h : Below (w.alloc o).drew.heap.size (w.alloc o).drew w') : Below w.heap.size w w' := below_step ((Below.refl _ _).alloc (Nat.le_refl _) o) (below_d h)
theorem of_litd (m : Nat) (w : World) (d : Nat) (h : DiceOk w d) (cs : Array Value) (t : TypeId) (n : Nat) (hcs : strsB m cs = true) (hn : n = cs.size) (h0 : 0 < n) (hb : n ≤ 1000) :
    Calls Try.prog 25 #[.pointer (some ⟨d, 0, none⟩), .slice (some ⟨w.heap.size, 0, none⟩) n n] (w.alloc (.cells cs t)).drew (PostL1 m w d) :=
  of_lit m w.drew d h cs t n hcs hn h0 hb
theorem of_laterd (m : Nat) (w w' : World) (d : Nat) (h : DiceOk w' d) (cs : Array Value) (t : TypeId) (n : Nat) (hd : d < w.heap.size) (hb : Below (w.alloc (.cells cs t)).drew.heap.size (w.alloc (.cells cs t)).drew w') (hcs : strsB m cs = true) (hn : n = cs.size) (h0 : 0 < n) (hb2 : n ≤ 1000) :
    Calls Try.prog 25 #[.pointer (some ⟨d, 0, none⟩), .slice (some ⟨w.heap.size, 0, none⟩) n n] w' (PostL1 m w' d) := of_later m w w' d h cs t n hd (below_d hb) hcs hn h0 hb2
theorem letterS_size (i : Nat) : (letterS i).size = 1 := rfl
theorem letter_sz (i : Nat) (w : World) (hi : i < 26) :
    Calls Try.prog 29 #[.int .i64 i] w fun e w' => ∃ s : ByteArray, s.size ≤ 1 ∧ e = .returned (.string s) ∧ Below w.heap.size w w' :=
  (letter_any i w hi).mono fun e w' ⟨a, b⟩ => ⟨_, by rw [letterS_size]; omega, a, b⟩
theorem below_al {w w' : World} {o : Obj} (h : Below (w.alloc o).heap.size (w.alloc o) w') : Below w.heap.size w w' := below_step ((Below.refl _ _).alloc (Nat.le_refl _) o) h

set_option maxHeartbeats 8000000 in
set_option maxRecDepth 100000 in
theorem sources_any (w0 : World) (d : Nat) (hD0 : DiceOk w0 d) : Calls Try.prog 15 #[.pointer (some ⟨d, 0, none⟩)] w0 (PostSrc w0 d) := by
  have hal0 : Below w0.heap.size w0 (w0.alloc (.cells #[.pointer (some ⟨d, 0, none⟩), .slice none 0 0, .slice none 0 0, .slice none 0 0, .bool false, .bool false, .int .i64 0, .bool false] 65)) := (Below.refl _ _).alloc (Nat.le_refl _) _
  have hD1 := hD0.of hal0
  go_enter Try.func15, Try.ntmps15
  go_wp2_with fail
  refine (nexti _ d 3 hD1 (by omega) (by omega)).mono ?_
  rintro e w1 ⟨r, hr, rfl, hD, hK⟩
  obtain ⟨n, hn, hn1, hn3⟩ : ∃ n : Nat, (1 + (r : Int)) = (n : Int) ∧ 1 ≤ n ∧ n ≤ 3 := ⟨1 + r, by omega, by omega, by omega⟩
  go_upto_region 3 with fail
  have hmk := fun W => make_strs W n (by omega)
  have hM := mk_start w0 d n hD0 w1 hD hK
  clear hn hr hD hK hal0 hD1
  go_upto_block 0 with fail
  obtain ⟨w2, hw2⟩ : ∃ w2, w2 = w1.alloc (.cells (emptyRow n) 9) := ⟨_, rfl⟩
  rw [← hw2] at hM ⊢
  obtain ⟨bT, hbT⟩ : ∃ bT, bT = w1.heap.size := ⟨_, rfl⟩
  obtain ⟨p, hp⟩ : ∃ p, p = w0.heap.size := ⟨_, rfl⟩
  rw [← hp, ← hbT] at hM
  rw [← hp, ← hbT]
  have hdl := hM.hD.lt
  obtain ⟨B, hB⟩ : ∃ B, B = bT + 1 := ⟨_, rfl⟩
  rw [← hB] at hM
  clear hmk hw2 hp hbT hB
  go_cut [] (fun wx => ∃ g, Mk w0 wx B d p bT n 0 0 180 g)
  case first =>
    go_wp2_with fail
    go_loopw [6] (fun i wr => ∃ (k : Nat), k ≤ n ∧ i = .int .i64 k ∧ ∃ g, Mk w0 wr B d p bT n 0 0 (60 * k) g) (fun i _ => n - (intOf i).toNat)
    case atStart => exact ⟨0, by omega, rfl, _, hM⟩
    case round =>
      obtain ⟨i, hi, rfl, g, hM⟩ := hrel
      by_cases hlt : i < n
      · go_upto_block 1 with fail
        go_cut [] (fun wx => Mk w0 wx B d p bT n 0 0 (60 * (i + 1)) g)
        case first =>
          obtain ⟨wo, rfl⟩ : ∃ wo : World, wo = wr := ⟨_, rfl⟩
          go_wp2_with fail
          go_loopw [7] (fun k wq => ∃ (j : Nat), j ≤ n ∧ k = .int .i64 j ∧ Mk w0 wq B d p bT n 0 0 (60 * i + 20 * j) g) (fun k _ => n - (intOf k).toNat)
          case atStart => exact ⟨0, by omega, rfl, hM⟩
          case round =>
            obtain ⟨j, hj, rfl, hM⟩ := hrel
            by_cases hjt : j < n
            · by_cases hij : j = i
              · subst hij
                go_wp2_with fail
                go_roundw
                case rel => exact ⟨j + 1, by omega, by go_num, hM.le (by omega) (by omega)⟩
                case measure => simp [intOf]; omega
              · go_upto_block 3 with fail
                go_cut [] (fun wx => Mk w0 wx B d p bT n 0 0 (60 * i + 20 * (j + 1)) g)
                case first =>
                  obtain ⟨s, hI⟩ := hM.hT.pick hlt
                  have e1 : ((j : Int) != (i : Int)) = true := by simp; omega
                  have hdq := hM.hD.lt
                  go_upto_region 11 with fail
                  obtain ⟨ct, ft, hsz⟩ := hI.cell
                  have hbt := hM.hT.lt
                  clear e1
                  go_region_with (first
                  | (go_at_call 25; (with_reducible refine (of_lit 8 _ d hM.hD _ _ _ ?_ ?_ ?_ ?_).mono ?_); rfl; rfl; omega; omega; rintro e wa ⟨sa, hsa, rfl, hDa, hKa⟩; have hI := hM.i1 hI hKa; have hM := hM.k1 hDa hKa; clear ct ft; obtain ⟨ct, ft, _⟩ := hI.cell; have hbt := hM.hT.lt; (first | (have q1 : ¬ 9223372036854775807 < sa.size + sl.size := (by omega); have q2 : ¬ 9223372036854775807 < sa.size + sl.size + 2 := (by omega); have q3 : ¬ 9223372036854775807 < s.size + (sa.size + sl.size + 2) := (by omega)) | skip))
                  | (go_at_call 25; (with_reducible refine (of_litd 8 _ d hM.hD _ _ _ ?_ ?_ ?_ ?_).mono ?_); rfl; rfl; omega; omega; rintro e wa ⟨sa, hsa, rfl, hDa, hKa⟩; have hI := hM.i1 hI hKa; have hM := hM.k1 hDa hKa; clear ct ft; obtain ⟨ct, ft, _⟩ := hI.cell; have hbt := hM.hT.lt; (first | (have q1 : ¬ 9223372036854775807 < sa.size + sl.size := (by omega); have q2 : ¬ 9223372036854775807 < sa.size + sl.size + 2 := (by omega); have q3 : ¬ 9223372036854775807 < s.size + (sa.size + sl.size + 2) := (by omega)) | skip))
                  | (go_at_call 25; (with_reducible refine (of_later 8 _ _ d hM.hD _ _ _ ?_ hbl ?_ ?_ ?_ ?_).mono ?_); exact hdq; rfl; rfl; omega; omega; rintro e wa ⟨sa, hsa, rfl, hDa, hKa⟩; have hI := hM.i1 hI hKa; have hM := hM.k1 hDa hKa; clear ct ft; obtain ⟨ct, ft, _⟩ := hI.cell; have hbt := hM.hT.lt; (first | (have q1 : ¬ 9223372036854775807 < sa.size + sl.size := (by omega); have q2 : ¬ 9223372036854775807 < sa.size + sl.size + 2 := (by omega); have q3 : ¬ 9223372036854775807 < s.size + (sa.size + sl.size + 2) := (by omega)) | skip))
                  | (go_at_call 25; (with_reducible refine (of_laterd 8 _ _ d hM.hD _ _ _ ?_ hbl ?_ ?_ ?_ ?_).mono ?_); exact hdq; rfl; rfl; omega; omega; rintro e wa ⟨sa, hsa, rfl, hDa, hKa⟩; have hI := hM.i1 hI hKa; have hM := hM.k1 hDa hKa; clear ct ft; obtain ⟨ct, ft, _⟩ := hI.cell; have hbt := hM.hT.lt; (first | (have q1 : ¬ 9223372036854775807 < sa.size + sl.size := (by omega); have q2 : ¬ 9223372036854775807 < sa.size + sl.size + 2 := (by omega); have q3 : ¬ 9223372036854775807 < s.size + (sa.size + sl.size + 2) := (by omega)) | skip))
                  | (go_at_call 29; (with_reducible refine (letter_sz j _ ?_).mono ?_); omega; rintro e wb ⟨sl, hsl, rfl, hbl⟩; (first | (have hI := hM.iof hI hbl; have hM := hM.of hbl) | (have hI := hM.iof hI (below_d hbl); have hM := hM.of (below_d hbl)) | (have hI := hM.iof hI (below_al hbl); have hM := hM.of (below_al hbl)) | (have hI := hM.iof hI (below_ald hbl); have hM := hM.of (below_ald hbl))); clear ct ft; obtain ⟨ct, ft, _⟩ := hI.cell; have hbt := hM.hT.lt; (first | (have q1 : ¬ 9223372036854775807 < sa.size + sl.size := (by omega); have q2 : ¬ 9223372036854775807 < sa.size + sl.size + 2 := (by omega); have q3 : ¬ 9223372036854775807 < s.size + (sa.size + sl.size + 2) := (by omega)) | skip)))
                  all_goals
                    go_wp2_with fail
                    go_meet
                    exact hM.set hI _ (by simp only [ByteArray.size_append, lit_size, List.size_toArray, List.length_cons, List.length_nil]; omega) (by omega)
                case rest =>
                  go_wp2_with fail
                  go_roundw
                  case rel => exact ⟨j + 1, by omega, by go_num, hcut⟩
                  case measure => simp [intOf]; omega
            · go_wp2_with fail
              go_meet
              exact hM.le (by omega) (by omega)
        case rest =>
          go_wp2_with fail
          go_roundw
          case rel => exact ⟨i + 1, by omega, by go_num, g, hcut⟩
          case measure => simp [intOf]; omega
      · go_wp2_with fail
        go_meet
        exact ⟨g, hM.le (by omega) (by omega)⟩
  case rest =>
    obtain ⟨g, hM⟩ := hcut
    go_wp2_with fail
    refine (nexti _ d 3 hM.hD (by omega) (by omega)).mono ?_
    rintro e w3 ⟨r3, hr3, rfl, hD, hK⟩
    have hM := hM.k1 hD hK
    clear hD hK
    go_upto_if 48 with fail
    go_cut [] (fun wx => ∃ g, Mk w0 wx B d p bT n 0 0 500 g)
    case first =>
      rcases Nat.eq_zero_or_pos r3 with rfl | hpos
      · go_wp2_with fail
        go_meet
        exact ⟨_, hM.le (by omega) (by omega)⟩
      · have e1 : decide ((0 : Int) < (r3 : Int)) = true := by rw [decide_eq_true_iff]; omega
        go_upto_region 13 with fail
        go_cut [] (fun wx => Mk w0 wx B d p bT n 0 0 500 g)
        case first =>
          have hM : Mk w0 w3.drew B d p bT n 0 0 180 g := hM.drew
          clear e1
          go_region_with (first
            | (go_at_call 24; (with_reducible refine (nexti _ d _ hM.hD ?_ ?_).mono ?_); omega; omega; rintro e wa ⟨ri, hri, rfl, hDa, hKa⟩; obtain ⟨s, hI⟩ := hM.hT.pick (i := ri) (by omega); have hI := hM.i1 hI hKa; have hM := hM.k1 hDa hKa; obtain ⟨ct, ft, hsz⟩ := hI.cell; have hbt := hM.hT.lt; (first | (have q1 : ¬ 9223372036854775807 < s.size + sb.size := (by omega)) | skip))
            | (go_at_call 30; (with_reducible refine (base_any _).mono ?_); rintro e wb ⟨sb, hsb, rfl, rfl⟩; (first | (have q1 : ¬ 9223372036854775807 < s.size + sb.size := (by omega)) | skip)))
          all_goals
            go_wp2_with fail
            go_meet
            exact hM.set hI _ (by simp only [ByteArray.size_append, lit_size, List.size_toArray, List.length_cons, List.length_nil]; omega) (by omega)
        case rest =>
          have hM := hcut
          obtain ⟨hM5, ⟨x4, c4⟩, ⟨x5, c5⟩, f4, f5⟩ := hM.flags
          go_wp2_with fail
          go_meet
          exact ⟨_, hM5⟩
    case rest =>
      clear hM
      obtain ⟨g, hM⟩ := hcut
      go_upto_block 4 with fail
      go_cut [] (fun wx => ∃ g K, Mk w0 wx B d p bT n K 98 9600 g)
      case first =>
        go_wp2_with fail
        go_loopw [8] (fun k wr => ∃ (j : Nat), j ≤ 7 ∧ k = .int .i64 j ∧ ∃ g, Mk w0 wr B d p bT n j (14 * j) (500 + 1300 * j) g) (fun k _ => 8 - (intOf k).toNat)
        case atStart => exact ⟨0, by omega, rfl, g, hM⟩
        case round =>
          obtain ⟨j, hj, rfl, g, hM⟩ := hrel
          go_wp2_with fail
          refine (nexti _ d 6 hM.hD (by omega) (by omega)).mono ?_
          rintro e w3 ⟨r3, hr3, rfl, hD, hK⟩
          have hM := hM.k1 hD hK
          clear hD hK
          by_cases hjr : j < 2 + r3
          · go_upto_block 5 with fail
            go_cut [] (fun wx => ∃ g, Mk w0 wx B d p bT n (j + 1) (14 * (j + 1)) (500 + 1300 * (j + 1)) g)
            case first =>
              go_wp2_with fail
              refine (nexti _ d n hM.hD (by omega) (by omega)).mono ?_
              rintro e w4 ⟨ri, hri, rfl, hD, hK⟩
              have hM := hM.k1 hD hK
              clear hD hK
              obtain ⟨s, hI⟩ := hM.hT.pick (i := ri) (by omega)
              go_upto_region 19 with fail
              obtain ⟨ct, ft, hsz⟩ := hI.cell
              have hM : Mk w0 w4.drew B d p bT n j (14 * j) (500 + 1300 * j) g := hM.drew
              have hI : TxI w4.drew bT n (500 + 1300 * j) ri s := hI
              go_region_with (first
                | (go_at_call 29; (with_reducible refine (letter_sz ri _ ?_).mono ?_); omega; rintro e wb ⟨sl, hsl, rfl, hbl⟩; have hI := hM.iof hI hbl; have hM := hM.of hbl; clear ct ft; obtain ⟨ct, ft, _⟩ := hI.cell; have hbt := hM.hT.lt)
                | (go_at_call 31; (with_reducible refine (item_any _ B d p _ j (14 * j) _ j hM.hD hM.hO hM.lB ?_ ?_ ?_ ?_).mono ?_); omega; omega; omega; omega; rintro e wb ⟨si, g2, hsi, rfl, hDb, hOb, hKb⟩; have hI := hM.ikb hI hKb; have hM := hM.kb hDb hOb hKb; clear ct ft; obtain ⟨ct, ft, _⟩ := hI.cell; have hbt := hM.hT.lt; (first | (have q1 : ¬ 9223372036854775807 < si.size + 1 := (by omega); have q2 : ¬ 9223372036854775807 < s.size + (si.size + 1) := (by omega)) | skip)))
              all_goals
                go_wp2_with fail
                go_meet
                exact ⟨_, (hM.set hI _ (by simp only [ByteArray.size_append, lit_size, List.size_toArray, List.length_cons, List.length_nil]; omega) (by omega)).le (Nat.le_refl _) (by omega)⟩
            case rest =>
              go_wp2_with fail
              go_roundw
              case rel => exact ⟨j + 1, by omega, by go_num, hcut⟩
              case measure => simp [intOf]; omega
          · go_wp2_with fail
            go_meet
            exact ⟨g, j, hM.le (by omega) (by omega)⟩
      case rest =>
        clear hM
        obtain ⟨g, K, hM⟩ := hcut
        go_upto_region 20 with fail
        go_cut [] (fun wx => ∃ g V, Mk w0 wx B d p bT n K V 12000 g)
        case first =>
          have hM : Mk w0 wc.drew B d p bT n K 98 9600 g := hM.drew
          go_region_with (first
            | (go_at_call 24; (with_reducible refine (nexti _ d 2 hM.hD ?_ ?_).mono ?_); omega; omega; rintro e wa ⟨r2, hr2, rfl, hDa, hKa⟩; have gw : IntKind.i64.wrap (2 + (r2 : Int)) = 2 + (r2 : Int) := IntWalk.i64_in _ (by omega); (first | (have hI := hM.i1 hI hKa; have hM := hM.k1 hDa hKa; clear ct ft; obtain ⟨ct, ft, _⟩ := hI.cell; have hbt := hM.hT.lt) | (have hM := hM.k1 hDa hKa)))
            | (go_at_call 24; (with_reducible refine (nexti _ d _ hM.hD ?_ ?_).mono ?_); omega; omega; rintro e wa ⟨ri, hri, rfl, hDa, hKa⟩; obtain ⟨s, hI⟩ := hM.hT.pick (i := ri) (by omega); have hI := hM.i1 hI hKa; have hM := hM.k1 hDa hKa; obtain ⟨ct, ft, hsz⟩ := hI.cell; have hbt := hM.hT.lt; (first | (have q1 : ¬ 9223372036854775807 < 17 + sk.size := (by omega); have q2 : ¬ 9223372036854775807 < 17 + sk.size + 1 := (by omega)) | skip); (first | (have q3 : ¬ 9223372036854775807 < s.size + (17 + sk.size + 1) := (by omega)) | skip))
            | (go_at_call 32; (with_reducible refine ((block13 _ ?_ ?_).use0 hM.hD hM.hO.at_ hM.hO.dp ?_).mono ?_); omega; omega; omega; rintro e wb ⟨sk, hsk, rfl, hDa, hPa, hKa⟩; (first | (have hI := hM.i2 hI hKa; have hM := hM.k2 hDa hPa hKa; clear ct ft; obtain ⟨ct, ft, _⟩ := hI.cell; have hbt := hM.hT.lt) | (have hM := hM.k2 hDa hPa hKa)); (first | (have q1 : ¬ 9223372036854775807 < 17 + sk.size := (by omega); have q2 : ¬ 9223372036854775807 < 17 + sk.size + 1 := (by omega)) | skip); (first | (have q3 : ¬ 9223372036854775807 < s.size + (17 + sk.size + 1) := (by omega)) | skip)))
          all_goals
            go_wp2_with fail
            go_meet
            exact ⟨_, _, hM.set hI _ (by simp only [ByteArray.size_append, lit_size, List.size_toArray, List.length_cons, List.length_nil]; omega) (by omega)⟩
        case rest =>
          clear hM
          obtain ⟨g, V, hM⟩ := hcut
          have hC := hM.lB
          go_wp2_with fail
          go_loopw [10, 11] (fun v i wr => ∃ (k : Nat) (ys : List Src), k ≤ n ∧ i = .int .i64 k ∧ ys.length = k ∧ (∀ j x, ys[j]? = some x → x.1 = letterS j ∧ x.2.size ≤ 12000) ∧ Below wc.heap.size wc wr ∧ Own wr wc.heap.size 39 2 v (ys.flatMap srcE)) (fun v i _ => n - (intOf i).toNat)
          case atStart => exact ⟨0, [], by omega, rfl, rfl, by simp, Below.refl _ _, Own.nil_ _ _ _ _⟩
          case round =>
            obtain ⟨k, ys, hk, rfl, hyl, hys, hF, hown⟩ := hrel
            have hMr := hM.of hF
            by_cases hkn : k < n
            · obtain ⟨s, hI⟩ := hMr.hT.pick hkn
              have HL := hid hyl
              have hyl3 : ys.length ≤ 3 := by omega
              obtain ⟨ct, _, hsz⟩ := hI.cell
              have hbt := hMr.hT.lt
              clear hyl
              go_upto_region 25 with fail
              go_region_law (first
                | (refine step_append_Own rfl (.tmp 106) (.tmp 114) 31 rfl 39 2 32 elSrc wc.heap.size _ (ys.flatMap srcE) (by simp [Act.eval, Act.put]) (hown.alloc _) (some ⟨_, 0, none⟩) 1 1 [.string _, .string _] (by simp [Act.eval, Act.put]) rfl (at_lit2 _ _ _ _) (one_two _ _) (push_len (x := (letterS k, s)) hyl3 (by omega)).1 (push_len (x := (letterS k, s)) hyl3 (by omega)).2 (by have := hF.size; simp; omega) ?_; intro v9 w9 ho9 hg9 hat9)
                | (go_simp; go_at_call 29; (with_reducible refine (letter_any k _ ?_).mono ?_); omega; rintro e wb ⟨rfl, hbl⟩; have hI := hMr.iof hI (below_d hbl); have hown := hown.later (below_d hbl); have hF := below_step hF (below_d hbl); clear ct; obtain ⟨ct, _, _⟩ := hI.cell; have hbt := Nat.lt_of_lt_of_le hbt (below_d hbl).size))
              all_goals
                go_wp2_with fail
                go_roundw
                case rel => exact ⟨k + 1, ys ++ [(letterS k, s)], by omega, by go_num, by simp; exact HL.out, SrcL.snoc HL.out hys (by omega), (hF.alloc hF.size _).grown hg9 (by have := hF.size; simp; omega) (fun k hk => (hown.blk k hk).1), by rw [← flat_snoc]; exact ho9⟩
                case measure => simp [intOf]; omega
            · obtain rfl : k = n := by omega
              go_wp2_with fail
              go_ret
              have hz := hM.hK.size
              exact ⟨_, ys, ⟨by omega, by omega, hys⟩, rfl, hMr.hD, hown.less hz, hMr.hK⟩
end Go.Proofs.Ytpjpndbagkcgcaa
