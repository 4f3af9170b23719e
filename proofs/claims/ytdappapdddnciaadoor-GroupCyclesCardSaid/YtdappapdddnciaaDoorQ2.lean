/- group.Of: a loop over slices.Backward that fills a map, and Among. -/
import Derived.Test.YtdappapdddnciaaDoorQ1
set_option linter.unusedVariables false
set_option linter.unusedSimpArgs false
namespace Go.Proofs.YtdappapdddnciaaDoor
open Go.RowKit Go.Shelf

attribute [local go_sem] Oper.semAt_some

theorem group_Open_some (r : RecordD) (rev : Int) : ∃ b, group_Open r rev = some b := by
  have h1 : ∃ b, key_Cyclic r.Key = some b := by
    unfold key_Cyclic key_language queries_Cyclic
    cases hb1 : (r.Key.Kind : Int) == 32 <;> cases hb2 : decide ((1 : Int) ≤ r.Key.Kind) <;> cases hb3 : decide ((r.Key.Kind : Int) ≤ 22) <;> cases hb4 : (r.Key.Kind : Int) == 7 <;> cases hb5 : (r.Key.Kind : Int) == 14 <;> cases hb6 : (r.Key.Kind : Int) == 17 <;> cases hb7 : (r.Key.Kind : Int) == 18 <;> exact ⟨_, rfl⟩
  obtain ⟨b, hb⟩ := h1
  unfold group_Open
  rw [hb]
  cases b <;> cases hd : decide ((r.Verified : Int) < rev) <;> exact ⟨_, by simp only [Option.bind, cond, hd, group_Open_j1]; rfl⟩
noncomputable def openB (r : RecordD) (rev : Int) : Bool := (group_Open r rev).getD false
theorem group_Open_is (r : RecordD) (rev : Int) : group_Open r rev = some (openB r rev) := by
  obtain ⟨b, hb⟩ := group_Open_some r rev
  unfold openB; rw [hb]; rfl
/-- what one record does to the map -/
noncomputable def ofStep (rev : Int) (m : List (KeyD × List KeyD)) (r : RecordD) : List (KeyD × List KeyD) :=
  if openB r rev then mput keq_KeyD r.Key r.Reads (mdel keq_KeyD r.Key m) else mdel keq_KeyD r.Key m
noncomputable def ofMap (rev : Int) (l : List RecordD) : List (KeyD × List KeyD) := l.reverse.foldl (ofStep rev) []
noncomputable def group_Of (l : List RecordD) (rev : Int) (k : KeyD) : Option (List KeyD) := group_Among (fun x => group_Of_1 x (ofMap rev l)) k

section
variable {κ ν : Type} {P : Program} {F : Fence} {nF : Nat} {ops : Array Oper} {rest : List Oper} {o : Oper} {a : Act} {Q : Exit → Act → World → Prop} {w w0 : World}
variable {kt et : TypeId} {RK : Rep κ} {ak : Bool} {RV : Rep ν} {av : Bool} {q : κ → κ → Bool} {b ck : Nat} {es : Array MapEntry} {xs : List (κ × ν)} {T : Nat → Prop}
theorem wpListIn_mdel (hg : o.guard = none) (m x : Operand) (t k2 : TypeId) (hop : o.op = Op.call { callee := Callee.builtin Builtin.delete, args := #[m, x], argTypes := #[t, k2] }) (ht : mpI P t = some (kt, et)) (hK : KeyT P kt RK ak q)
    (hm : a.eval m = .map (some b)) (hr : w.heap[b]? = some (.map es ck)) (hok : MapOk RK ak RV av T w0 es xs) {c : List Value} {key : κ} (hx : a.eval x = valOf ak c) (hc : RK.rel T w0 c key)
    (hK2 : ∀ es' ck' w', Kt (fun k => k = b) w w' → w'.heap[b]? = some (.map es' ck') → MapOk RK ak RV av T w0 es' (mdel q key xs) → wpListIn F nF P ops Q rest (a.put o.dst (.tuple #[])) w') :
    wpListIn F nF P ops Q (o :: rest) a w := by
  refine wpListIn_plain hg fun K' hK' => ?_
  obtain ⟨es', ck', hrun, hok'⟩ := mdel_run (P := P) (kt2 := k2) (ty := o.type) ht hK hr hok hc
  unfold Oper.wpIn
  refine ⟨by simp [Oper.about, hop, resolve, Target.leads, Sem.run_pure], ?_⟩
  rw [Oper.semAt_plain F _ _ (by rw [hop]; intro c hc'; cases hc')]
  simp [execOp, hop, resolve, invoke, builtin, hm, hx, hrun, Result.andThen]
  exact hK' _ _ (hK2 es' ck' _ ((set_kt hr).mono fun j hj => (Option.some.inj hj).symm) (hset hr).1 hok')
theorem wpListIn_mput (hg : o.guard = none) (m x v : Operand) (t : TypeId) (hop : o.op = Op.mapUpdate t m x v) (ht : mpI P t = some (kt, et)) (hK : KeyT P kt RK ak q)
    (hm : a.eval m = .map (some b)) (hr : w.heap[b]? = some (.map es ck)) (hok : MapOk RK ak RV av T w0 es xs) {c cv : List Value} {key : κ} {val : ν} (hx : a.eval x = valOf ak c) (hc : RK.rel T w0 c key) (hv : a.eval v = valOf av cv) (hcv : RV.rel T w0 cv val)
    (hK2 : ∀ es' ck' w', Kt (fun k => k = b) w w' → w'.heap[b]? = some (.map es' ck') → MapOk RK ak RV av T w0 es' (mput q key val xs) → wpListIn F nF P ops Q rest (a.put o.dst undef) w') :
    wpListIn F nF P ops Q (o :: rest) a w := by
  refine wpListIn_plain hg fun K' hK' => ?_
  obtain ⟨es', ck', hrun, hok'⟩ := mput_run (P := P) ht hK hr hok hc hcv
  unfold Oper.wpIn
  refine ⟨by simp [Oper.about, hop], ?_⟩
  rw [Oper.semAt_plain F _ _ (by rw [hop]; intro c hc'; cases hc')]
  simp [execOp, hop, hm, hx, hv, hrun, Result.andThen]
  exact hK' _ _ (hK2 es' ck' _ ((set_kt hr).mono fun j hj => (Option.some.inj hj).symm) (hset hr).1 hok')
end

theorem backward_in (F : Fence) (n : Nat) (h25 : F.fn 25) (hro : F.round = none) (a : Option Addr) (len cap : Nat) (w : World) :
    CallsIn F n Tryd.prog 25 #[.slice a len cap] w fun e w' => e = .returned (.func (.func 37) #[] #[.pointer (some ⟨w.heap.size, 0, none⟩)]) ∧ w' = w.alloc (.cells #[.slice a len cap] 28) := by
  refine callsIn_of_wp Tryd.func25 rfl h25 ?_ hro
  simp only [Tryd.ntmps25, List.size_toArray, List.length_cons, List.length_nil, Nat.reduceAdd, Nat.reduceSub, Array.replicate_succ, Array.replicate_zero, List.push_toArray, List.append_toArray, List.nil_append, List.cons_append]
  gi_wp2
  go_ret
  exact ⟨rfl, rfl⟩

theorem allocs5 (W0 : World) (o0 o1 o2 o3 o4 : Obj) {w : World} (h : ((((W0.alloc o0).alloc o1).alloc o2).alloc o3).alloc o4 = w) :
    w.heap.size = W0.heap.size + 5 ∧ Kt No W0 w ∧ w.heap[W0.heap.size]? = some o0 ∧ w.heap[W0.heap.size + 1]? = some o1 ∧ w.heap[W0.heap.size + 1 + 1]? = some o2 ∧ w.heap[W0.heap.size + 1 + 1 + 1]? = some o3 ∧ w.heap[W0.heap.size + 1 + 1 + 1 + 1]? = some o4 := by
  subst h
  refine ⟨by simp, (((((Kt.alloc _ _).trans (Kt.alloc _ _)).trans (Kt.alloc _ _)).trans (Kt.alloc _ _)).trans (Kt.alloc _ _)), ?_, ?_, ?_, ?_, ?_⟩
  all_goals simp only [World.alloc, Array.getElem?_push, Array.size_push]
  · rw [if_neg (by omega), if_neg (by omega), if_neg (by omega), if_neg (by omega), if_pos trivial]
  · rw [if_neg (by omega), if_neg (by omega), if_neg (by omega), if_pos trivial]
  · rw [if_neg (by omega), if_neg (by omega), if_pos trivial]
  · rw [if_neg (by omega), if_pos trivial]
  · rw [if_pos trivial]
theorem box_cell {W : World} {b : Nat} {cs : Array Value} {t : TypeId} (h : W.heap[b]? = some (.cells cs t (0, 0))) {j : Nat} {u : Value} (hu : cs[j]? = some u) : W.cell? ⟨b, j, none⟩ = some u := by
  simp [World.cell?, h, hu]
/-- what has come when all rounds are over -/
theorem downto_map (xs : List RecordD) : (downto xs.length xs.length).map (recA xs) = xs.reverse := by
  refine List.ext_getElem (by simp [downto]) fun i h1 h2 => ?_
  simp only [downto, List.map_map, List.getElem_map, List.getElem_range, Function.comp, List.getElem_reverse]
  have hi : xs.length - 1 - i < xs.length := by simp at h2; omega
  unfold recA
  rw [List.getElem?_eq_getElem hi]; rfl
theorem post_of {mb B : Nat} {W V : World} (hk : Kt (fun k => k = mb) W V) (hW : B ≤ W.heap.size) (hmb : mb < B) : KeepsFrom B W V ∧ KpB B mb W V :=
  ⟨⟨hk.size, fun k o hB h _ => (hk.block k (Array.getElem?_eq_some_iff.1 h).1 (by omega)).trans h⟩, ⟨hk.size, fun k h1 h2 => hk.block k (by omega) h2⟩⟩
/-- an own row, a block for deferred calls being shut -/
theorem ownR_shut {T : Nat → Prop} {W0 W w : World} {rs : List Res} {e : TypeId} {v : Value} {cl : List Value} {ys : List KeyD} {D : Nat} {ds : Option (List Deferred)} (h : OwnR R_KeyD T W w rs e v cl ys) (hW : W0.heap.size ≤ W.heap.size) (hD : w.heap[D]? = some (.deferred ds)) (o : Obj) : OwnR R_KeyD T W0 (w.putObj D o) rs e v cl ys := by
  obtain ⟨h1, h2, h3⟩ := h
  refine ⟨?_, fun k hk => Nat.le_trans hW (h2 k hk), h3⟩
  rcases h1 with h1 | ⟨g, off, n, cap, cs, rfl, q1, q2, q3, rest⟩
  · exact .inl h1
  · refine .inr ⟨g, off, n, cap, cs, rfl, q1, q2, q3.eqb (World.putObj_heap_other fun e => ?_), rest⟩
    subst e
    obtain ⟨fz, h5, _⟩ := q3
    rw [hD] at h5; cases h5
theorem ci_of1 : callI Tryd.prog 28 = true := by kernel_rfl
theorem among_in {F : Fence} {n : Nat} (hC : ∀ {n : Nat} {f : Nat} {args : Array Value} {w : World} {R : Ending → World → Prop}, Calls Tryd.prog f args w R → CallsIn F n Tryd.prog f args w R) {T : Nat → Prop} {W : World} (hT : ∀ k, T k → k < W.heap.size) (hLv : LvP T W) {b mb : Nat} {m : List (KeyD × List KeyD)} (hb : (CellsF b 0 [.map (some mb)]).p T W) (hm : MpR R_KeyD true (Rep.slice R_KeyD) false T W (.map (some mb)) m) {k : KeyD} {y : List KeyD} (hM : group_Among (fun x => group_Of_1 x m) k = some y) :
    CallsIn F n Tryd.prog 27 #[.agg #[.int .i64 k.Kind, .string k.Text], .func (.func 28) #[] #[.pointer (some ⟨b, 0, none⟩)]] W (fun e w' => ∃ v cl, e = .returned v ∧ Kt No W w' ∧ OwnR R_KeyD T W w' [.own v 32 R_KeyD.size cl] 32 v cl y) := by
  refine hC (Calls.mono (group_Among_c T W hT hLv 28 ci_of1 [.pointer (some ⟨b, 0, none⟩)] (AndF (CellsF b 0 [.map (some mb)]) (MpF R_KeyD true (Rep.slice R_KeyD) false (.map (some mb)) m)) (fun x => group_Of_1 x m)
    (fun T W0 hT hLv hP x0 y hM => group_Of_1_c T W0 hT x0 m (.map (some mb)) b hP.2 hP.1 y hM) ⟨hb, hm⟩ k y hM) ?_)
  rintro e w' ⟨v, rfl, hk, v1, cl, rfl, ho⟩
  exact ⟨_, cl, rfl, hk, ho⟩
theorem open_in {F : Fence} {l n : Nat} (hC : ∀ {n : Nat} {f : Nat} {args : Array Value} {w : World} {R : Ending → World → Prop}, Calls Tryd.prog f args w R → CallsIn F n Tryd.prog f args w R) {T : Nat → Prop} {W0 W1 : World} (hT : ∀ k, T k → k < W0.heap.size) (hW : Kt No W0 W1) {r : RecordD} (rev : Int) {v : Value} (hv : SlR R_KeyD T W0 v r.Reads) {b : Bool} (hb : openB r rev = b) :
    CallsIn (F.inRound l) n Tryd.prog 26 #[.agg #[.int .i64 r.Key.Kind, .string r.Key.Text, .string r.Value, v, .int .i64 r.Changed, .int .i64 r.Verified, .int .i64 r.Cost, .bool r.Dirty], .int .i64 rev] W1 (fun e w' => e = .returned (.bool b) ∧ Kt No W1 w') := by
  subst hb
  refine CallsIn.inRound l (hC (Calls.mono (group_Open_c T W1 (fun k hk => Nat.lt_of_lt_of_le (hT k hk) hW.size) r rev v (hv.keep hW.no (Nw.refl _ _)) _ (group_Open_is _ _)) ?_))
  rintro e w' ⟨v, rfl, hk2, rfl⟩
  exact ⟨rfl, hk2⟩
set_option maxRecDepth 100000 in
set_option maxHeartbeats 4000000 in
theorem of_in (F : Fence) (h13 : F.fn 13) (h25 : F.fn 25) (h37 : F.fn 37) (h26 : F.fn 26) (h27 : F.fn 27) (hro : F.round = none) (hC : ∀ {n : Nat} {f : Nat} {args : Array Value} {w : World} {R : Ending → World → Prop}, Calls Tryd.prog f args w R → CallsIn F n Tryd.prog f args w R)
    (T : Nat → Prop) (W0 : World) (hT : ∀ k, T k → k < W0.heap.size) (hLv : LvP T W0) (l_0 : List RecordD) (revision_ : Int) (k_2 : KeyD) (v1 : Value) (hv1 : SlR R_RecordD T W0 v1 l_0) (y : List KeyD) (hM : group_Of l_0 revision_ k_2 = some y) :
    CallsIn F 3 Tryd.prog 13 #[v1, .int .i64 revision_, .agg #[.int .i64 k_2.Kind, .string k_2.Text]] W0 (fun e w' => ∃ v, e = .returned v ∧ Kt No W0 w' ∧ ∃ (v1 : Value) (cl2 : List Value), v = v1 ∧ OwnR R_KeyD T W0 w' [.own v1 32 R_KeyD.size cl2] 32 v1 cl2 y) := by
  obtain ⟨fa, fc, hf, A, cap, rfl, hlen, hcells⟩ := rec_pick hv1
  refine callsIn_of_wp_marks Tryd.func13 rfl h13 ?_ hro
  simp only [Tryd.ntmps13, List.size_toArray, List.length_cons, List.length_nil, Nat.reduceAdd, Nat.reduceSub, Array.replicate_succ, Array.replicate_zero, List.push_toArray, List.append_toArray, List.nil_append, List.cons_append]
  have hmm := @run_makeMap Tryd.prog
  gi_wp2_with (gi_at_call 25; refine (backward_in F _ h25 hro _ _ _ _).mono ?_; rintro e w' ⟨rfl, rfl⟩)
  generalize hw4 : World.alloc _ _ = w4
  obtain ⟨s4, k4, b0, b1, b2, b3, b4⟩ := allocs5 W0 _ _ _ _ _ hw4
  generalize hN : W0.heap.size = N at *
  have hseq : SeqStopsK F (3 - 1) Tryd.prog 37 #[.pointer (some ⟨N + 1 + 1 + 1 + 1, 0, none⟩)] (fun x : Nat => #[.int .i64 (x : Int), .agg #[.int .i64 (recA l_0 x).Key.Kind, .string (recA l_0 x).Key.Text, .string (recA l_0 x).Value, .slice (fa x) (recA l_0 x).Reads.length (fc x), .int .i64 (recA l_0 x).Changed, .int .i64 (recA l_0 x).Verified, .int .i64 (recA l_0 x).Cost, .bool (recA l_0 x).Dirty]]) (KpB w4.heap.size (N + 1 + 1)) (fun ys => ys = downto l_0.length l_0.length) (fun pre => ∃ k, k ≤ l_0.length ∧ pre = downto l_0.length k) l_0.length w4 := by
    intro l J Jx W hW _ _ hY h0
    have hc4 : W.cell? ⟨N + 1 + 1 + 1 + 1, 0, none⟩ = some (.slice A l_0.length cap) := (hW.cell (p := ⟨N + 1 + 1 + 1 + 1, 0, none⟩) (by show N + 1 + 1 + 1 + 1 < _; omega)).trans (box_cell b4 rfl)
    rcases hcells with rfl | ⟨b, off, rfl, hTb, hbl, hcs⟩
    · exact (back0_in F _ h37 hro l (N + 1 + 1 + 1 + 1) A cap J W hc4 h0).mono fun e W' ⟨he, hj⟩ => ⟨he, .inl ⟨_, rfl, hj⟩⟩
    · refine back1_in F _ h37 hro (by decide) l (N + 1 + 1 + 1 + 1) w4.heap.size (N + 1 + 1) b off l_0.length cap (fun k => (recA l_0 k).Key.Kind) (fun k => (recA l_0 k).Key.Text) (fun k => (recA l_0 k).Value) (fun k => .slice (fa k) (recA l_0 k).Reads.length (fc k)) (fun k => (recA l_0 k).Changed) (fun k => (recA l_0 k).Verified) (fun k => (recA l_0 k).Cost) (fun k => (recA l_0 k).Dirty) (fun k => rfl) hlen (by omega) (by omega) (by omega) (by omega) J Jx hY W hc4 (fun k hk j u hu => ?_) h0
      refine (hW.cell (p := ⟨b, off + k * 8 + j, none⟩) (by show b < _; omega)).trans ((k4.cell (p := ⟨b, off + k * 8 + j, none⟩) (by show b < _; omega) (fun h => h)).trans (hcs k hk j u hu))
  refine wpIn_rangeFunc_ownH hro (by decide) (gf := 37) (lb := #[.pointer (some ⟨N + 1 + 1 + 1 + 1, 0, none⟩)]) rfl h37 (enters_of Tryd.func37 (by kernel_rfl) rfl) hseq KpB.trans (fun W l o o' hl _ _ _ => KpB.putObj W l o' hl) (Below.refl _ _) (fun _ => rfl)
    (fun pre W => Kt (fun k => k = N + 1 + 1) w4 W ∧ ∃ es ck, W.heap[N + 1 + 1]? = some (.map es ck) ∧ MapOk R_KeyD true (Rep.slice R_KeyD) false T W0 es ((pre.map (recA l_0)).foldl (ofStep revision_) []))
    (fun _ _ _ => False)
    ?hI
    (fun _ _ _ _ _ hs _ _ => hs)
    ⟨Kt.refl _ _, #[], 0, b2, rfl, fun i e x he _ => by simp at he⟩
    (fun x a' W => ∃ rb, w4.heap.size ≤ rb ∧ a' = { tmps := #[.slice A l_0.length cap, .int .i64 revision_, .agg #[.int .i64 k_2.Kind, .string k_2.Text], undef, .pointer (some ⟨N, 0, none⟩), .pointer (some ⟨N + 1, 0, none⟩), .slice none 0 0, .pointer (some ⟨N + 1 + 1 + 1, 0, none⟩), undef, .pointer (some ⟨rb, 0, none⟩), .map (some (N + 1 + 1)), .slice A l_0.length cap, .func (.func 37) #[] #[.pointer (some ⟨N + 1 + 1 + 1 + 1, 0, none⟩)], .int .i64 (x : Int), .agg #[.int .i64 (recA l_0 x).Key.Kind, .string (recA l_0 x).Key.Text, .string (recA l_0 x).Value, .slice (fa x) (recA l_0 x).Reads.length (fc x), .int .i64 (recA l_0 x).Changed, .int .i64 (recA l_0 x).Verified, .int .i64 (recA l_0 x).Cost, .bool (recA l_0 x).Dirty], undef, undef, undef, undef, undef, undef, undef, undef, undef, undef, undef, undef, undef, undef], defers := [] } ∧ W.heap[rb]? = some (.cells #[.int .i64 (recA l_0 x).Key.Kind, .string (recA l_0 x).Key.Text, .string (recA l_0 x).Value, .slice (fa x) (recA l_0 x).Reads.length (fc x), .int .i64 (recA l_0 x).Changed, .int .i64 (recA l_0 x).Verified, .int .i64 (recA l_0 x).Cost, .bool (recA l_0 x).Dirty] 34 (0, 0)))
    ?hAx ?assign ?body ?done ?stop
  case hI =>
    rintro pre W W' row ⟨hk, es, ck, hm, hok⟩ hg hr
    refine ⟨hk.step (Kt.grown hg) fun k hk => .inr (hr k hk).1, es, ck, ?_, hok⟩
    exact (hg.block _ (Array.getElem?_eq_some_iff.1 hm).1 (fun e => by have := (hr _ e.symm).1; omega)).trans hm
  case hAx =>
    rintro x a' _ W W' row ⟨rb, h1, h2, h3⟩ hg hr
    refine ⟨rb, h1, h2, ?_⟩
    refine (hg.block _ (Array.getElem?_eq_some_iff.1 h3).1 fun e => ?_).trans h3
    obtain ⟨_, o, ho, hc⟩ := hr _ e.symm
    rw [h3] at ho; cases ho; cases hc
  case stop =>
    rintro D c pre W _ _ h _
    exact h.elim
  case assign =>
    rintro l pre x W K ⟨hk, es, ck, hm, hok⟩ hK
    gi_wp2
    have hWs : w4.heap.size ≤ W.heap.size := hk.size
    refine hK _ _ ⟨by simp, fun k o _ h _ => (Below.heap_alloc _ _ k (Array.getElem?_eq_some_iff.1 h).1).trans h⟩ ⟨by simp, fun k h1 _ => Below.heap_alloc _ _ k (by omega)⟩ ⟨hk.step (Kt.alloc _ _) (fun _ h => h.elim), es, ck, (Below.heap_alloc _ _ _ (by omega)).trans hm, hok⟩ ⟨W.heap.size, hWs, rfl, World.alloc_heap_new _ _⟩
  case body =>
    rintro l pre x a' W hl _ ⟨hk, es, ck, hm, hok⟩ ⟨rb, hrb, rfl, hbx⟩ hlt
    have hWs : w4.heap.size ≤ W.heap.size := hk.size
    -- what is kept by a world that has turned the map alone
    have cells : ∀ W1 : World, Kt (fun k => k = N + 1 + 1) W W1 → W1.cell? ⟨N, 0, none⟩ = some (.int .i64 revision_) ∧ W1.cell? ⟨N + 1 + 1 + 1, 0, none⟩ = some (.map (some (N + 1 + 1))) ∧
        W1.heap[rb]? = some (.cells #[.int .i64 (recA l_0 x).Key.Kind, .string (recA l_0 x).Key.Text, .string (recA l_0 x).Value, .slice (fa x) (recA l_0 x).Reads.length (fc x), .int .i64 (recA l_0 x).Changed, .int .i64 (recA l_0 x).Verified, .int .i64 (recA l_0 x).Cost, .bool (recA l_0 x).Dirty] 34 (0, 0)) := fun W1 h1 =>
      ⟨box_cell ((h1.block N (by omega) (by omega)).trans ((hk.block N (by omega) (by omega)).trans b0)) rfl, box_cell ((h1.block (N + 1 + 1 + 1) (by omega) (by omega)).trans ((hk.block (N + 1 + 1 + 1) (by omega) (by omega)).trans b3)) rfl, (h1.block rb (Array.getElem?_eq_some_iff.1 hbx).1 (by omega)).trans hbx⟩
    have hN0 : Kt No W0 W := ⟨hk.os.trans k4.os, hk.tape.trans k4.tape, hk.output.trans k4.output, by have := k4.size; omega, fun k h1 _ => (hk.block k (by omega) (by omega)).trans (k4.block k (by omega) (fun h => h))⟩
    obtain ⟨q1, q2, q3⟩ := cells W (Kt.refl _ _)
    have r0 : W.cell? ⟨rb, 0, none⟩ = some (.int .i64 (recA l_0 x).Key.Kind) := box_cell q3 rfl
    have r1 : W.cell? ⟨rb, 1, none⟩ = some (.string (recA l_0 x).Key.Text) := box_cell q3 rfl
    iterate 13 (first | gi_guarded | gi_step)
    refine wpListIn_mdel rfl _ _ _ _ rfl mp56 kt_KeyD rfl hm hok (c := [.int .i64 (recA l_0 x).Key.Kind, .string (recA l_0 x).Key.Text]) (key := (recA l_0 x).Key) rfl rfl ?_
    intro es1 ck1 W1 hk1 hm1 hok1
    obtain ⟨q11, q12, q13⟩ := cells W1 hk1
    have r10 : W1.cell? ⟨rb, 0, none⟩ = some (.int .i64 (recA l_0 x).Key.Kind) := box_cell q13 rfl
    have r11 : W1.cell? ⟨rb, 1, none⟩ = some (.string (recA l_0 x).Key.Text) := box_cell q13 rfl
    have r12 : W1.cell? ⟨rb, 2, none⟩ = some (.string (recA l_0 x).Value) := box_cell q13 rfl
    have r13 : W1.cell? ⟨rb, 3, none⟩ = some (.slice (fa x) (recA l_0 x).Reads.length (fc x)) := box_cell q13 rfl
    have r14 : W1.cell? ⟨rb, 4, none⟩ = some (.int .i64 (recA l_0 x).Changed) := box_cell q13 rfl
    have r15 : W1.cell? ⟨rb, 5, none⟩ = some (.int .i64 (recA l_0 x).Verified) := box_cell q13 rfl
    have r16 : W1.cell? ⟨rb, 6, none⟩ = some (.int .i64 (recA l_0 x).Cost) := box_cell q13 rfl
    have r17 : W1.cell? ⟨rb, 7, none⟩ = some (.bool (recA l_0 x).Dirty) := box_cell q13 rfl
    have hWN1 : Kt No W0 W1 := hN0.step hk1 (fun k hk => .inr (by omega))
    have hT0 : ∀ k, T k → k < W0.heap.size := by rw [hN]; exact hT
    cases hob : openB (recA l_0 x) revision_
    · gi_wp2_with (gi_at_call 26; refine (open_in hC hT0 hWN1 revision_ (hf x) hob).mono ?_; rintro e W2 ⟨rfl, hk2⟩)
      have hkV := hk1.trans hk2.no
      obtain ⟨p1, p2⟩ := post_of hkV hWs (by omega)
      refine ⟨p1, p2, hk.trans hkV, es1, ck1, (hk2.block _ (Array.getElem?_eq_some_iff.1 hm1).1 (fun h => h)).trans hm1, ?_⟩
      rw [List.map_append, List.foldl_append]
      simp only [List.map_cons, List.map_nil, List.foldl_cons, List.foldl_nil, ofStep, hob]
      exact hok1
    · gi_wp2_with (first
        | (gi_at_call 26; refine (open_in hC hT0 hWN1 revision_ (hf x) hob).mono ?_; rintro e W2 ⟨rfl, hk2⟩; obtain ⟨q21, q22, q23⟩ := cells W2 (hk1.trans hk2.no); have r20 : W2.cell? ⟨rb, 0, none⟩ = some (.int .i64 (recA l_0 x).Key.Kind) := box_cell q23 rfl; have r21 : W2.cell? ⟨rb, 1, none⟩ = some (.string (recA l_0 x).Key.Text) := box_cell q23 rfl; have r23 : W2.cell? ⟨rb, 3, none⟩ = some (.slice (fa x) (recA l_0 x).Reads.length (fc x)) := box_cell q23 rfl; have hm2 : W2.heap[N + 1 + 1]? = some (.map es1 ck1) := (hk2.block _ (Array.getElem?_eq_some_iff.1 hm1).1 (fun h => h)).trans hm1)
        | (gi_at_mapUpdate; refine wpListIn_mput rfl _ _ _ _ rfl mp56 kt_KeyD rfl hm2 hok1 (c := [.int .i64 (recA l_0 x).Key.Kind, .string (recA l_0 x).Key.Text]) (key := (recA l_0 x).Key) rfl rfl (cv := [.slice (fa x) (recA l_0 x).Reads.length (fc x)]) rfl ⟨_, rfl, hf x⟩ ?_; intro es3 ck3 W3 hk3 hm3 hok3))
      have hkV := (hk1.trans hk2.no).trans hk3
      obtain ⟨p1, p2⟩ := post_of hkV hWs (by omega)
      refine ⟨p1, p2, hk.trans hkV, es3, ck3, hm3, ?_⟩
      rw [List.map_append, List.foldl_append]
      simp only [List.map_cons, List.map_nil, List.foldl_cons, List.foldl_nil, ofStep, hob]
      exact hok3
  case done =>
    rintro D ys W hD rfl ⟨hk, es, ck, hm, hok⟩ hDf
    rw [downto_map] at hok
    have hWs : w4.heap.size ≤ W.heap.size := hk.size
    have hN0 : Kt No W0 W := ⟨hk.os.trans k4.os, hk.tape.trans k4.tape, hk.output.trans k4.output, by have := k4.size; omega, fun k h1 _ => (hk.block k (by omega) (by omega)).trans (k4.block k (by omega) (fun h => h))⟩
    have hT1 : ∀ k, T k → k < W.heap.size := fun k h => by have := hT k h; omega
    have hTn : ∀ k, N ≤ k → ¬ T k := fun k h h2 => by have := hT k h2; omega
    have q1 : W.cell? ⟨N + 1, 0, none⟩ = some (.int .i64 k_2.Kind) := box_cell ((hk.block (N + 1) (by omega) (by omega)).trans b1) rfl
    have q2 : W.cell? ⟨N + 1, 1, none⟩ = some (.string k_2.Text) := box_cell ((hk.block (N + 1) (by omega) (by omega)).trans b1) rfl
    have hb : (CellsF (N + 1 + 1 + 1) 0 [.map (some (N + 1 + 1))]).p T W := ⟨hTn _ (by omega), by omega, fun j u hu => by
      cases j with
      | zero => cases hu; exact box_cell ((hk.block (N + 1 + 1 + 1) (by omega) (by omega)).trans b3) rfl
      | succ j => simp at hu⟩
    have hmp : MpR R_KeyD true (Rep.slice R_KeyD) false T W (.map (some (N + 1 + 1))) (ofMap revision_ l_0) := ⟨_, es, ck, rfl, hTn _ (by omega), hm, hok.keep hN0.no (Nw.refl _ _)⟩
    have hLv1 : LvP T W := LvF.keep hLv hN0.no (Nw.refl _ _)
    gi_wp2_with (gi_at_call 27; refine (among_in hC hT1 hLv1 hb hmp hM).mono ?_; rintro e W2 ⟨v, cl, rfl, hk2, ho⟩)
    have hD2 : W2.heap[D]? = some (.deferred (some [])) := (hk2.block D (Array.getElem?_eq_some_iff.1 hDf).1 (fun h => h)).trans hDf
    have hkE : Kt No W0 (W2.putObj D (.deferred none)) := ⟨hk2.os.trans hN0.os, hk2.tape.trans hN0.tape, hk2.output.trans hN0.output, by have := hk2.size; simp; omega, fun k h1 _ => (World.putObj_heap_other (by omega)).trans ((hk2.block k (by omega) (fun h => h)).trans (hN0.block k h1 (fun h => h)))⟩
    refine ⟨by simp, .inl ⟨_, _, rfl, run_takeDeferred hD2, ?_⟩⟩
    refine ⟨_, results_tmp rfl _ _ _, ?_⟩
    exact ⟨v, rfl, hkE, v, cl, rfl, ownR_shut ho (by omega) hD2 _⟩
theorem group_Of_c (T : Nat → Prop) (W0 : World) (hT : ∀ k, T k → k < W0.heap.size) (hLv : LvP T W0) (l_0 : List RecordD) (revision_ : Int) (k_2 : KeyD) (v1 : Value) (hv1 : SlR R_RecordD T W0 v1 l_0) (y : List KeyD) (hM : group_Of l_0 revision_ k_2 = some y) :
    Rets Tryd.prog No 13 [v1, .int .i64 revision_, .agg #[.int .i64 k_2.Kind, .string k_2.Text]] W0 (fun v w' => ∃ (v1 : Value) (cl2 : List Value), v = v1 ∧ OwnR R_KeyD T W0 w' [.own v1 32 R_KeyD.size cl2] 32 v1 cl2 y) :=
  (callsIn_wide (n := 3)).1 (of_in Fence.wide trivial trivial trivial trivial trivial rfl (fun h => callsIn_wide.2 h) T W0 hT hLv l_0 revision_ k_2 v1 hv1 y hM)
end Go.Proofs.YtdappapdddnciaaDoor
