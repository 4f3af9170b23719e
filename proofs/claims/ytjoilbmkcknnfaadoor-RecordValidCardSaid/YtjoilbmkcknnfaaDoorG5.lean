/- A frame for walks: slices, calls, the end, ways, loops. -/
import Derived.Test.YtjoilbmkcknnfaaDoorG4
set_option linter.unusedVariables false
set_option linter.unusedSimpArgs false
namespace Go.Proofs.YtjoilbmkcknnfaaDoor
open Go.RowKit

/-- a part of a list, by Go's bounds -/
def subI {α : Type} (xs : List α) (lo hi : Int) : Option (List α) := if 0 ≤ lo ∧ lo ≤ hi ∧ hi ≤ xs.length then some ((xs.take hi.toNat).drop lo.toNat) else none
def subS (s : ByteArray) (lo hi : Int) : Option ByteArray := if 0 ≤ lo ∧ lo ≤ hi ∧ hi ≤ s.size then some (s.extract lo.toNat hi.toNat) else none
/-- there is room for so many -/
def roomB (n : Nat) : Bool := Nat.ble n 4294967296
theorem roomB_le {n : Nat} (h : roomB n = true) : n ≤ 4294967296 := Nat.le_of_ble_eq_true h
/-- a condition that must hold -/
def gd {α : Type} (b : Bool) (x : Option α) : Option α := cond b x none
theorem gd_some {α : Type} {b : Bool} {x : Option α} {y : α} (h : gd b x = some y) : b = true ∧ x = some y := by cases b with
  | true => exact ⟨rfl, h⟩
  | false => cases h
theorem bd {α β : Type} {o : Option α} {k : α → Option β} {y : β} (h : o.bind k = some y) : ∃ u, o = some u ∧ k u = some y := Option.bind_eq_some_iff.1 h
theorem ct {α : Type} {b : Bool} {x y : α} {r : α} (hb : b = true) (h : cond b x y = r) : x = r := by subst hb; exact h
theorem cf {α : Type} {b : Bool} {x y : α} {r : α} (hb : b = false) (h : cond b x y = r) : y = r := by subst hb; exact h
theorem bool2 (b : Bool) : b = true ∨ b = false := by cases b <;> simp
theorem on : ∀ u ∈ ([] : List Value), u.oneCell' = true := fun u hu => by cases hu
theorem oc {v : Value} {l : List Value} (h : v.oneCell' = true) (k : ∀ u ∈ l, u.oneCell' = true) : ∀ u ∈ v :: l, u.oneCell' = true := fun u hu => by
  rcases List.mem_cons.1 hu with rfl | hu
  · exact h
  · exact k u hu

/-! loops -/
inductive Fl (S R : Type) where
  | go (s : S)
  | out (r : R)
def iter {S R : Type} (body : S → Option (Fl S R)) : Nat → S → Option R
  | 0, _ => none
  | n + 1, s => match body s with
    | none => none
    | some (.out r) => some r
    | some (.go s') => iter body n s'
theorem iter_det {S R : Type} {body : S → Option (Fl S R)} : ∀ {n m : Nat} {s : S} {r q : R}, iter body n s = some r → iter body m s = some q → r = q
  | 0, _, _, _, _, h, _ => by cases h
  | _, 0, _, _, _, _, h => by cases h
  | n + 1, m + 1, s, r, q, h, k => by
    simp only [iter] at h k
    cases hb : body s with
    | none => rw [hb] at h; cases h
    | some f =>
      rw [hb] at h k
      cases f with
      | out u => simp only [Option.some.injEq] at h k; rw [← h, ← k]
      | go u => exact iter_det h k
open Classical in
noncomputable def loop {S R : Type} (body : S → Option (Fl S R)) (s : S) : Option R := if h : ∃ r n, iter body n s = some r then some h.choose else none
theorem loop_iff {S R : Type} {body : S → Option (Fl S R)} {s : S} {r : R} : loop body s = some r ↔ ∃ n, iter body n s = some r := by
  unfold loop
  split
  · rename_i h
    obtain ⟨n, hn⟩ := h.choose_spec
    constructor
    · intro e; simp only [Option.some.injEq] at e; rw [← e]; exact ⟨n, hn⟩
    · rintro ⟨m, hm⟩; rw [iter_det hn hm]
  · rename_i h
    constructor
    · intro e; cases e
    · rintro ⟨m, hm⟩; exact absurd ⟨r, m, hm⟩ h
theorem loop_go {S R : Type} {body : S → Option (Fl S R)} {s s' : S} (h : body s = some (.go s')) : loop body s = loop body s' := by
  apply Option.ext
  intro r
  rw [loop_iff, loop_iff]
  constructor
  · rintro ⟨n, hn⟩
    cases n with
    | zero => cases hn
    | succ n => simp only [iter, h] at hn; exact ⟨n, hn⟩
  · rintro ⟨n, hn⟩; exact ⟨n + 1, by simp only [iter, h]; exact hn⟩
theorem loop_out {S R : Type} {body : S → Option (Fl S R)} {s : S} {r : R} (h : body s = some (.out r)) : loop body s = some r := loop_iff.2 ⟨1, by simp only [iter, h]⟩

section
variable {P : Program} {W : World} {M T E : Nat → Prop} {n : Nat} {G G' : List (Nat × Value)} {D D' : List Res} {F F' : List Fact} {a : Act} {w w' : World} {K : Act → World → Prop} {Q : Exit → Act → World → Prop}
theorem wp_lp {S R : Type} {c : Code} (body : S → Option (Fl S R)) (I : S → Act → World → Prop) {s0 : S} {r : R} (hl : loop body s0 = some r) (h0 : I s0 a w)
    (round : ∀ s a w f, I s a w → body s = some f → (∀ u, f = .out u → u = r) → c.wp P (Exit.then (fun a' w' => ∃ s', f = .go s' ∧ I s' a' w') Q) a w) : (Code.loop c).wp P Q a w := by
  obtain ⟨N, hN⟩ := loop_iff.1 hl
  intro b k cs
  have key : ∀ N s a w, iter body N s = some r → I s a w → ∃ e a' w', Q e a' w' ∧ Arrives P (lone (b.at a (.code c :: .inLoop c :: k)) cs w) b k cs e a' w' := by
    intro N
    induction N with
    | zero => intro s a w h; cases h
    | succ N ih =>
      intro s a w h hI
      simp only [iter] at h
      cases hb : body s with
      | none => rw [hb] at h; cases h
      | some f =>
        rw [hb] at h
        obtain ⟨e, a₁, w₁, hq, harr⟩ := round s a w f hI hb (fun u hu => by subst hu; simp only [Option.some.injEq] at h; exact h) b (.inLoop c :: k) cs
        cases e with
        | normal =>
          obtain ⟨s', hf, hI'⟩ := hq
          subst hf
          obtain ⟨e₂, a₂, w₂, hq₂, harr₂⟩ := ih s' a₁ w₁ h hI'
          exact ⟨e₂, a₂, w₂, hq₂, .of_steps (Steps.trans harr (.one step_inLoop)) harr₂⟩
        | exit id => exact ⟨_, a₁, w₁, hq, .pass (x := .inLoop c) rfl (fun _ _ => .inl (by simp)) harr⟩
        | goto l => exact ⟨_, a₁, w₁, hq, .pass (x := .inLoop c) rfl (fun _ _ => .inl (by simp)) harr⟩
        | ret => exact ⟨_, a₁, w₁, hq, .pass (x := .inLoop c) rfl (fun _ _ => .inl (by simp)) harr⟩
        | panic ch => exact ⟨_, a₁, w₁, hq, .pass (x := .inLoop c) rfl (fun _ _ => .inl (by simp)) harr⟩
        | outgrown => exact ⟨_, a₁, w₁, hq, .pass (x := .inLoop c) rfl (fun _ _ => .inl (by simp)) harr⟩
  obtain ⟨e, a', w', hq, harr⟩ := key N s0 a w hN h0
  exact ⟨e, a', w', hq, .of_steps (.one step_loop) harr⟩
theorem seq_j {x y : Code} (J : Act → World → Prop) (h1 : x.wp P (Exit.then J Q) a w) (h2 : ∀ a w, J a w → y.wp P Q a w) : (Code.seq x y).wp P Q a w :=
  wp_seq (wp_mono h1 fun e a w h => by cases e <;> first | exact h2 a w h | exact h)
/-- ways through a block meet behind it -/
theorem blk_j {id : Nat} {c : Code} {Kx : Act → World → Prop} (J : Act → World → Prop) (h1 : c.wp P (Exit.inBlock id (Exit.then J Q)) a w) (h2 : ∀ a w, J a w → Kx a w) : (Code.block id c).wp P (Exit.then Kx Q) a w :=
  wp_block (wp_mono h1 fun e a w h => by
    cases e <;> first
      | exact h2 a w h
      | exact h
      | (rename_i i
         simp only [Exit.inBlock] at h ⊢
         split
         · rename_i hi; rw [if_pos hi] at h; exact h2 a w h
         · rename_i hi; rw [if_neg hi] at h; exact h))
theorem c_t {c : Operand} {x y : Code} {b : Bool} (hS : St W M T n G D F a w) (hc : ev G c = some (.bool b)) (hb : b = true) (h : x.wp P Q a w) : (Code.cond c x y).wp P Q a w := wp_cond_true (by rw [hS.ev hc, hb]) h
theorem c_f {c : Operand} {x y : Code} {b : Bool} (hS : St W M T n G D F a w) (hc : ev G c = some (.bool b)) (hb : b = false) (h : y.wp P Q a w) : (Code.cond c x y).wp P Q a w := wp_cond_false (by rw [hS.ev hc, hb]) h
theorem r_list {id : Nat} {l : List Oper} (h : wpList P l.toArray Q l a w) : (Code.region id l.toArray false).wp P Q a w := wp_region_lit h

/-- results -/
def ResOk (P : Program) (a : Act) (w : World) : List ResultVar → List Value → Prop
  | [], [] => True
  | .tmp t :: r, v :: vs => a.tmps.getD t undef = v ∧ ResOk P a w r vs
  | .cell c t :: r, v :: vs => (∃ p, a.tmps.getD c undef = .pointer (some p) ∧ (loadVar t p).run P w = .ok v w) ∧ ResOk P a w r vs
  | _, _ => False
def retV : List Value → Value
  | [v] => v
  | vs => .tuple vs.toArray
def rvOf (tmps : Array Value) : ResultVar → Sem Value
  | .tmp t => pure (tmps.getD t undef)
  | .cell c t => do loadVar t (← asAddr (tmps.getD c undef))
theorem res_run : ∀ {rs : List ResultVar} {vs : List Value}, ResOk P a w rs vs → (rs.mapM (rvOf a.tmps)).run P w = .ok vs w
  | [], [], _ => by simp
  | [], v :: vs, h => h.elim
  | .tmp t :: r, [], h => h.elim
  | .cell c t :: r, [], h => h.elim
  | .tmp t :: r, v :: vs, h => by
    obtain ⟨h1, h2⟩ := h
    have hA : (rvOf a.tmps (.tmp t)).run P w = .ok v w := by
      show (pure (a.tmps.getD t undef) : Sem Value).run P w = _
      rw [h1]; rfl
    rw [List.mapM_cons, Sem.run_bind, hA, Result.andThen_ok, Sem.run_bind, res_run h2]; rfl
  | .cell c t :: r, v :: vs, h => by
    obtain ⟨⟨p, h0, h1⟩, h2⟩ := h
    have hA : (rvOf a.tmps (.cell c t)).run P w = .ok v w := by
      unfold rvOf
      simp only
      have : (asAddr (a.tmps.getD c undef)).run P w = .ok p w := by rw [h0]; rfl
      rw [Sem.run_bind, this, Result.andThen_ok, h1]
    rw [List.mapM_cons, Sem.run_bind, hA, Result.andThen_ok, Sem.run_bind, res_run h2]; rfl
theorem results_rv (fn : Func) (tmps : Array Value) : results fn tmps = (do
    let vs ← fn.results.mapM (rvOf tmps)
    pure (if h : vs.size = 1 then vs[0] else .tuple vs)) := rfl
theorem ret_ok {fn : Func} {R : Value → World → Prop} {rs : List ResultVar} {vs : List Value} (hS : St W M T n G D F a w) (hr : fn.results = rs.toArray) (h : ResOk P a w rs vs) (hR : R (retV vs) w) : bodyPost P fn (Ret M W R) .ret a w := by
  refine ⟨hS.defers, retV vs, ?_, retV vs, rfl, hS.base, hR⟩
  have h1 := res_run h
  rw [results_rv, hr, Array.mapM_eq_mapM_toList, Sem.run_bind, Sem.run_map, h1]
  cases vs with
  | nil => rfl
  | cons v r =>
    cases r with
    | nil => rfl
    | cons u s =>
      show Sem.run P (pure (if h : (u :: s).length + 1 = 1 then _ else _)) w = _
      rw [dif_neg (by simp)]
      rfl
theorem res_nil : ResOk P a w [] [] := trivial
theorem res_tmp {t : Nat} {v : Value} {r : List ResultVar} {vs : List Value} (hS : St W M T n G D F a w) (hv : lk G t = some v) (h : ResOk P a w r vs) : ResOk P a w (.tmp t :: r) (v :: vs) :=
  ⟨by have := hS.slots t v hv; simp [Array.getD_eq_getD_getElem?, this], h⟩
theorem res_cell {c : Nat} {t : TypeId} {b : Nat} {cs : List Value} {bt : TypeId} {ag : Bool} {z : Nat} {r : List ResultVar} {vs : List Value} (hS : St W M T n G D F a w) (hv : lk G c = some (.pointer (some ⟨b, 0, none⟩))) (i : Nat) (hi : D[i]? = some (.box b cs bt)) (ht : tyI P t = some (ag, z)) (hl : cs.length = z) (hz : ag = false → z = 1) (h : ResOk P a w r vs) : ResOk P a w (.cell c t :: r) (valOf ag cs :: vs) := by
  have hr : w.heap[b]? = some (.cells cs.toArray bt (0, 0)) := hS.own _ (List.mem_of_getElem? hi)
  refine ⟨⟨⟨b, 0, none⟩, by have := hS.slots c _ hv; simp [Array.getD_eq_getD_getElem?, this], ?_⟩, h⟩
  exact run_loadV ht hl rfl hz w (fun j u hj => by rw [cell_of_row _ _ _ _ _ _ hr, List.getElem?_toArray, Nat.zero_add]; exact hj)

/-- new rows, behind a step that keeps all -/
theorem St.adds (h : St W M T n G D F a w) (k : Kt No w w') : ∀ (rs : List Res), (∀ r ∈ rs, r.ok w' ∧ ∀ k, r.dom = some k → w.heap.size ≤ k) → (rs.Pairwise fun r s => ∀ k, r.dom = some k → s.dom ≠ some k) → St W M T n G (rs ++ D) F a w'
  | [], _, _ => h.later k
  | r :: rs, hr, hp => by
    obtain ⟨hp1, hp2⟩ := List.pairwise_cons.1 hp
    have ih := St.adds h k rs (fun s hs => hr s (List.mem_cons_of_mem _ hs)) hp2
    obtain ⟨q1, q2⟩ := hr r List.mem_cons_self
    refine ⟨ih.size, ih.defers, ih.slots, ih.base, ?_, ?_, ?_, fun f hf => f.keep (h.facts f hf) k.no (fun j hj => ?_), ih.tlt⟩
    · intro s hs
      rcases List.mem_cons.1 hs with rfl | hs
      · exact q1
      · exact ih.own s hs
    · intro s hs j hj
      rcases List.mem_cons.1 hs with rfl | hs
      · have := q2 j hj
        refine ⟨fun ht => ?_, .inr ?_⟩
        · have := h.tlt j ht; omega
        · have := h.base.size; omega
      · exact ih.free s hs j hj
    · refine List.pairwise_cons.2 ⟨fun s hs j hj hj2 => ?_, ih.apart⟩
      rcases List.mem_append.1 hs with hs | hs
      · exact hp1 s hs j hj hj2
      · have := q2 j hj
        have := Res.lt (h.own s hs) j hj2
        omega
    · rcases hj with hj | ⟨s, hs, hj⟩
      · exact .inl (.inl hj)
      · rcases List.mem_cons.1 hs with rfl | hs
        · exact .inr (q2 j hj)
        · rcases List.mem_append.1 hs with hs | hs
          · exact .inr ((hr s (List.mem_cons_of_mem _ hs)).2 j hj)
          · exact .inl (.inr ⟨s, hs, hj⟩)
theorem adds1 {w0 : World} {r : Res} (h : r.ok w') (hf : ∀ k, r.dom = some k → w0.heap.size ≤ k) : ∀ s ∈ [r], s.ok w' ∧ ∀ k, s.dom = some k → w0.heap.size ≤ k := fun s hs => by
  rw [List.mem_singleton] at hs; subst hs; exact ⟨h, hf⟩
theorem adds2 {w0 : World} {r s : Res} (h : r.ok w') (hf : ∀ k, r.dom = some k → w0.heap.size ≤ k) (h2 : s.ok w') (hf2 : ∀ k, s.dom = some k → w0.heap.size ≤ k) : ∀ q ∈ [r, s], q.ok w' ∧ ∀ k, q.dom = some k → w0.heap.size ≤ k := fun q hq => by
  simp only [List.mem_cons, List.not_mem_nil, or_false] at hq
  rcases hq with rfl | rfl
  · exact ⟨h, hf⟩
  · exact ⟨h2, hf2⟩
theorem pw1 (r : Res) : [r].Pairwise fun r s => ∀ k, r.dom = some k → s.dom ≠ some k := List.pairwise_singleton _ _
theorem pw2 {r s : Res} (h : ∀ k, r.dom = some k → s.dom ≠ some k) : [r, s].Pairwise fun r s => ∀ k, r.dom = some k → s.dom ≠ some k := by
  simp only [List.pairwise_cons, List.mem_singleton, forall_eq, List.not_mem_nil, false_implies, implies_true, List.Pairwise.nil, and_true]
  exact h
theorem dT_dT {T : Nat → Prop} {D rs : List Res} (w : World) : Nw (dT (dT T D) rs) (dT T (rs ++ D)) w := fun k hk => .inl (by
  rcases hk with hk | ⟨r, hr, hk⟩
  · exact .inl (.inl hk)
  · rcases List.mem_append.1 hr with hr | hr
    · exact .inr ⟨r, hr, hk⟩
    · exact .inl (.inr ⟨r, hr, hk⟩))
/-- what is kept, at a place where ways meet -/
def SubF (F : List Fact) : List Fact → Prop
  | [] => True
  | f :: r => (∃ i : Nat, F[i]? = some f) ∧ SubF F r
theorem SubF.mem {F : List Fact} : ∀ {F' : List Fact}, SubF F F' → ∀ f ∈ F', f ∈ F
  | [], _, f, hf => by cases hf
  | g :: r, h, f, hf => by
    rcases List.mem_cons.1 hf with rfl | hf
    · obtain ⟨⟨i, hi⟩, _⟩ := h; exact List.mem_of_getElem? hi
    · exact SubF.mem h.2 f hf
def SubD (D : List Res) : List Nat → List Res → Prop
  | [], [] => True
  | i :: r, d :: s => D[i]? = some d ∧ SubD D r s
  | _, _ => False
theorem SubD.get {D : List Res} : ∀ {is : List Nat} {D' : List Res}, SubD D is D' → ∀ d ∈ D', ∃ i ∈ is, D[i]? = some d
  | [], [], _, d, hd => by cases hd
  | [], _ :: _, h, _, _ => h.elim
  | _ :: _, [], h, _, _ => h.elim
  | i :: r, e :: s, h, d, hd => by
    rcases List.mem_cons.1 hd with rfl | hd
    · exact ⟨i, List.mem_cons_self, h.1⟩
    · obtain ⟨j, hj, h2⟩ := SubD.get h.2 d hd; exact ⟨j, List.mem_cons_of_mem _ hj, h2⟩
theorem SubD.pw {D : List Res} (hp : D.Pairwise fun r s => ∀ k, r.dom = some k → s.dom ≠ some k) : ∀ {is : List Nat} {D' : List Res}, SubD D is D' → is.Nodup → D'.Pairwise fun r s => ∀ k, r.dom = some k → s.dom ≠ some k
  | [], [], _, _ => List.Pairwise.nil
  | [], _ :: _, h, _ => h.elim
  | _ :: _, [], h, _ => h.elim
  | i :: r, e :: s, h, hn => by
    obtain ⟨n1, n2⟩ := List.nodup_cons.1 hn
    refine List.pairwise_cons.2 ⟨fun d hd k hk hk2 => ?_, SubD.pw hp h.2 n2⟩
    obtain ⟨j, hj, h2⟩ := SubD.get h.2 d hd
    have hij : i ≠ j := fun e => n1 (e ▸ hj)
    obtain ⟨l1, e1⟩ := List.getElem?_eq_some_iff.1 h.1
    obtain ⟨l2, e2⟩ := List.getElem?_eq_some_iff.1 h2
    rcases Nat.lt_or_gt_of_ne hij with hlt | hlt
    · exact List.pairwise_iff_getElem.1 hp i j l1 l2 hlt k (by rw [e1]; exact hk) (by rw [e2]; exact hk2)
    · exact List.pairwise_iff_getElem.1 hp j i l2 l1 hlt k (by rw [e2]; exact hk2) (by rw [e1]; exact hk)
theorem St.meet (h : St W M T n G D F a w) (is : List Nat) (hn : is.Nodup) (hG : Sub G G') (hD : SubD D is D') (hF : SubF F F') : St W M T n G' D' F' a w :=
  ((h.slot hG).sel hF.mem).res (fun r hr => by obtain ⟨i, _, hi⟩ := hD.get r hr; exact List.mem_of_getElem? hi) (hD.pw h.apart hn)
theorem nt {b : Bool} (h : b = true) : (!b) = false := by rw [h]; rfl
theorem nf {b : Bool} (h : b = false) : (!b) = true := by rw [h]; rfl
def Fl.el {S R α : Type} (f : Fl S R) (g : S → α) (h : R → α) : α := match f with
  | .go s => g s
  | .out r => h r
theorem el_go {S R α : Type} {s : S} {g : S → α} {h : R → α} {r : α} (e : Fl.el (.go s) g h = r) : g s = r := e
theorem el_out {S R α : Type} {s : R} {g : S → α} {h : R → α} {r : α} (e : Fl.el (.out s) g h = r) : h s = r := e

/-- a call -/
def callI (P : Program) (f : Nat) : Bool := match P.funcs[f]? with
  | some fn => !(fn.name == "runtime.NumGoroutine") && fn.body.isSome
  | none => false
theorem call_run {f : Nat} (hf : callI P f = true) (args : Array Value) (w : World) : (callFunc f args).run P w = .ok (.enter f args) w := by
  unfold callI at hf
  split at hf
  · rename_i fn hfn
    simp only [Bool.and_eq_true, Bool.not_eq_true'] at hf
    obtain ⟨b, hb⟩ := Option.isSome_iff_exists.1 hf.2
    have h1 : ¬ (fn.name == "runtime.NumGoroutine") = true := by rw [hf.1]; simp
    simp [callFunc, hfn, hb, h1]
    simpa using h1
  · cases hf
theorem k_callF {o : Oper} {x : Operand} {args : Array Operand} {tys : Array TypeId} {f : Nat} {vs cap : List Value} {R : Value → World → Prop} {M' : Nat → Prop} (ho : o.op = .call { callee := .value x, args := args, argTypes := tys }) (hS : St W M T n G D F a w) (hx : ev G x = some (.func (.func f) #[] cap.toArray)) (hf : callI P f = true) (hargs : evs G args.toList = some vs) (hc : Rets P M' f (vs ++ cap) w R)
    (k : ∀ v w', Kt M' w w' → R v w' → K (a.put o.dst v) w') : OpK P o a w K := fun K' Q hK => by
  have h1 : (args.map a.eval) = vs.toArray := by
    apply Array.toList_inj.1
    rw [Array.toList_map, hS.evs hargs]
  have hr : (execOp a.eval o).run P w = .ok (.enter f (vs ++ cap).toArray) w := by
    simp [execOp, ho, resolve, hS.ev hx, Deferred.ofValue, invoke, h1, call_run hf]
  unfold Oper.wp
  rw [hr, Oper.upon_enter]
  exact Calls.mono hc fun e w' ⟨v, h1, h2, h3⟩ => by subst h1; exact hK _ _ (k v w' h2 h3)
/-- a function of the program -/
theorem k_call {d : Nat} {ty : TypeId} {pos : String} {af : Array Edge} {g : Option (Nat × Bool)} {args : Array Operand} {tys : Array TypeId} {f : Nat} {vs : List Value} {R : Value → World → Prop} (hS : St W M T n G D F a w) (hf : callI P f = true) (hargs : evs G args.toList = some vs) (hn : Nat.blt d n = true) (hc : Rets P No f vs w R)
    (k : ∀ v w', R v w' → ∀ a, Kt No w w' → (∀ rs : List Res, (∀ r ∈ rs, r.ok w' ∧ ∀ k, r.dom = some k → w.heap.size ≤ k) → (rs.Pairwise fun r s => ∀ k, r.dom = some k → s.dom ≠ some k) → St W M T n ((d, v) :: G) (rs ++ D) F a w') → K a w') : OpK P ⟨some d, .call { callee := .value (.func f), args := args, argTypes := tys }, ty, pos, af, g⟩ a w K :=
  k_callF (cap := []) rfl hS rfl hf hargs (by rw [List.append_nil]; exact hc) fun v w' hk hr => k v w' hr _ hk (fun rs h1 h2 => (hS.adds hk rs h1 h2).put hn v)
/-- a function that is called by its value -/
theorem k_callv {d : Nat} {ty : TypeId} {pos : String} {af : Array Edge} {g : Option (Nat × Bool)} {x : Operand} {args : Array Operand} {tys : Array TypeId} {f : Nat} {vs cap : List Value} {R : Value → World → Prop} (hS : St W M T n G D F a w) (hx : ev G x = some (.func (.func f) #[] cap.toArray)) (hf : callI P f = true) (hargs : evs G args.toList = some vs) (hn : Nat.blt d n = true) (hc : Rets P No f (vs ++ cap) w R)
    (k : ∀ v w', R v w' → ∀ a, Kt No w w' → (∀ rs : List Res, (∀ r ∈ rs, r.ok w' ∧ ∀ k, r.dom = some k → w.heap.size ≤ k) → (rs.Pairwise fun r s => ∀ k, r.dom = some k → s.dom ≠ some k) → St W M T n ((d, v) :: G) (rs ++ D) F a w') → K a w') : OpK P ⟨some d, .call { callee := .value x, args := args, argTypes := tys }, ty, pos, af, g⟩ a w K :=
  k_callF rfl hS hx hf hargs hc fun v w' hk hr => k v w' hr _ hk (fun rs h1 h2 => (hS.adds hk rs h1 h2).put hn v)
/-- a call that turns one variable -/
theorem k_callm {d : Nat} {ty : TypeId} {pos : String} {af : Array Edge} {g : Option (Nat × Bool)} {args : Array Operand} {tys : Array TypeId} {f : Nat} {vs : List Value} {R : Value → World → Prop} {b : Nat} {cs : List Value} {bt : TypeId} (hS : St W M T n G D F a w) (hf : callI P f = true) (hargs : evs G args.toList = some vs) (hn : Nat.blt d n = true) (i : Nat) (hi : D[i]? = some (.box b cs bt)) (hc : Rets P (fun k => k = b) f vs w R)
    (k : ∀ v w', R v w' → Kt (fun k => k = b) w w' → ∃ cs', w'.heap[b]? = some (.cells cs'.toArray bt (0, 0)) ∧ ∀ a, St W M T n ((d, v) :: G) (D.set i (.box b cs' bt)) F a w' → K a w') : OpK P ⟨some d, .call { callee := .value (.func f), args := args, argTypes := tys }, ty, pos, af, g⟩ a w K :=
  k_callF (cap := []) rfl hS rfl hf hargs (by rw [List.append_nil]; exact hc) fun v w' hk hr => by
    obtain ⟨cs', h1, h2⟩ := k v w' hr hk
    exact h2 _ ((hS.turn hi (hk.mono fun j hj => by simp [Res.dom, hj]) (r' := .box b cs' bt) h1 (fun j hj => .inl hj)).put hn v)
/-- an element's address -/
theorem run_indexAt {t e : TypeId} {z b o m c : Nat} {k : IntKind} {i : Int} (ht : isSl P t = some e) {ag : Bool} (he : tyI P e = some (ag, z)) (h0 : 0 ≤ i) (h1 : i < m) (w : World) : (Instr.indexAt t (.slice (some ⟨b, o, none⟩) m c) (.int k i)).run P w = .ok (.pointer (some ⟨b, o + i.toNat * z, none⟩)) w := by
  simp [Instr.indexAt, asIntOf, run_underlying (isSl_und ht), h0, h1, run_size he, addr_add]
theorem k_index {α : Type} {R : Rep α} {xs : List α} {x : α} {d : Nat} {t e ty : TypeId} {X Y : Operand} {pos : String} {af : Array Edge} {g : Option (Nat × Bool)} {v : Value} {k : IntKind} {i : Int} {ag : Bool} (hS : St W M T n G D F a w) (ht : isSl P t = some e) (he : tyI P e = some (ag, R.size)) (hX : ev G X = some v) (hY : ev G Y = some (.int k i)) (j : Nat) (hj : F[j]? = some (SlF R v xs)) (hg : getI xs i = some x) (hn : Nat.blt d n = true)
    (K' : ∀ b o cs, R.rel (dT T D) w cs x → ∀ a, St W M T n ((d, .pointer (some ⟨b, o, none⟩)) :: G) D (CellsF b o cs :: F) a w → K a w) : OpK P ⟨some d, .indexAddr t X Y, ty, pos, af, g⟩ a w K := by
  obtain ⟨b, o, c, rfl, _, cs, h1, h2⟩ := SlR.get (hS.get j hj : SlR R (dT T D) w v xs) hg
  obtain ⟨q1, q2, _⟩ := getI_some hg
  have hr : (execOp a.eval ⟨some d, .indexAddr t X Y, ty, pos, af, g⟩).run P w = .ok (.value (.pointer (some ⟨b, o + i.toNat * R.size, none⟩))) w := by simp [execOp, hS.ev hX, hS.ev hY, run_indexAt ht he q1 q2]
  exact kval hr (K' b _ cs h1 _ ((hS.put hn _).fact (CellsF b _ cs) h2))
/-- the same, in a region that draws -/
theorem d_index {α : Type} {R : Rep α} {xs : List α} {x : α} {e t : TypeId} {v : Value} {i : Int} {ag : Bool} (hS : St W M T n G D F a w) (ht : isSl P t = some e) (he : tyI P e = some (ag, R.size)) (j : Nat) (hj : F[j]? = some (SlF R v xs)) (hg : getI xs i = some x) :
    ∃ b o cs, R.rel (dT T D) w cs x ∧ (∀ {E : Nat → Prop} {d : Option Nat} {ty : TypeId} {X Y : Operand} {pos : String} {af : Array Edge} {g : Option (Nat × Bool)} {k : IntKind}, ev G X = some v → ev G Y = some (.int k i) → Ye P ⟨d, .indexAddr t X Y, ty, pos, af, g⟩ a E w (.pointer (some ⟨b, o, none⟩))) ∧ St W M T n G D (CellsF b o cs :: F) a w := by
  obtain ⟨b, o, c, rfl, _, cs, h1, h2⟩ := SlR.get (hS.get j hj : SlR R (dT T D) w v xs) hg
  obtain ⟨q1, q2, _⟩ := getI_some hg
  refine ⟨b, _, cs, h1, fun hX hY => Ye.of fun w => by simp [execOp, hS.ev hX, hS.ev hY, run_indexAt ht he q1 q2], hS.fact (CellsF b _ cs) h2⟩
end
end Go.Proofs.YtjoilbmkcknnfaaDoor
