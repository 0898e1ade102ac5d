/-
  X: plans for regions that draw their order. What asks nothing of the memory and turns nothing of it (moves, sums, what is read of lists that came in, calls that answer the same over any memory) may be taken first.
-/
import Derived.Test.YtmpeghcilhcpjaaXB
namespace Go.Proofs.Ytmpeghcilhcpjaa.X
set_option linter.unusedSimpArgs false
set_option linter.unusedVariables false
section
variable {P : Program} {ops : Array Oper} {r r' : Regs} {h h' : Heap} {K : Regs → Heap → Prop}

/-- Answers v over any memory. -/
def FreeX (P : Program) (r : Regs) (op : Op) (v : AV) : Prop :=
  (calleeX r op = none ∧ ∀ h, opB P r h op = some (v, h)) ∨ ∃ g vs, calleeX r op = some (some (g, vs)) ∧ ∀ h, CSem P g vs h fun x h' => x = v ∧ h' = h
theorem FreeX.wpO {o : Oper} {v : AV} (hf : FreeX P r o.op v) {K : Regs → Heap → Prop} (hk : K (dputX r o.dst v) h) : wpO P o K r h := by
  unfold X.wpO
  rcases hf with ⟨h1, h2⟩ | ⟨g, vs, h1, h2⟩
  · rw [h1]; exact ⟨v, h, h2 h, hk⟩
  · rw [h1]; exact (h2 h).mono (by rintro x h' ⟨rfl, rfl⟩; exact hk)
theorem FreeX.congr {op : Op} {v : AV} (hx : ∀ x ∈ op.operands, evalX r x = evalX r' x) (hf : FreeX P r' op v) : FreeX P r op v := by
  rcases hf with ⟨h1, h2⟩ | ⟨g, vs, h1, h2⟩
  · exact .inl ⟨by rw [calleeX_congr hx, h1], fun h => by rw [opB_congr hx, h2]⟩
  · exact .inr ⟨g, vs, by rw [calleeX_congr hx, h1], h2⟩
theorem wpO_at {o : Oper} (hx : ∀ x ∈ o.op.operands, evalX r x = evalX r' x) {K K' : Regs → Heap → Prop} (hk : ∀ x h', K' (dputX r' o.dst x) h' → K (dputX r o.dst x) h') (hw : wpO P o K' r' h) : wpO P o K r h := by
  unfold wpO at hw ⊢
  rw [calleeX_congr hx]
  split at hw
  · exact hw.mono fun x h' k => hk _ _ k
  · exact hw.elim
  · obtain ⟨x, h', hx', k⟩ := hw
    rw [opB_congr hx]
    exact ⟨x, h', hx', hk _ _ k⟩
def passC (ops : Array Oper) (oi oj : Oper) (i : Nat) : Bool :=
  oj.after.any (fun e => Region.binds .any e && e.on == i) || oi.apart ops oj
def takeC (ops : Array Oper) (listed : Array Bool) (i : Nat) : Bool :=
  match ops[i]? with
  | none => false
  | some oi => oi.guard.isNone && (List.range ops.size).all fun j => j == i || listed.getD j true || match ops[j]? with
      | some oj => passC ops oi oj i
      | none => true
theorem wpAnyX_free {i : Nat} {oi : Oper} {v : AV} (hi : ops[i]? = some oi) (hg : oi.guard = none) :
    ∀ (f : Nat) (listed : Array Bool) (r : Regs) (h : Heap),
      (∀ j oj, ops[j]? = some oj → j ≠ i → listed.getD j true = false → passC ops oi oj i = true) →
      i ∈ Region.ready .any ops listed → FreeX P r oi.op v →
      wpAnyX P ops K f (listed.setIfInBounds i true) (dputX r oi.dst v) h → wpAnyX P ops K (f + 1) listed r h := by
  have here : ∀ (f : Nat) (listed : Array Bool) (r : Regs) (h : Heap), FreeX P r oi.op v → wpAnyX P ops K f (listed.setIfInBounds i true) (dputX r oi.dst v) h →
      anyI P ops K f (listed.setIfInBounds i true) ops[i]? r h := by
    intro f listed r h hv H
    rw [hi]
    exact ⟨true, by simp [wantedX, hg], fun _ => hv.wpO H, fun e => by cases e⟩
  intro f
  induction f with
  | zero =>
    intro listed r h _ hr hv H
    refine ⟨fun e => (by rw [e] at hr; cases hr), fun j hj => ?_⟩
    by_cases hji : j = i
    · subst hji; exact here _ _ _ _ hv H
    · have := ready_mono hj hji
      rw [H.1] at this
      cases this
  | succ f ih =>
    intro listed r h hfree hr hv H
    refine ⟨fun e => (by rw [e] at hr; cases hr), fun j hj => ?_⟩
    by_cases hji : j = i
    · subst hji; exact here _ _ _ _ hv H
    · obtain ⟨hjun, oj, hoj, hall⟩ := mem_ready.1 hj
      have hpass := hfree j oj hoj hji hjun
      unfold passC at hpass
      simp only [Bool.or_eq_true, Bool.and_eq_true, List.any_eq_true, Array.any_eq_true', beq_iff_eq] at hpass
      have hnot : ¬ ∃ e, e ∈ oj.after ∧ Region.binds .any e = true ∧ e.on = i := by
        rintro ⟨e, he, hb, heq⟩
        have h1 := hall e he hb
        have h0 := (mem_ready.1 hr).1
        rw [heq] at h1
        rcases Nat.lt_or_ge i listed.size with h' | h'
        · simp [h'] at h0 h1; rw [h0] at h1; cases h1
        · simp [Array.getElem?_eq_none h'] at h1
      have hap := hpass.resolve_left hnot
      obtain ⟨a1, a2, a3⟩ := Oper.apart_spec hap
      have h1 := H.2 j (ready_mono hj hji)
      rw [hoj] at h1 ⊢
      obtain ⟨b, hb, k1, k2⟩ := h1
      rw [wantedX_put a1] at hb
      have hfree' : ∀ k ok, ops[k]? = some ok → k ≠ i → (listed.setIfInBounds j true).getD k true = false → passC ops oi ok i = true := fun k ok hk hki hun => by
        refine hfree k ok hk hki ?_
        by_cases hjk : j = k
        · subst hjk; exact hjun
        · rw [getD_set_ne true hjk] at hun; exact hun
      have hops : ∀ x ∈ oj.op.operands, evalX (dputX r oi.dst v) x = evalX r x := operands_put a1
      have next : ∀ (x : AV) (h' : Heap), wpAnyX P ops K f ((listed.setIfInBounds i true).setIfInBounds j true) (dputX (dputX r oi.dst v) oj.dst x) h' →
          wpAnyX P ops K (f + 1) (listed.setIfInBounds j true) (dputX r oj.dst x) h' := by
        intro x h' H'
        refine ih (listed.setIfInBounds j true) (dputX r oj.dst x) h' hfree' (ready_mono hr (Ne.symm hji)) (hv.congr (operands_put a3)) ?_
        rw [Array.setIfInBounds_comm _ _ hji, dputX_comm r v x a2] at *
        exact H'
      exact ⟨b, hb, fun hbt => wpO_at (fun x hx => (hops x hx).symm) (fun x h' k => next x h' k) (k1 hbt), fun hbf => next _ h (k2 hbf)⟩

/-- One operation that is taken first: what is asked of it. -/
def loadF (P : Program) (t : TypeId) (a : AV) : Option AV := match a with
  | .ipt xs => loadX P Heap.empty t (.ipt xs)
  | _ => none
theorem loadF_ok {t : TypeId} {a v : AV} (e : loadF P t a = some v) (h : Heap) : loadX P h t a = some v := by
  unfold loadF at e
  split at e
  · rw [← e]; rfl
  · cases e
/-- A call that answers x over any memory. -/
def FCall (P : Program) (g : FuncId) (vs : List AV) (K : AV → Prop) (_ : Tg K := .mk) : Prop := ∃ x, (∀ h, CSem P g vs h fun x' h' => x' = x ∧ h' = h) ∧ K x
theorem FCall.use {g : FuncId} {vs : List AV} {x : AV} {K : AV → Prop} (hq : ∀ h, CSem P g vs h fun x' h' => x' = x ∧ h' = h) (hk : K x) : FCall P g vs K := ⟨x, hq, hk⟩
@[congr] theorem FCall_congr {g : FuncId} {vs vs' : List AV} {K : AV → Prop} (e1 : vs = vs') : FCall P g vs K = FCall P g vs' K := by rw [e1]
def fI (P : Program) (op : Op) (dst : Option Tmp) (K : Regs → Heap → Prop) (r : Regs) (h : Heap) : Prop := match op with
  | .load t x => Has (evalX r x) fun a => Has (loadF P t a) fun v => K (dputX r dst v) h
  | .call ⟨.value (.func g), args, _⟩ => Has (evalsX r args.toList) fun vs => FCall P g vs fun x => K (dputX r dst x) h
  | op => regOnly op = true ∧ wpI P op dst K r h
theorem fI_free {op : Op} {dst : Option Tmp} {K : Regs → Heap → Prop} (hf : fI P op dst K r h) : ∃ v, FreeX P r op v ∧ K (dputX r dst v) h := by
  unfold fI at hf
  split at hf
  · obtain ⟨a, ha, v, hv, hk⟩ := hf
    exact ⟨v, .inl ⟨rfl, fun h => by simp only [opB, ha, Option.bind_some, loadF_ok hv h, Option.map_some]⟩, hk⟩
  · obtain ⟨vs, hvs, x, hx, hk⟩ := hf
    exact ⟨x, .inr ⟨_, vs, by simp only [calleeX, evalX, hvs]; simp, hx⟩, hk⟩
  · obtain ⟨hr, hw⟩ := hf
    unfold wpI at hw
    rw [regOnly_callee hr] at hw
    obtain ⟨v, h', e, hk⟩ := hw
    obtain ⟨rfl, h2⟩ := regOnly_ok hr e
    exact ⟨v, .inl ⟨regOnly_callee hr, h2⟩, hk⟩
@[congr] theorem fI_congr {op : Op} {dst : Option Tmp} (e1 : r = r') (e2 : h = h') : fI P op dst K r h = fI P op dst K r' h' := by rw [e1, e2]
/-- The operations of a plan, one behind the other. -/
def wpPl (P : Program) (ops : Array Oper) (K : Regs → Heap → Prop) : List (Bool × Oper) → Regs → Heap → Prop
  | [], r, h => K r h
  | (true, o) :: l, r, h => fI P o.op o.dst (wpPl P ops K l) r h
  | (false, o) :: l, r, h => ∃ b, wantedX ops r o = some b ∧ (b = true → wpO P o (wpPl P ops K l) r h) ∧ (b = false → wpPl P ops K l (dputX r o.dst (.tup [])) h)
@[congr] theorem wpPl_congr {l : List (Bool × Oper)} (e1 : r = r') (e2 : h = h') : wpPl P ops K l r h = wpPl P ops K l r' h' := by rw [e1, e2]
def planC (ops : Array Oper) : List (Bool × Nat) → Array Bool → Bool
  | [], listed => (Region.ready .any ops listed).isEmpty
  | (false, i) :: l, listed => (Region.ready .any ops listed == [i]) && planC ops l (listed.setIfInBounds i true)
  | (true, i) :: l, listed => takeC ops listed i && (Region.ready .any ops listed).contains i && planC ops l (listed.setIfInBounds i true)
def planL (ops : Array Oper) (σ : List (Bool × Nat)) : List (Bool × Oper) := σ.filterMap fun p => (ops[p.2]?).map fun o => (p.1, o)
theorem planC_ok : ∀ (l : List (Bool × Nat)) (listed : Array Bool) (r : Regs) (h : Heap), planC ops l listed = true → wpPl P ops K (planL ops l) r h → wpAnyX P ops K l.length listed r h := by
  intro l
  induction l with
  | nil =>
    intro listed r h hp hw
    simp only [planC, List.isEmpty_iff] at hp
    exact ⟨hp, hw⟩
  | cons p l ih =>
    intro listed r h hp hw
    obtain ⟨b, i⟩ := p
    cases b with
    | false =>
      simp only [planC, Bool.and_eq_true, beq_iff_eq] at hp
      have ih' := fun r h => ih (listed.setIfInBounds i true) r h hp.2
      have hm : i ∈ Region.ready .any ops listed := by rw [hp.1]; simp
      obtain ⟨_, o, ho, _⟩ := mem_ready.1 hm
      simp only [planL, List.filterMap_cons, ho, Option.map_some] at hw
      obtain ⟨b, hb, k1, k2⟩ := hw
      refine wpAnyX_step [i] hp.1 (by simp) fun j hj => ?_
      simp at hj
      subst hj
      rw [ho]
      exact ⟨b, hb, fun hbt => wpO_mono ih' (k1 hbt), fun hbf => ih' _ _ (k2 hbf)⟩
    | true =>
      simp only [planC, Bool.and_eq_true] at hp
      obtain ⟨⟨ht, hr⟩, hp⟩ := hp
      have ih' := fun r h => ih (listed.setIfInBounds i true) r h hp
      have hm : i ∈ Region.ready .any ops listed := by simpa using hr
      obtain ⟨_, o, ho, _⟩ := mem_ready.1 hm
      simp only [planL, List.filterMap_cons, ho, Option.map_some] at hw
      obtain ⟨v, hv, hk⟩ := fI_free hw
      unfold takeC at ht
      rw [ho] at ht
      simp only [Bool.and_eq_true, Option.isNone_iff_eq_none] at ht
      refine wpAnyX_free ho ht.1 l.length listed r h (fun j oj hj hji hun => ?_) hm hv (ih' _ _ hk)
      have hjs : j < ops.size := by
        apply Nat.lt_of_not_ge
        intro hge
        rw [Array.getElem?_eq_none hge] at hj
        cases hj
      have := List.all_eq_true.1 ht.2 j (by simpa using hjs)
      simp only [hj, Bool.or_eq_true, beq_iff_eq, hji, false_or, hun, Bool.false_eq_true] at this
      exact this
/-- A region by a plan: 'true': taken first; 'false': nothing else may come up. -/
theorem wpc_pl (σ : List (Bool × Nat)) {id : Nat} {l : List Oper} {Q : Out → Regs → Heap → Prop} (hB : (planC l.toArray σ (Array.replicate l.length false) && σ.length == l.length) = true)
    (hw : wpPl P l.toArray (Q .norm) (planL l.toArray σ) r h) : wpc P (.region id l.toArray true) Q r h := by
  simp only [Bool.and_eq_true, beq_iff_eq] at hB
  refine wpc_any ?_
  rw [← hB.2]
  rw [← hB.2] at hB
  exact planC_ok σ _ r h hB.1 hw

/-- All of these are taken first. -/
def wpTk (P : Program) (K : Regs → Heap → Prop) : List Oper → Regs → Heap → Prop
  | [], r, h => K r h
  | o :: l, r, h => fI P o.op o.dst (wpTk P K l) r h
@[congr] theorem wpTk_congr {l : List Oper} (e1 : r = r') (e2 : h = h') : wpTk P K l r h = wpTk P K l r' h' := by rw [e1, e2]
@[simp] theorem wpTk_nil : wpTk P K [] r h = K r h := rfl
@[simp] theorem wpTk_cons {dst : Option Tmp} {op : Op} {type : TypeId} {pos : String} {after : Array Edge} {g : Option (Nat × Bool)} {rest : List Oper} : wpTk P K (⟨dst, op, type, pos, after, g⟩ :: rest) r h = fI P op dst (wpTk P K rest) r h := rfl
theorem wpPl_falses : ∀ (l : List Oper), wpPl P ops K (l.map fun o => (false, o)) = wpOs P ops K l
  | [] => rfl
  | o :: l => by funext r h; simp only [List.map_cons, wpPl, wpOs, wpPl_falses l]
theorem wpPl_trues (l2 : List (Bool × Oper)) : ∀ (l : List Oper), wpPl P ops K (l.map (fun o => (true, o)) ++ l2) = wpTk P (wpPl P ops K l2) l
  | [] => rfl
  | o :: l => by funext r h; simp only [List.map_cons, List.cons_append, wpPl, wpTk, wpPl_trues l2 l]
/-- The first n are taken first, those behind them come alone. -/
def pl (n m : Nat) : List (Bool × Nat) := (List.range n).map (fun i => (true, i)) ++ (List.range' n m).map (fun i => (false, i))
theorem planL_pl {l : List Oper} {n m : Nat} (hn : n + m = l.length) : planL l.toArray (pl n m) = (l.take n).map (fun o => (true, o)) ++ (l.drop n).map (fun o => (false, o)) := by
  have e : ∀ (b : Bool) (k c : Nat), c + k ≤ l.length → ((List.range' c k).map fun i => (b, i)).filterMap (fun p => (l.toArray[p.2]?).map fun o => (p.1, o)) = ((l.drop c).take k).map fun o => (b, o) := by
    intro b k
    induction k with
    | zero => intro c _; simp
    | succ k ih =>
      intro c hc
      have hcl : c < l.length := by omega
      rw [List.range'_succ, List.map_cons, List.filterMap_cons]
      simp only [List.getElem?_toArray, List.getElem?_eq_getElem hcl, Option.map_some]
      rw [show (fun p : Bool × Nat => Option.map (fun o => (p.1, o)) l[p.2]?) = fun p => (l.toArray[p.2]?).map fun o => (p.1, o) from by funext p; simp]
      rw [ih (c + 1) (by omega), List.drop_eq_getElem_cons hcl, List.take_succ_cons, List.map_cons]
  unfold planL pl
  rw [List.filterMap_append, List.range_eq_range', e true n 0 (by omega), e false m n (by omega), List.drop_zero]
  congr 2
  exact List.take_of_length_le (by simp; omega)
theorem wpc_tk (n m : Nat) {id : Nat} {l : List Oper} {Q : Out → Regs → Heap → Prop} (hB : (planC l.toArray (pl n m) (Array.replicate l.length false) && (n + m == l.length)) = true)
    (hw : wpTk P (fun r h => wpOs P l.toArray (Q .norm) (l.drop n) r h) (l.take n) r h) : wpc P (.region id l.toArray true) Q r h := by
  simp only [Bool.and_eq_true, beq_iff_eq] at hB
  refine wpc_pl (pl n m) ?_ ?_
  · simp only [Bool.and_eq_true, beq_iff_eq]
    exact ⟨hB.1, by simp [pl, hB.2]⟩
  · rw [planL_pl hB.2, wpPl_trues, wpPl_falses]
    exact hw
/-- In any plan: those of σ1 are taken first, those of σ2 come alone behind them. -/
def pick1 (l : List Oper) : List Nat → List Oper
  | [] => []
  | i :: σ => match l[i]? with
    | some o => o :: pick1 l σ
    | none => pick1 l σ
theorem planL_two (l : List Oper) (σ1 σ2 : List Nat) : planL l.toArray (σ1.map (fun i => (true, i)) ++ σ2.map (fun i => (false, i))) = (pick1 l σ1).map (fun o => (true, o)) ++ (pick1 l σ2).map (fun o => (false, o)) := by
  have e : ∀ (b : Bool) (σ : List Nat), planL l.toArray (σ.map fun i => (b, i)) = (pick1 l σ).map fun o => (b, o) := by
    intro b σ
    induction σ with
    | nil => rfl
    | cons i σ ih =>
      simp only [planL, List.map_cons, List.filterMap_cons, List.getElem?_toArray, pick1] at ih ⊢
      cases h : l[i]? with
      | none => simpa using ih
      | some o => simpa using ih
  rw [← e, ← e, planL, List.filterMap_append]
  rfl
theorem wpc_tks (σ1 σ2 : List Nat) {id : Nat} {l : List Oper} {Q : Out → Regs → Heap → Prop} (hB : (planC l.toArray (σ1.map (fun i => (true, i)) ++ σ2.map (fun i => (false, i))) (Array.replicate l.length false) && (σ1.length + σ2.length == l.length)) = true)
    {l1 l2 : List Oper} (h1 : pick1 l σ1 = l1) (h2 : pick1 l σ2 = l2)
    (hw : wpTk P (fun r h => wpOs P l.toArray (Q .norm) l2 r h) l1 r h) : wpc P (.region id l.toArray true) Q r h := by
  subst h1 h2
  simp only [Bool.and_eq_true, beq_iff_eq] at hB
  refine wpc_pl (σ1.map (fun i => (true, i)) ++ σ2.map (fun i => (false, i))) ?_ ?_
  · simp only [Bool.and_eq_true, beq_iff_eq]
    exact ⟨hB.1, by simp [hB.2]⟩
  · rw [planL_two, wpPl_trues, wpPl_falses]
    exact hw
/-- The i-th of a list of operations: simp looks at the place alone. -/
def nthO : List Oper → Nat → Option Oper
  | [], _ => none
  | a :: _, 0 => some a
  | _ :: l, n + 1 => nthO l n
theorem nthO_eq : ∀ (l : List Oper) (i : Nat), nthO l i = l[i]?
  | [], i => by simp [nthO]
  | a :: l, 0 => rfl
  | a :: l, i + 1 => by simp [nthO, nthO_eq l i]
@[congr] theorem nthO_congr {l : List Oper} {i : Nat} : nthO l i = nthO l i := rfl
@[simp] theorem nthO_zero {a : Oper} {l : List Oper} : nthO (a :: l) 0 = some a := rfl
@[simp] theorem nthO_succ {a : Oper} {l : List Oper} {n : Nat} : nthO (a :: l) (n + 1) = nthO l n := rfl
def stepP (P : Program) (ops : Array Oper) (b : Bool) (o : Option Oper) (K : Regs → Heap → Prop) (r : Regs) (h : Heap) : Prop := match o, b with
  | some o, true => fI P o.op o.dst K r h
  | some o, false => ∃ b, wantedX ops r o = some b ∧ (b = true → wpO P o K r h) ∧ (b = false → K (dputX r o.dst (.tup [])) h)
  | none, _ => K r h
@[congr] theorem stepP_congr {b : Bool} {o o' : Option Oper} (e : o = o') (e1 : r = r') (e2 : h = h') : stepP P ops b o K r h = stepP P ops b o' K r' h' := by rw [e, e1, e2]
@[simp] theorem stepP_take {dst : Option Tmp} {op : Op} {type : TypeId} {pos : String} {after : Array Edge} {g : Option (Nat × Bool)} : stepP P ops true (some ⟨dst, op, type, pos, after, g⟩) K r h = fI P op dst K r h := rfl
@[simp] theorem stepP_only {dst : Option Tmp} {op : Op} {type : TypeId} {pos : String} {after : Array Edge} : stepP P ops false (some ⟨dst, op, type, pos, after, none⟩) K r h = wpI P op dst K r h := by
  have := wpOs_cons (P := P) (ops := ops) (K := K) (r := r) (h := h) (rest := []) (dst := dst) (op := op) (type := type) (pos := pos) (after := after)
  rw [show wpI P op dst K r h = wpI P op dst (wpOs P ops K []) r h from rfl, ← this]
  rfl
def wpPs (P : Program) (ops : Array Oper) (l : List Oper) (K : Regs → Heap → Prop) : List (Bool × Nat) → Regs → Heap → Prop
  | [], r, h => K r h
  | (b, i) :: σ, r, h => stepP P ops b (nthO l i) (wpPs P ops l K σ) r h
@[congr] theorem wpPs_congr {l : List Oper} {σ : List (Bool × Nat)} (e1 : r = r') (e2 : h = h') : wpPs P ops l K σ r h = wpPs P ops l K σ r' h' := by rw [e1, e2]
@[simp] theorem wpPs_nil {l : List Oper} : wpPs P ops l K [] r h = K r h := rfl
@[simp] theorem wpPs_cons {l : List Oper} {b : Bool} {i : Nat} {σ : List (Bool × Nat)} : wpPs P ops l K ((b, i) :: σ) r h = stepP P ops b (nthO l i) (wpPs P ops l K σ) r h := rfl
theorem wpPs_eq (l : List Oper) : ∀ σ, wpPs P ops l K σ = wpPl P ops K (planL l.toArray σ)
  | [] => rfl
  | (b, i) :: σ => by
    have ih := wpPs_eq l σ
    funext r h
    simp only [wpPs, planL, List.filterMap_cons, List.getElem?_toArray, nthO_eq, ih]
    cases hl : l[i]? with
    | none => simp only [stepP, Option.map_none, planL, List.getElem?_toArray]
    | some o => cases b <;> simp only [stepP, Option.map_some, planL, wpPl, List.getElem?_toArray]
theorem wpc_plL (σ : List (Bool × Nat)) {id : Nat} {l : List Oper} {Q : Out → Regs → Heap → Prop} (hB : (planC l.toArray σ (Array.replicate l.length false) && σ.length == l.length) = true)
    (hw : wpPs P l.toArray l (Q .norm) σ r h) : wpc P (.region id l.toArray true) Q r h := by
  rw [wpPs_eq] at hw
  exact wpc_pl σ hB hw
/-! By simp. -/
section
variable {rest : List (Bool × Oper)} {dst : Option Tmp} {op : Op} {type : TypeId} {pos : String} {after : Array Edge}
@[simp] theorem wpPl_nil : wpPl P ops K [] r h = K r h := rfl
@[simp] theorem wpPl_take {g : Option (Nat × Bool)} : wpPl P ops K ((true, ⟨dst, op, type, pos, after, g⟩) :: rest) r h = fI P op dst (wpPl P ops K rest) r h := rfl
@[simp] theorem wpPl_only : wpPl P ops K ((false, ⟨dst, op, type, pos, after, none⟩) :: rest) r h = wpI P op dst (wpPl P ops K rest) r h := by
  have := wpOs_cons (P := P) (ops := ops) (K := wpPl P ops K rest) (r := r) (h := h) (rest := []) (dst := dst) (op := op) (type := type) (pos := pos) (after := after)
  rw [show wpI P op dst (wpPl P ops K rest) r h = wpI P op dst (wpOs P ops (wpPl P ops K rest) []) r h from rfl, ← this]
  rfl
@[simp] theorem wpPl_guard {j : Nat} {want : Bool} : wpPl P ops K ((false, ⟨dst, op, type, pos, after, some (j, want)⟩) :: rest) r h =
    Has (wantedX ops r ⟨dst, op, type, pos, after, some (j, want)⟩) (fun b => Fork b (wpI P op dst (wpPl P ops K rest) r h) (wpPl P ops K rest (dputX r dst (.tup [])) h)) := by
  rfl
section
variable {x y c : Operand} {t t2 : TypeId} {n : Nat} {bo : BinOp} {uo : UnOp} {ps : Array (Nat × Operand)} {xs ys : Array Operand} {ts : Array TypeId} {ox oy oz : Option Operand} {gf : FuncId}
@[simp] theorem fI_move : fI P (.move x) dst K r h = wpI P (.move x) dst K r h := by simp [fI, regOnly]
@[simp] theorem fI_assign : fI P (.assign x) dst K r h = wpI P (.assign x) dst K r h := by simp [fI, regOnly]
@[simp] theorem fI_pick : fI P (.pick c x y) dst K r h = wpI P (.pick c x y) dst K r h := by simp [fI, regOnly]
@[simp] theorem fI_build : fI P (.build t ps) dst K r h = wpI P (.build t ps) dst K r h := by simp [fI, regOnly]
@[simp] theorem fI_nilCheck : fI P (.nilCheck x) dst K r h = wpI P (.nilCheck x) dst K r h := by simp [fI, regOnly]
@[simp] theorem fI_bin : fI P (.binOp bo t x y t2) dst K r h = wpI P (.binOp bo t x y t2) dst K r h := by simp [fI, regOnly]
@[simp] theorem fI_un : fI P (.unOp uo t x) dst K r h = wpI P (.unOp uo t x) dst K r h := by simp [fI, regOnly]
@[simp] theorem fI_func : fI P (.makeFunc (.func gf) xs ys) dst K r h = wpI P (.makeFunc (.func gf) xs ys) dst K r h := by simp [fI, regOnly]
@[simp] theorem fI_slice : fI P (.slice t x ox oy oz) dst K r h = wpI P (.slice t x ox oy oz) dst K r h := by simp [fI, regOnly]
@[simp] theorem fI_fieldAddr : fI P (.fieldAddr t x n) dst K r h = wpI P (.fieldAddr t x n) dst K r h := by simp [fI, regOnly]
@[simp] theorem fI_field : fI P (.field t x n) dst K r h = wpI P (.field t x n) dst K r h := by simp [fI, regOnly]
@[simp] theorem fI_indexAddr : fI P (.indexAddr t x y) dst K r h = wpI P (.indexAddr t x y) dst K r h := by simp [fI, regOnly]
@[simp] theorem fI_index : fI P (.index t x y) dst K r h = wpI P (.index t x y) dst K r h := by simp [fI, regOnly]
@[simp] theorem fI_extract : fI P (.extract x n) dst K r h = wpI P (.extract x n) dst K r h := by simp [fI, regOnly]
@[simp] theorem fI_len : fI P (.call ⟨.builtin .len, xs, ts⟩) dst K r h = wpI P (.call ⟨.builtin .len, xs, ts⟩) dst K r h := by simp [fI, regOnly]
@[simp] theorem fI_load : fI P (.load t x) dst K r h = Has (evalX r x) fun a => Has (loadF P t a) fun v => K (dputX r dst v) h := rfl
@[simp] theorem fI_call {g : FuncId} {args : Array Operand} : fI P (.call ⟨.value (.func g), args, ts⟩) dst K r h = Has (evalsX r args.toList) fun vs => FCall P g vs fun x => K (dputX r dst x) h := rfl
@[simp] theorem loadF_ipt (ha : aggT P t = some false) (hz : (szT P t).isSome = true) {xs : List AV} : loadF P t (.ipt xs) = xs[0]? := loadX_ipt ha hz
end
end
end
end Go.Proofs.Ytmpeghcilhcpjaa.X
