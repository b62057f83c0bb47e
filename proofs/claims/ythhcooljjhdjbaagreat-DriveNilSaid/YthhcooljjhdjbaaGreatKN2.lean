/- A region that draws its order: operations that only read come first, in the order of the text; one cell may be made beside them; what stands behind them waits for all of them. A region that draws its order: among the operations that come first, one call whose answer no one foretells. -/
import Derived.Deep.QuietTactic
import Derived.Test.YthhcooljjhdjbaaGreatKB
set_option linter.unusedVariables false
set_option linter.unusedSimpArgs false
namespace Go.Proofs.YthhcooljjhdjbaaGreat
open Go.RowKit

section
variable {P : Program} {ops : Array Oper} {Q : Exit → Act → World → Prop} {w0 : World} {md : Region.Mode}

/-- What an operation hands back, if it is a value, nothing, or a call that returns. -/
def outX (P : Program) (o : Oper) (a : Act) (w : World) (Z : Value → World → Prop) : Prop :=
  match (execOp a.eval o).run P w with
  | .ok (.value u) w' => Z u w'
  | .ok .skip w' => Z undef w'
  | .ok (.enter f args) w' => Calls P f args w' fun e w'' => ∃ v, e = .returned v ∧ Z v w''
  | _ => False
theorem outX_mono {o : Oper} {a : Act} {w : World} {Z Z' : Value → World → Prop} (h : outX P o a w Z) (hz : ∀ v w', Z v w' → Z' v w') : outX P o a w Z' := by
  unfold outX at *
  generalize (execOp a.eval o).run P w = r at *
  cases r with
  | ok n w' =>
    cases n <;> simp only [] at h ⊢
    case value u => exact hz _ _ h
    case skip => exact hz _ _ h
    case enter f args => exact h.mono fun e w'' ⟨v, h1, h2⟩ => ⟨v, h1, hz _ _ h2⟩
  | halt x w' => exact h.elim
theorem outX_wp {o : Oper} {a : Act} {w : World} {Z : Value → World → Prop} {K : Act → World → Prop} (h : outX P o a w Z) (hz : ∀ v w', Z v w' → K (a.put o.dst v) w') : o.wp P a w K Q := by
  unfold outX at h
  unfold Oper.wp
  generalize (execOp a.eval o).run P w = r at *
  cases r with
  | ok n w' =>
    cases n <;> simp only [] at h <;> simp only [Oper.upon]
    case value u => exact hz _ _ h
    case skip => exact hz _ _ h
    case enter f args => exact h.mono fun e w'' ⟨v, h1, h2⟩ => by subst h1; exact hz _ _ h2
  | halt x w' => exact h.elim
theorem outX_put {o : Oper} {a : Act} {w : World} {Z : Value → World → Prop} {d : Option Tmp} {v : Value} (hs : ∀ cs b, o.op ≠ .select cs b) (h : ∀ t, d = some t → t ∉ o.looksAt ops) (hh : outX P o (a.put d v) w Z) : outX P o a w Z := by
  unfold outX at *
  rwa [execOp_put o hs a d v h] at hh

/-- One value, in every world that goes on from 'w0'. -/
def YX (P : Program) (ops : Array Oper) (w0 : World) (o : Oper) (v : Value) (a : Act) : Prop :=
  (Region.wanted o (yielded ops a.tmps) = true ∧ ∀ w', Ext w0 w' → outX P o a w' fun u w'' => u = v ∧ Ext w' w'') ∨ (Region.wanted o (yielded ops a.tmps) = false ∧ v = undef)
theorem YX.of_same {o : Oper} {v : Value} {a a' : Act} (hy : YX P ops w0 o v a) (he : execOp a'.eval o = execOp a.eval o) (hw : Region.wanted o (yielded ops a'.tmps) = Region.wanted o (yielded ops a.tmps)) : YX P ops w0 o v a' := by
  unfold YX outX at *
  rw [he, hw]
  exact hy
theorem YX.of_yields {o : Oper} {v : Value} {a : Act} (hy : Yields P ops o v a) : YX P ops w0 o v a := by
  rcases hy with ⟨h1, h2⟩ | h
  · exact .inl ⟨h1, fun w' _ => by unfold outX; rw [h2 w']; exact ⟨rfl, Ext.refl _⟩⟩
  · exact .inr h
/-- An operation that comes up among those of the first operations. -/
def NX (P : Program) (ops : Array Oper) (w0 : World) (i : Nat) (K : Act → (World → Prop) → Prop) (a : Act) (F : World → Prop) : Prop :=
  ∃ o, ops[i]? = some o ∧ ((Region.wanted o (yielded ops a.tmps) = true ∧ ∃ R : Value → World → Prop, (∀ v w1 w2, R v w1 → Ext w1 w2 → R v w2) ∧ (∀ w', Ext w0 w' → outX P o a w' fun v w'' => R v w'' ∧ Ext w' w'') ∧
    ∀ v w', R v w' → K (a.put o.dst v) (fun w => F w ∧ R v w)) ∨ (Region.wanted o (yielded ops a.tmps) = false ∧ K (a.put o.dst undef) F))
theorem NX_mono {i : Nat} {K K' : Act → (World → Prop) → Prop} {a : Act} {F : World → Prop} (h : ∀ a F, K a F → K' a F) (hh : NX P ops w0 i K a F) : NX P ops w0 i K' a F := by
  obtain ⟨o, h1, h2⟩ := hh
  refine ⟨o, h1, ?_⟩
  rcases h2 with ⟨h3, R, h4, h5, h6⟩ | ⟨h3, h4⟩
  · exact .inl ⟨h3, R, h4, h5, fun v w' hr => h _ _ (h6 v w' hr)⟩
  · exact .inr ⟨h3, h _ _ h4⟩
def Listed (listed : Array Bool) (i : Nat) : Prop := listed.getD i true = true
def CD (k f : Nat) (listed : Array Bool) : Prop := ∀ c, c < k → c ≠ f → listed.getD c true = true
def NA (P : Program) (md : Region.Mode) (ops : Array Oper) (w0 : World) (k f : Nat) (L : Array Bool → Act → World → Prop) : Nat → Array Bool → Act → (World → Prop) → Prop
  | 0, listed, a, F => CD k f listed ∧ listed.getD f true = true ∧ ∀ w', Ext w0 w' → F w' → L listed a w'
  | n + 1, listed, a, F =>
    (¬ CD k f listed → Region.ready md ops listed ≠ [] ∧ ∀ j ∈ Region.ready md ops listed, NX P ops w0 j (NA P md ops w0 k f L n (listed.setIfInBounds j true)) a F) ∧
    (CD k f listed → f ∈ Region.ready md ops listed ∧
      (∀ j oj o, ops[f]? = some o → ops[j]? = some oj → j ≠ f → listed.getD j true = false → (∀ e ∈ oj.after, Region.binds md e = true → e.on ≠ f) → o.apart ops oj = true) ∧
      ∃ o v, ops[f]? = some o ∧ Yields P ops o v a ∧ NA P md ops w0 k f L n (listed.setIfInBounds f true) (a.put o.dst v) F)
theorem NA_mono {k f : Nat} {L : Array Bool → Act → World → Prop} : ∀ (n : Nat) (listed : Array Bool) (a : Act) (F F' : World → Prop), (∀ w, F' w → F w) → NA P md ops w0 k f L n listed a F → NA P md ops w0 k f L n listed a F'
  | 0, _, _, _, _, h, hh => ⟨hh.1, hh.2.1, fun w' h1 h2 => hh.2.2 w' h1 (h w' h2)⟩
  | n + 1, listed, a, F, F', h, hh => by
    refine ⟨fun hc => ⟨(hh.1 hc).1, fun j hj => ?_⟩, fun hc => ?_⟩
    · obtain ⟨o, h1, h2⟩ := (hh.1 hc).2 j hj
      refine ⟨o, h1, ?_⟩
      rcases h2 with ⟨h3, R, h4, h5, h6⟩ | ⟨h3, h4⟩
      · exact .inl ⟨h3, R, h4, h5, fun v w' hr => NA_mono n _ _ _ _ (fun w hw => ⟨h w hw.1, hw.2⟩) (h6 v w' hr)⟩
      · exact .inr ⟨h3, NA_mono n _ _ _ _ h h4⟩
    · obtain ⟨h1, h2, o, v, h3, h4, h5⟩ := hh.2 hc
      exact ⟨h1, h2, o, v, h3, h4, NA_mono n _ _ _ _ h h5⟩
/-- One value: it comes up. -/
theorem NX_of_YX {i : Nat} {o : Oper} {v : Value} {a : Act} {F : World → Prop} {k f n : Nat} {L : Array Bool → Act → World → Prop} {listed : Array Bool} (hi : ops[i]? = some o) (hy : YX P ops w0 o v a) (h : NA P md ops w0 k f L n listed (a.put o.dst v) F) :
    NX P ops w0 i (NA P md ops w0 k f L n listed) a F := by
  refine ⟨o, hi, ?_⟩
  rcases hy with ⟨h1, h2⟩ | ⟨h1, h2⟩
  · refine .inl ⟨h1, fun u _ => u = v, fun _ _ _ h _ => h, h2, fun u w' hu => ?_⟩
    subst hu
    exact NA_mono n _ _ _ _ (fun w hw => hw.1) h
  · exact .inr ⟨h1, by rw [← h2]; exact h⟩
/-- What is listed waits for nothing that is not. -/
def Shut (md : Region.Mode) (ops : Array Oper) (listed : Array Bool) : Prop := ∀ j o, ops[j]? = some o → listed.getD j true = true → ∀ e ∈ o.after, Region.binds md e = true → listed.getD e.on false = true
theorem getD_tf {listed : Array Bool} {j : Nat} (hs : j < listed.size) : listed.getD j true = listed.getD j false := by simp [hs]
theorem Shut.set {listed : Array Bool} (h : Shut md ops listed) {i : Nat} (hi : i ∈ Region.ready md ops listed) : Shut md ops (listed.setIfInBounds i true) := by
  intro j o ho hl e he hb
  by_cases hij : i = j
  · subst hij
    obtain ⟨_, o', ho', hall⟩ := mem_ready.1 hi
    rw [ho] at ho'; cases ho'
    exact getD_set_true (hall e he hb)
  · rw [getD_set_ne true hij] at hl
    exact getD_set_true (h j o ho hl e he hb)
def predsOf (md : Region.Mode) (ops : Array Oper) (t : Nat) : List Nat :=
  match ops[t]? with
  | some o => (o.after.toList.filter fun e => Region.binds md e).map fun e => e.on
  | none => []
def pulls (md : Region.Mode) (ops : Array Oper) (k : Nat) : Nat → List Nat → List Nat
  | 0, S => S
  | n + 1, S => pulls md ops k n ((List.range ops.size).filter fun p => S.contains p || S.any fun s => (predsOf md ops s).contains p)
def tailWaits (md : Region.Mode) (ops : Array Oper) (k f : Nat) : Bool :=
  (List.range ops.size).all fun t => decide (t < k) || (List.range k).all fun c => c == f || (pulls md ops k 8 (predsOf md ops t)).contains c
theorem preds_listed {listed : Array Bool} {t : Nat} {o : Oper} (ho : ops[t]? = some o) (h : ∀ e ∈ o.after, Region.binds md e = true → listed.getD e.on false = true) : ∀ s ∈ predsOf md ops t, listed.getD s false = true := by
  intro s hs
  unfold predsOf at hs
  rw [ho] at hs
  obtain ⟨e, he, rfl⟩ := List.mem_map.1 hs
  obtain ⟨he, hb⟩ := List.mem_filter.1 he
  exact h e (Array.mem_toList_iff.1 he) hb
theorem pulls_listed {listed : Array Bool} (hsh : Shut md ops listed) {k : Nat} : ∀ (n : Nat) (S : List Nat), (∀ s ∈ S, listed.getD s false = true) → ∀ s ∈ pulls md ops k n S, listed.getD s false = true
  | 0, _, h => h
  | n + 1, S, h => pulls_listed hsh n _ (fun s hs => by
    obtain ⟨_, hp⟩ := List.mem_filter.1 hs
    rcases Bool.or_eq_true_iff.1 hp with hp | hp
    · exact h s (by simpa using hp)
    · obtain ⟨t, ht, hc⟩ := List.any_eq_true.1 hp
      have hc : s ∈ predsOf md ops t := by simpa using hc
      cases ho : ops[t]? with
      | none => unfold predsOf at hc; rw [ho] at hc; cases hc
      | some o =>
        have hl := h t ht
        have hl2 : listed.getD t true = true := by
          rcases Nat.lt_or_ge t listed.size with h' | h'
          · rw [getD_tf h']; exact hl
          · simp [Array.getElem?_eq_none h'] at hl
        exact preds_listed ho (hsh t o ho hl2) s hc)
/-- While one of the first operations is still to come, nothing behind the first operations comes up. -/
theorem ready_lt {k f : Nat} (hT : tailWaits md ops k f = true) {listed : Array Bool} (hsh : Shut md ops listed) {c : Nat} (hc : c < k) (hcf : c ≠ f) (hu : listed.getD c true = false) {j : Nat} (hj : j ∈ Region.ready md ops listed) : j < k := by
  rcases Nat.lt_or_ge j k with h | h
  · exact h
  · exfalso
    obtain ⟨_, o, ho, hall⟩ := mem_ready.1 hj
    unfold tailWaits at hT
    rw [List.all_eq_true] at hT
    have h1 := hT j (List.mem_range.2 (Array.getElem?_eq_some_iff.1 ho).1)
    rcases Bool.or_eq_true_iff.1 h1 with h1 | h1
    · have := of_decide_eq_true h1; omega
    · rw [List.all_eq_true] at h1
      rcases Bool.or_eq_true_iff.1 (h1 c (List.mem_range.2 hc)) with h2 | h2
      · exact hcf (by simpa using h2)
      · have h3 := pulls_listed hsh 8 _ (preds_listed ho hall) c (by simpa using h2)
        rcases Nat.lt_or_ge c listed.size with h' | h'
        · rw [getD_tf h', h3] at hu; cases hu
        · simp [Array.getElem?_eq_none h'] at h3
theorem NX_put {j : Nat} {oi oj : Oper} {v : Value} (hj : ops[j]? = some oj) (hap : oi.apart ops oj = true) (hsi : ∀ cs b, oi.op ≠ .select cs b) (hsj : ∀ cs b, oj.op ≠ .select cs b) {K : Act → (World → Prop) → Prop} {a : Act} {F : World → Prop} {f i : Nat}
    (hy : YX P ops w0 oi v a) (hyf : i = f → Yields P ops oi v a) (h : NX P ops w0 j K (a.put oi.dst v) F) :
    NX P ops w0 j (fun a' F' => (YX P ops w0 oi v a' ∧ (i = f → Yields P ops oi v a')) ∧ K (a'.put oi.dst v) F') a F := by
  obtain ⟨h1, h2, h3⟩ := Oper.apart_spec hap
  have keep : ∀ u, YX P ops w0 oi v (a.put oj.dst u) ∧ (i = f → Yields P ops oi v (a.put oj.dst u)) := fun u =>
    ⟨hy.of_same (execOp_put oi hsi a oj.dst u h3) (wanted_put oi a oj.dst u h3), fun e => (hyf e).of_same (execOp_put oi hsi a oj.dst u h3) (wanted_put oi a oj.dst u h3)⟩
  obtain ⟨o, ho, hh⟩ := h
  rw [hj] at ho; cases ho
  rw [wanted_put oj a oi.dst v h1] at hh
  refine ⟨oj, hj, ?_⟩
  rcases hh with ⟨q1, R, q2, q3, q4⟩ | ⟨q1, q2⟩
  · refine .inl ⟨q1, R, q2, fun w' hw' => outX_put hsj h1 (q3 w' hw'), fun u w' hr => ⟨keep u, ?_⟩⟩
    rw [← Act.put_comm a v u h2]; exact q4 u w' hr
  · exact .inr ⟨q1, keep _, by rw [← Act.put_comm a v undef h2]; exact q2⟩
theorem NA_first {k f i : Nat} {L : Array Bool → Act → World → Prop} {oi : Oper} {v : Value} (hi : ops[i]? = some oi) (hik : i < k) (hsel : ∀ (j : Nat) (o : Oper) cs b, ops[j]? = some o → o.op ≠ .select cs b) (hT : tailWaits md ops k f = true) :
    ∀ (n : Nat) (listed : Array Bool) (a : Act) (F : World → Prop), Shut md ops listed →
      (∀ j oj, ops[j]? = some oj → j ≠ i → listed.getD j true = false → (∀ e ∈ oj.after, Region.binds md e = true → e.on ≠ i) → oi.apart ops oj = true) →
      i ∈ Region.ready md ops listed → YX P ops w0 oi v a → (i = f → Yields P ops oi v a) →
      NA P md ops w0 k f L n (listed.setIfInBounds i true) (a.put oi.dst v) F → NA P md ops w0 k f L (n + 1) listed a F := by
  intro n
  induction n with
  | zero =>
    intro listed a F hsh hfree hr hy hyf H
    have hun := (mem_ready.1 hr).1
    refine ⟨fun hc => ⟨fun h => (by rw [h] at hr; cases hr), fun j hj => ?_⟩, fun hc => ?_⟩
    · by_cases hji : j = i
      · subst hji; exact NX_of_YX hi hy H
      · exfalso
        have hjun := (mem_ready.1 hj).1
        have hjk : j < k := by
          by_cases hif : i = f
          · obtain ⟨c, hc⟩ := Classical.not_forall.1 hc
            obtain ⟨h1, hc⟩ := Classical.not_imp.1 hc
            obtain ⟨h2, hc⟩ := Classical.not_imp.1 hc
            exact ready_lt hT hsh h1 h2 (by simpa using hc) hj
          · exact ready_lt hT hsh hik hif hun hj
        have hjf : j = f := by
          refine Classical.byContradiction fun hne => ?_
          have := H.1 j hjk hne
          rw [getD_set_ne true (Ne.symm hji), hjun] at this; cases this
        have := H.2.1
        rw [← hjf, getD_set_ne true (Ne.symm hji), hjun] at this; cases this
    · have hif : i = f := by
        refine Classical.byContradiction fun hne => ?_
        have := hc i hik hne
        rw [hun] at this; cases this
      subst hif
      exact ⟨hr, fun j oj o ho hoj hne hu hno => by rw [hi] at ho; cases ho; exact hfree j oj hoj hne hu hno, oi, v, hi, hyf rfl, H⟩
  | succ n ih =>
    intro listed a F hsh hfree hr hy hyf H
    have hun := (mem_ready.1 hr).1
    refine ⟨fun hc => ⟨fun h => (by rw [h] at hr; cases hr), fun j hj => ?_⟩, fun hc => ?_⟩
    · by_cases hji : j = i
      · subst hji; exact NX_of_YX hi hy H
      · obtain ⟨hjun, oj, hoj, hall⟩ := mem_ready.1 hj
        have hjk : j < k := by
          by_cases hif : i = f
          · obtain ⟨c, hc⟩ := Classical.not_forall.1 hc
            obtain ⟨h1, hc⟩ := Classical.not_imp.1 hc
            obtain ⟨h2, hc⟩ := Classical.not_imp.1 hc
            exact ready_lt hT hsh h1 h2 (by simpa using hc) hj
          · exact ready_lt hT hsh hik hif hun hj
        have hnot : ∀ e ∈ oj.after, Region.binds md e = true → e.on ≠ i := fun e he hb heq => by
          have h1 := hall e he hb
          rw [heq] at h1
          rcases Nat.lt_or_ge i listed.size with h' | h'
          · rw [getD_tf h', h1] at hun; cases hun
          · simp [Array.getElem?_eq_none h'] at h1
        have hap := hfree j oj hoj hji hjun hnot
        have hfree' : ∀ k ok, ops[k]? = some ok → k ≠ i → (listed.setIfInBounds j true).getD k true = false → (∀ e ∈ ok.after, Region.binds md e = true → e.on ≠ i) → oi.apart ops ok = true := fun k ok hk hki hu hno => by
          refine hfree k ok hk hki ?_ hno
          by_cases hjk : j = k
          · subst hjk; exact hjun
          · rw [getD_set_ne true hjk] at hu; exact hu
        have hNX : NX P ops w0 j (NA P md ops w0 k f L n ((listed.setIfInBounds i true).setIfInBounds j true)) (a.put oi.dst v) F := by
          by_cases hc2 : CD k f (listed.setIfInBounds i true)
          · obtain ⟨g1, _, o, u, g2, g3, g4⟩ := H.2 hc2
            have hjf : j = f := by
              refine Classical.byContradiction fun hne => ?_
              have := hc2 j hjk hne
              rw [getD_set_ne true (Ne.symm hji), hjun] at this; cases this
            subst hjf
            exact NX_of_YX g2 (YX.of_yields g3) g4
          · exact (H.1 hc2).2 j (ready_mono hj hji)
        have h2 := NX_put (f := f) (i := i) hoj hap (fun cs b => hsel i oi cs b hi) (fun cs b => hsel j oj cs b hoj) hy hyf hNX
        refine NX_mono (fun a' F' h3 => ih (listed.setIfInBounds j true) a' F' (hsh.set hj) hfree' (ready_mono hr (Ne.symm hji)) h3.1.1 h3.1.2 ?_) h2
        rw [Array.setIfInBounds_comm _ _ hji]
        exact h3.2
    · have hif : i = f := by
        refine Classical.byContradiction fun hne => ?_
        have := hc i hik hne
        rw [hun] at this; cases this
      subst hif
      exact ⟨hr, fun j oj o ho hoj hne hu hno => by rw [hi] at ho; cases ho; exact hfree j oj hoj hne hu hno, oi, v, hi, hyf rfl, H⟩
/-- It is a wpAny, from every world that goes on. -/
theorem NA_sound {k f m : Nat} (hsel : ∀ (j : Nat) (o : Oper) cs b, ops[j]? = some o → o.op ≠ .select cs b) (hQ : f < ops.size → ∀ d v c a w, Q (.panic c) (a.put d v) w → Q (.panic c) a w) :
    ∀ (n : Nat) (listed : Array Bool) (a : Act) (F : World → Prop) (w : World), (∀ w1 w2, F w1 → Ext w1 w2 → F w2) → Ext w0 w → F w →
      NA P md ops w0 k f (fun listed a w => wpAny P md ops Q m listed a w) n listed a F → wpAny P md ops Q (n + m) listed a w
  | 0, _, _, _, w, _, hx, hF, H => by rw [Nat.zero_add]; exact H.2.2 w hx hF
  | n + 1, listed, a, F, w, hst, hx, hF, H => by
    rw [Nat.add_right_comm]
    by_cases hc : CD k f listed
    · obtain ⟨g1, g2, o, v, g3, g4, g5⟩ := H.2 hc
      exact wpAny_first g3 hsel (fun c a w h => hQ (Array.getElem?_eq_some_iff.1 g3).1 _ _ c a w h) (n + m) listed a w (fun j oj hoj hne hu hno => g2 j oj o g3 hoj hne hu hno) g1 g4 (NA_sound hsel hQ n _ _ F w hst hx hF g5)
    · obtain ⟨h1, h2⟩ := H.1 hc
      refine ⟨fun h0 => absurd h0 h1, fun j hj => ?_⟩
      obtain ⟨o, ho, hh⟩ := h2 j hj
      unfold wpOp
      rw [ho]
      dsimp only
      rcases hh with ⟨q1, R, q2, q3, q4⟩ | ⟨q1, q2⟩
      · rw [if_pos q1]
        refine .inl (outX_wp (q3 w hx) fun v w' ⟨hr, hx'⟩ => ?_)
        exact NA_sound hsel hQ n _ _ (fun w => F w ∧ R v w) w' (fun w1 w2 ⟨f1, f2⟩ hx2 => ⟨hst w1 w2 f1 hx2, q2 v w1 w2 f2 hx2⟩) (hx.trans hx') ⟨hst w w' hF hx', hr⟩ (q4 v w' hr)
      · rw [if_neg (by rw [q1]; exact Bool.false_ne_true)]
        exact NA_sound hsel hQ n _ _ F w hst hx hF q2
/-- The first operations, in the order of the text. -/
def qX (P : Program) (w0 : World) (o : Oper) (a : Act) (K : Act → Prop) : Prop := ∃ v, (∀ w', Ext w0 w' → outX P o a w' fun u w'' => u = v ∧ Ext w' w'') ∧ K (a.put o.dst v)
def qAll (P : Program) (o : Oper) (a : Act) (K : Act → Prop) : Prop := ∃ v, (∀ w', (execOp a.eval o).run P w' = .ok (.value v) w') ∧ K (a.put o.dst v)
def stepX (P : Program) (w0 : World) (o : Oper) (a : Act) (K : Act → Prop) : Bool → Prop
  | true => qAll P o a K
  | false => qX P w0 o a K
def wpX (P : Program) (ops : Array Oper) (w0 : World) (f : Nat) (C : Act → Prop) : List Oper → Nat → Act → Prop
  | [], _, a => C a
  | o :: rest, i, a => if Region.wanted o (yielded ops a.tmps) then stepX P w0 o a (wpX P ops w0 f C rest (i + 1)) (i == f) else wpX P ops w0 f C rest (i + 1) (a.put o.dst undef)
theorem wx_nil {f i : Nat} {C : Act → Prop} {a : Act} (h : C a) : wpX P ops w0 f C [] i a := h
theorem wx_step {f i : Nat} {C : Act → Prop} {a : Act} {o : Oper} {rest : List Oper} (h : ∀ K : Act → Prop, (∀ a, wpX P ops w0 f C rest (i + 1) a → K a) → if Region.wanted o (yielded ops a.tmps) then stepX P w0 o a K (i == f) else K (a.put o.dst undef)) : wpX P ops w0 f C (o :: rest) i a :=
  h _ (fun _ h => h)
theorem xx_val {o : Oper} {a : Act} {K : Act → Prop} {v : Value} (h : ∀ w', Ext w0 w' → (execOp a.eval o).run P w' = .ok (.value v) w') (hk : K (a.put o.dst v)) : stepX P w0 o a K false :=
  ⟨v, fun w' hw' => by unfold outX; rw [h w' hw']; exact ⟨rfl, Ext.refl _⟩, hk⟩
theorem xf_val {o : Oper} {a : Act} {K : Act → Prop} {v : Value} (h : ∀ w', (execOp a.eval o).run P w' = .ok (.value v) w') (hk : K (a.put o.dst v)) : stepX P w0 o a K true := ⟨v, h, hk⟩
theorem xx_call {o : Oper} {a : Act} {K : Act → Prop} {v : Value} {f : FuncId} {args : Array Value} (h : ∀ w', (execOp a.eval o).run P w' = .ok (.enter f args) w')
    (hc : ∀ w', Ext w0 w' → Calls P f args w' fun e w'' => e = .returned v ∧ Ext w' w'') (hk : K (a.put o.dst v)) : stepX P w0 o a K false :=
  ⟨v, fun w' hw' => by unfold outX; rw [h w']; exact (hc w' hw').mono fun e w'' ⟨h1, h2⟩ => ⟨v, h1, rfl, h2⟩, hk⟩
def setFrom : Nat → Nat → Array Bool → Array Bool
  | 0, _, s => s
  | n + 1, i, s => setFrom n (i + 1) (s.setIfInBounds i true)
def lexK (md : Region.Mode) (ops : Array Oper) : Nat → Nat → Array Bool → Bool
  | 0, _, _ => true
  | n + 1, i, listed => (Region.ready md ops listed).contains i && Region.free md ops listed i && lexK md ops n (i + 1) (listed.setIfInBounds i true)
def singles (md : Region.Mode) (ops : Array Oper) : Nat → Nat → Array Bool → Bool
  | 0, _, listed => (Region.ready md ops listed).isEmpty
  | n + 1, i, listed => (Region.ready md ops listed == [i]) && singles md ops n (i + 1) (listed.setIfInBounds i true)
theorem wpAny_list : ∀ (tl : List Oper) (i : Nat) (listed : Array Bool) (a : Act) (w : World), (∀ j, tl[j]? = ops[i + j]?) → singles md ops tl.length i listed = true → wpList P ops Q tl a w → wpAny P md ops Q tl.length listed a w
  | [], _, listed, _, _, _, hB, h => ⟨by simpa [singles] using hB, h⟩
  | o :: tl, i, listed, a, w, hl, hB, h => by
    have h0 : ops[i]? = some o := by simpa using (hl 0).symm
    simp only [List.length_cons, singles, Bool.and_eq_true] at hB
    obtain ⟨hr, hB⟩ := hB
    have hr : Region.ready md ops listed = [i] := by simpa using hr
    refine ⟨fun h' => (by rw [hr] at h'; cases h'), fun j hj => ?_⟩
    rw [hr] at hj
    have hj : j = i := by simpa using hj
    subst hj
    have ih := fun a w => wpAny_list tl (j + 1) (listed.setIfInBounds j true) a w (fun x => by have := hl (x + 1); simpa [Nat.add_assoc, Nat.add_comm 1 x] using this) hB
    unfold wpOp
    rw [h0]
    dsimp only
    unfold wpList at h
    by_cases hw : Region.wanted o (yielded ops a.tmps) = true
    · rw [if_pos hw] at h ⊢
      exact Or.imp (Oper.wp_mono ih) id h
    · rw [if_neg hw] at h ⊢
      exact ih _ _ h
theorem wpX_NA {k f r : Nat} {L : Array Bool → Act → World → Prop} {C : Act → Prop} {F : World → Prop} (hs : Region.noSelect ops = true) (hT : tailWaits md ops k f = true) :
    ∀ (l : List Oper) (i : Nat) (listed : Array Bool) (a : Act), (∀ j, j < l.length → l[j]? = ops[i + j]?) → Shut md ops listed → i + l.length ≤ k → lexK md ops l.length i listed = true → wpX P ops w0 f C l i a →
      (∀ a', C a' → NA P md ops w0 k f L r (setFrom l.length i listed) a' F) → NA P md ops w0 k f L (l.length + r) listed a F
  | [], i, listed, a, _, _, _, _, h, hC => by
    rw [show ([] : List Oper).length + r = r from Nat.zero_add r]
    exact hC a h
  | o :: l, i, listed, a, hl, hsh, hk, hB, h, hC => by
    have h0 : ops[i]? = some o := by simpa using (hl 0 (Nat.succ_pos _)).symm
    simp only [List.length_cons, lexK, Bool.and_eq_true] at hB hk
    obtain ⟨⟨hr, hf⟩, hB⟩ := hB
    have hr : i ∈ Region.ready md ops listed := by simpa using hr
    have ih := fun a h => wpX_NA hs hT l (i + 1) (listed.setIfInBounds i true) a (fun x hx => by have := hl (x + 1) (Nat.succ_lt_succ hx); simpa [Nat.add_assoc, Nat.add_comm 1 x] using this) (hsh.set hr) (by omega) hB h hC
    rw [show (o :: l).length + r = (l.length + r) + 1 by rw [List.length_cons]; omega]
    unfold wpX at h
    by_cases hw : Region.wanted o (yielded ops a.tmps) = true
    · rw [if_pos hw] at h
      by_cases hif : i = f
      · rw [show (i == f) = true by simpa using hif] at h
        obtain ⟨v, h1, h2⟩ := h
        have hy : Yields P ops o v a := .inl ⟨hw, h1⟩
        exact NA_first h0 (by omega) (Region.noSelect_spec hs) hT _ listed a F hsh (Region.free_spec h0 hf) hr (YX.of_yields hy) (fun _ => hy) (ih _ h2)
      · rw [show (i == f) = false by simpa using hif] at h
        obtain ⟨v, h1, h2⟩ := h
        exact NA_first h0 (by omega) (Region.noSelect_spec hs) hT _ listed a F hsh (Region.free_spec h0 hf) hr (.inl ⟨hw, h1⟩) (fun e => absurd e hif) (ih _ h2)
    · rw [if_neg hw] at h
      have hw2 : Region.wanted o (yielded ops a.tmps) = false := by simpa using hw
      exact NA_first h0 (by omega) (Region.noSelect_spec hs) hT _ listed a F hsh (Region.free_spec h0 hf) hr (.inr ⟨hw2, rfl⟩) (fun _ => .inr ⟨hw2, rfl⟩) (ih _ h)
theorem getD_setFrom : ∀ (n i : Nat) (s : Array Bool) (c : Nat), s.getD c true = true → (setFrom n i s).getD c true = true
  | 0, _, _, _, h => h
  | n + 1, i, s, c, h => getD_setFrom n (i + 1) _ c (by
    by_cases hic : i = c
    · subst hic
      rcases Nat.lt_or_ge i s.size with h' | h'
      · simp [h']
      · simp [Array.getElem?_eq_none (by simpa using h')]
    · rw [getD_set_ne true hic]; exact h)
theorem setFrom_getD : ∀ (n i : Nat) (s : Array Bool) (c : Nat), i ≤ c → c < i + n → (setFrom n i s).getD c true = true
  | 0, _, _, _, h1, h2 => by omega
  | n + 1, i, s, c, h1, h2 => by
    by_cases hic : i = c
    · subst hic
      refine getD_setFrom n (i + 1) _ i ?_
      rcases Nat.lt_or_ge i s.size with h' | h'
      · simp [h']
      · simp [Array.getElem?_eq_none (by simpa using h')]
    · exact setFrom_getD n (i + 1) _ c (by omega) (by omega)
theorem size_setFrom : ∀ (n i : Nat) (s : Array Bool), (setFrom n i s).size = s.size
  | 0, _, _ => rfl
  | n + 1, i, s => (size_setFrom n (i + 1) _).trans (by simp)
def tailB (ops : Array Oper) (k m f : Nat) : Bool :=
  Region.noSelect ops && tailWaits .any ops k f && lexK .any ops k 0 (Array.replicate ops.size false) && singles .any ops m k (setFrom k 0 (Array.replicate ops.size false)) && (decide (f < k) || decide (ops.size ≤ f))
theorem getD_ge {s : Array Bool} {f : Nat} (h : s.size ≤ f) : s.getD f true = true := by simp [Array.getElem?_eq_none h]
theorem shut_none : Shut md ops (Array.replicate ops.size false) := by
  intro j o ho hl
  have hj := (Array.getElem?_eq_some_iff.1 ho).1
  simp [hj] at hl
/-- A region whose first 'k' operations only read (or call what keeps what was there), and whose others come behind them, one by one. -/
theorem wp_region_tail {id : Nat} {a : Act} {w : World} {l : List Oper} (hm : P.follows .mixedOrders = true) (k m f : Nat) (hn : l.length = k + m) (hB : tailB l.toArray k m f = true) (hQ : f < l.length → ∀ d v c a w, Q (.panic c) (a.put d v) w → Q (.panic c) a w)
    (h : wpX P l.toArray w f (fun a' => ∀ w', Ext w w' → wpList P l.toArray Q (l.drop k) a' w') (l.take k) 0 a) : (Code.region id l.toArray true).wp P Q a w := by
  simp only [tailB, Bool.and_eq_true] at hB
  obtain ⟨⟨⟨⟨hs, hT⟩, hL⟩, hS⟩, hf⟩ := hB
  refine wp_region_any hm ?_
  have hlt : (l.take k).length = k := by simp; omega
  have hld : (l.drop k).length = m := by simp; omega
  have N := wpX_NA (md := .any) (k := k) (r := 0) (L := fun listed a w => wpAny P .any l.toArray Q m listed a w) (F := fun _ => True) hs hT (l.take k) 0 (Array.replicate l.toArray.size false) a
    (fun j hj => by rw [hlt] at hj; simp [hj]) shut_none (by omega) (by rw [hlt]; exact hL) h (fun a' hC => by
      rw [hlt]
      refine ⟨fun c hc _ => setFrom_getD _ _ _ _ (Nat.zero_le _) (by omega), ?_, fun w' hx _ => ?_⟩
      · rcases Bool.or_eq_true_iff.1 hf with hf | hf
        · exact setFrom_getD _ _ _ _ (Nat.zero_le _) (by have := of_decide_eq_true hf; omega)
        · have hf := of_decide_eq_true hf
          have : (setFrom k 0 (Array.replicate l.toArray.size false)).size ≤ f := by rw [size_setFrom]; simpa using hf
          exact getD_ge this
      · rw [← hld]
        exact wpAny_list (l.drop k) k _ a' w' (fun j => by simp) (by rw [hld]; exact hS) (hC w' hx))
  have := NA_sound (m := m) (Region.noSelect_spec hs) (fun h => hQ (by simpa using h)) _ _ a (fun _ => True) w.drew (fun _ _ _ _ => trivial) (Ext.refl w).drew trivial N
  rw [hlt, Nat.add_zero] at this
  have e : l.toArray.size = k + m := by simpa using hn
  rw [e] at this ⊢
  exact this
def allocB (ops : Array Oper) (k m f : Nat) : Bool :=
  Region.noSelect ops && tailWaits .any ops (k + 1) f && lexK .any ops k 0 (Array.replicate ops.size false) && (Region.ready .any ops (setFrom k 0 (Array.replicate ops.size false)) == [k]) &&
    singles .any ops m (k + 1) ((setFrom k 0 (Array.replicate ops.size false)).setIfInBounds k true) && (decide (f < k) || decide (ops.size ≤ f))
/-- The same, and behind the first 'k' operations one that makes a cell, which may come up at any time. -/
theorem wp_region_alloc {id : Nat} {a : Act} {w : World} {l : List Oper} (hm : P.follows .mixedOrders = true) (k m f : Nat) (hn : l.length = k + 1 + m) (hB : allocB l.toArray k m f = true) (hQ : f < l.length → ∀ d v c a w, Q (.panic c) (a.put d v) w → Q (.panic c) a w)
    (o : Oper) (T : TypeId) (zs : Array Value) (ho : l[k]? = some o) (hal : ∀ (a : Act) (w' : World), (execOp a.eval o).run P w' = .ok (.value (.pointer (some ⟨w'.heap.size, 0, none⟩))) (w'.alloc (.cells zs T))) (hg : o.guard = none)
    (h : wpX P l.toArray w f (fun a' => ∀ b w', Ext w w' → Blk w' b T zs → w.heap.size ≤ b → wpList P l.toArray Q (l.drop (k + 1)) (a'.put o.dst (.pointer (some ⟨b, 0, none⟩))) w') (l.take k) 0 a) : (Code.region id l.toArray true).wp P Q a w := by
  simp only [allocB, Bool.and_eq_true] at hB
  obtain ⟨⟨⟨⟨⟨hs, hT⟩, hL⟩, hR⟩, hS⟩, hf⟩ := hB
  have hR : Region.ready .any l.toArray (setFrom k 0 (Array.replicate l.toArray.size false)) = [k] := by simpa using hR
  refine wp_region_any hm ?_
  have hlt : (l.take k).length = k := by simp; omega
  have hld : (l.drop (k + 1)).length = m := by simp; omega
  have hsz : l.toArray.size = k + 1 + m := by simpa using hn
  have hkf : k ≠ f := by
    rcases Bool.or_eq_true_iff.1 hf with hf | hf
    · have := of_decide_eq_true hf; omega
    · have := of_decide_eq_true hf; omega
  have hun : (setFrom k 0 (Array.replicate l.toArray.size false)).getD k true = false := by
    have : k ∈ Region.ready .any l.toArray (setFrom k 0 (Array.replicate l.toArray.size false)) := by rw [hR]; simp
    exact (mem_ready.1 this).1
  have N := wpX_NA (md := .any) (k := k + 1) (r := 1) (L := fun listed a w => wpAny P .any l.toArray Q m listed a w) (F := fun _ => True) hs hT (l.take k) 0 (Array.replicate l.toArray.size false) a
    (fun j hj => by rw [hlt] at hj; simp [hj]) shut_none (by omega) (by rw [hlt]; exact hL) h (fun a' hC => by
      rw [hlt]
      refine ⟨fun _ => ⟨by rw [hR]; simp, fun j hj => ?_⟩, fun hc => ?_⟩
      · rw [hR] at hj
        have hj : j = k := by simpa using hj
        subst hj
        refine ⟨o, by simpa using ho, .inl ⟨by unfold Region.wanted; rw [hg], fun v w' => ∃ b, v = .pointer (some ⟨b, 0, none⟩) ∧ Blk w' b T zs ∧ w.heap.size ≤ b, ?_, ?_, ?_⟩⟩
        · rintro v w1 w2 ⟨b, h1, h2, h3⟩ hx; exact ⟨b, h1, h2.ext hx, h3⟩
        · intro w' hx
          unfold outX
          rw [hal]
          exact ⟨⟨w'.heap.size, rfl, Blk.new _ _ _, hx.size⟩, (Ext.refl _).alloc _⟩
        · rintro v _ ⟨b, rfl, _, _⟩
          refine ⟨fun c hc hcf => ?_, ?_, fun w' hx hF => ?_⟩
          · rcases Nat.lt_or_ge c j with h1 | h1
            · rw [getD_set_ne true (by omega)]; exact setFrom_getD _ _ _ _ (Nat.zero_le _) (by omega)
            · have : c = j := by omega
              subst this
              have : c < (setFrom c 0 (Array.replicate l.toArray.size false)).size := by rw [size_setFrom]; simp; omega
              simp [this]
          · rw [getD_set_ne true hkf]
            rcases Bool.or_eq_true_iff.1 hf with hf | hf
            · exact setFrom_getD _ _ _ _ (Nat.zero_le _) (by have := of_decide_eq_true hf; omega)
            · have hf := of_decide_eq_true hf
              have : (setFrom j 0 (Array.replicate l.toArray.size false)).size ≤ f := by rw [size_setFrom]; simpa using hf
              exact getD_ge this
          · obtain ⟨_, b', he, h2, h3⟩ := hF
            have he : b = b' := by simpa using he
            subst he
            show wpAny P .any l.toArray Q m _ _ w'
            rw [← hld]
            exact wpAny_list (l.drop (j + 1)) (j + 1) _ _ w' (fun x => by simp) (by rw [hld]; exact hS) (hC b w' hx h2 h3)
      · have := hc k (Nat.lt_succ_self _) hkf
        rw [hun] at this; cases this)
  have := NA_sound (m := m) (Region.noSelect_spec hs) (fun h => hQ (by simpa using h)) _ _ a (fun _ => True) w.drew (fun _ _ _ _ => trivial) (Ext.refl w).drew trivial N
  rw [hlt] at this
  rw [hsz] at this ⊢
  exact this
/-- Behind the first operations: one by one, but that parts of a tuple may come up late. -/
def isExtract (ops : Array Oper) (i : Nat) : Bool :=
  match ops[i]? with
  | some o => match o.op, o.guard with
    | .extract _ _, none => true
    | _, _ => false
  | none => false
def singlesF (md : Region.Mode) (ops : Array Oper) : Nat → Nat → Array Bool → Bool
  | 0, _, listed => (Region.ready md ops listed).isEmpty
  | n + 1, i, listed => ((Region.ready md ops listed == [i]) || (isExtract ops i && (Region.ready md ops listed).contains i && Region.free md ops listed i)) && singlesF md ops n (i + 1) (listed.setIfInBounds i true)
theorem extract_runs {o : Oper} {t : Operand} {ix : Nat} (ho : o.op = .extract t ix) (a : Act) : (∃ v, ∀ w, (execOp a.eval o).run P w = .ok (.value v) w) ∨ (∃ r, ∀ w, (execOp a.eval o).run P w = .halt (.stuck r) w) := by
  unfold execOp
  rw [ho]
  dsimp only
  unfold Instr.extract
  generalize a.eval t = x
  cases x
  case tuple vs =>
    dsimp only
    cases h : vs[ix]? with
    | some v => exact .inl ⟨v, fun w => rfl⟩
    | none => exact .inr ⟨_, fun w => rfl⟩
  all_goals exact .inr ⟨_, fun w => rfl⟩
theorem extract_events {o : Oper} {t : Operand} {ix : Nat} (ho : o.op = .extract t ix) (a : Act) (w : World) : ((execOp a.eval o).runT P w #[]).2 = #[] := by
  unfold execOp
  rw [ho]
  dsimp only
  unfold Instr.extract
  generalize a.eval t = x
  cases x
  case tuple vs =>
    dsimp only
    cases h : vs[ix]? with
    | some v => rfl
    | none => rfl
  all_goals rfl
theorem extract_yields {o : Oper} {t : Operand} {ix : Nat} (ho : o.op = .extract t ix) {a : Act} {w : World} {K : Act → World → Prop} (h : o.wp P a w K Q ∨ (o.asks P a w ∧ LetsOut Q)) : ∃ v, (∀ w', (execOp a.eval o).run P w' = .ok (.value v) w') ∧ K (a.put o.dst v) w := by
  replace h : o.wp P a w K Q := by
    rcases h with h | ⟨h, _⟩
    · exact h
    · have h1 := h.1
      rw [extract_events ho a w] at h1
      simp at h1
  rcases extract_runs (P := P) ho a with ⟨v, hv⟩ | ⟨r, hr⟩
  · unfold Oper.wp at h; rw [hv] at h; exact ⟨v, hv, h⟩
  · unfold Oper.wp at h; rw [hr] at h; exact h.elim
theorem wpAny_listF (hs : Region.noSelect ops = true) (hQ : ∀ d v c a w, Q (.panic c) (a.put d v) w → Q (.panic c) a w) : ∀ (tl : List Oper) (i : Nat) (listed : Array Bool) (a : Act) (w : World), (∀ j, tl[j]? = ops[i + j]?) → singlesF md ops tl.length i listed = true → wpList P ops Q tl a w → wpAny P md ops Q tl.length listed a w
  | [], i, listed, _, _, _, hB, h => ⟨by simpa [singlesF] using hB, h⟩
  | o :: tl, i, listed, a, w, hl, hB, h => by
    have h0 : ops[i]? = some o := by simpa using (hl 0).symm
    simp only [List.length_cons, singlesF, Bool.and_eq_true] at hB
    obtain ⟨hr, hB⟩ := hB
    have ih := fun a w => wpAny_listF hs hQ tl (i + 1) (listed.setIfInBounds i true) a w (fun x => by have := hl (x + 1); simpa [Nat.add_assoc, Nat.add_comm 1 x] using this) hB
    unfold wpList at h
    rcases Bool.or_eq_true_iff.1 hr with hr | hr
    · have hr : Region.ready md ops listed = [i] := by simpa using hr
      refine ⟨fun h' => (by rw [hr] at h'; cases h'), fun j hj => ?_⟩
      rw [hr] at hj
      have hj : j = i := by simpa using hj
      subst hj
      unfold wpOp
      rw [h0]
      dsimp only
      by_cases hw : Region.wanted o (yielded ops a.tmps) = true
      · rw [if_pos hw] at h ⊢
        exact Or.imp (Oper.wp_mono ih) id h
      · rw [if_neg hw] at h ⊢
        exact ih _ _ h
    · simp only [Bool.and_eq_true] at hr
      obtain ⟨⟨hx, hc⟩, hf⟩ := hr
      have hx : (∃ t ix, o.op = .extract t ix) ∧ o.guard = none := by
        unfold isExtract at hx
        rw [h0] at hx
        dsimp only at hx
        split at hx
        · rename_i t ix hop hg; exact ⟨⟨t, ix, hop⟩, hg⟩
        · cases hx
      obtain ⟨⟨t, ix, hop⟩, hg⟩ := hx
      have hw : Region.wanted o (yielded ops a.tmps) = true := by unfold Region.wanted; rw [hg]
      rw [if_pos hw] at h
      obtain ⟨v, hv, hk⟩ := extract_yields hop h
      exact wpAny_first h0 (Region.noSelect_spec hs) (fun c a w h => hQ _ _ c a w h) _ listed a w (Region.free_spec h0 hf) (by simpa using hc) (.inl ⟨hw, hv⟩) (ih _ _ hk)
def tailBF (ops : Array Oper) (k m : Nat) : Bool :=
  Region.noSelect ops && tailWaits .any ops k ops.size && lexK .any ops k 0 (Array.replicate ops.size false) && singlesF .any ops m k (setFrom k 0 (Array.replicate ops.size false))
/-- Nothing panics. -/
def noPanic (Q : Exit → Act → World → Prop) : Exit → Act → World → Prop := fun e a w => match e with
  | .panic _ => False
  | _ => Q e a w
@[go_sem] theorem noPanic_normal {a : Act} {w : World} : noPanic Q .normal a w = Q .normal a w := rfl
theorem wp_noPanic {c : Code} {a : Act} {w : World} (h : c.wp P (noPanic Q) a w) : c.wp P Q a w := wp_mono h (fun e a w h => by cases e <;> first | exact h | exact h.elim)
/-- As 'wp_region_tail'; behind the first operations parts of a tuple may come up late. -/
theorem wp_region_tailF {id : Nat} {a : Act} {w : World} {l : List Oper} (hm : P.follows .mixedOrders = true) (k m : Nat) (hn : l.length = k + m) (hB : tailBF l.toArray k m = true) 
    (h : wpX P l.toArray w l.length (fun a' => ∀ w', Ext w w' → wpList P l.toArray (noPanic Q) (l.drop k) a' w') (l.take k) 0 a) : (Code.region id l.toArray true).wp P Q a w := by
  simp only [tailBF, Bool.and_eq_true] at hB
  obtain ⟨⟨⟨hs, hT⟩, hL⟩, hS⟩ := hB
  refine wp_mono (Q := noPanic Q) ?_ (fun e a w h => by cases e <;> first | exact h | exact h.elim)
  refine wp_region_any hm ?_
  have hlt : (l.take k).length = k := by simp; omega
  have hld : (l.drop k).length = m := by simp; omega
  have hsz : l.toArray.size = l.length := by simp
  rw [hsz] at hT
  have N := wpX_NA (md := .any) (k := k) (r := 0) (L := fun listed a w => wpAny P .any l.toArray (noPanic Q) m listed a w) (F := fun _ => True) hs hT (l.take k) 0 (Array.replicate l.toArray.size false) a
    (fun j hj => by rw [hlt] at hj; simp [hj]) shut_none (by omega) (by rw [hlt]; exact hL) h (fun a' hC => by
      rw [hlt]
      refine ⟨fun c hc _ => setFrom_getD _ _ _ _ (Nat.zero_le _) (by omega), ?_, fun w' hx _ => ?_⟩
      · exact getD_ge (by rw [size_setFrom]; simp)
      · rw [← hld]
        exact wpAny_listF hs (fun _ _ _ _ _ h => h) (l.drop k) k _ a' w' (fun j => by simp) (by rw [hld]; exact hS) (hC w' hx))
  have := NA_sound (Q := noPanic Q) (m := m) (Region.noSelect_spec hs) (fun h => absurd h (by rw [hsz]; exact Nat.lt_irrefl _)) _ _ a (fun _ => True) w.drew (fun _ _ _ _ => trivial) (Ext.refl w).drew trivial N
  rw [hlt, Nat.add_zero] at this
  have e : l.toArray.size = k + m := by simpa using hn
  rw [e] at this ⊢
  exact this
end
end Go.Proofs.YthhcooljjhdjbaaGreat
namespace Go.Proofs.YthhcooljjhdjbaaGreat
open Go.RowKit

section
variable {P : Program} {ops : Array Oper} {Q : Exit → Act → World → Prop} {w0 : World} {md : Region.Mode}
theorem shut_setFrom : ∀ (n i : Nat) (listed : Array Bool), Shut md ops listed → lexK md ops n i listed = true → Shut md ops (setFrom n i listed)
  | 0, _, _, h, _ => h
  | n + 1, i, listed, h, hB => by
    simp only [lexK, Bool.and_eq_true] at hB
    exact shut_setFrom n (i + 1) _ (h.set (by simpa using hB.1.1)) hB.2
def callB (ops : Array Oper) (k m1 m f : Nat) : Bool :=
  Region.noSelect ops && tailWaits .any ops (k + 1 + m1) f && lexK .any ops k 0 (Array.replicate ops.size false) && (Region.ready .any ops (setFrom k 0 (Array.replicate ops.size false)) == [k]) &&
    lexK .any ops m1 (k + 1) ((setFrom k 0 (Array.replicate ops.size false)).setIfInBounds k true) &&
    singles .any ops m (k + 1 + m1) (setFrom m1 (k + 1) ((setFrom k 0 (Array.replicate ops.size false)).setIfInBounds k true)) && ((decide (f < k + 1 + m1) && !(f == k)) || decide (ops.size ≤ f))
def CallStep (P : Program) (ops : Array Oper) (w0 : World) (f k : Nat) (o : Oper) (rest : List Oper) (C : (Value → World → Prop) → Value → Act → Prop) (a' : Act) : Prop :=
  ∃ R : Value → World → Prop, (∀ v w1 w2, R v w1 → Ext w1 w2 → R v w2) ∧ (∀ w', Ext w0 w' → outX P o a' w' fun v w'' => R v w'' ∧ Ext w' w'') ∧ ∀ v w', R v w' → wpX P ops w0 f (C R v) rest (k + 1) (a'.put o.dst v)
theorem callStep {f k : Nat} {o : Oper} {rest : List Oper} {C : (Value → World → Prop) → Value → Act → Prop} {a' : Act} {F : FuncId} {args : Array Value} (R : Value → World → Prop) (hst : ∀ v w1 w2, R v w1 → Ext w1 w2 → R v w2)
    (h : ∀ w', (execOp a'.eval o).run P w' = .ok (.enter F args) w') (hc : ∀ w', Ext w0 w' → Calls P F args w' fun e w'' => ∃ v, e = .returned v ∧ R v w'' ∧ Ext w' w'')
    (hk : ∀ v w', R v w' → wpX P ops w0 f (C R v) rest (k + 1) (a'.put o.dst v)) : CallStep P ops w0 f k o rest C a' :=
  ⟨R, hst, fun w' hx => by unfold outX; rw [h w']; exact hc w' hx, hk⟩
theorem wp_region_call {id : Nat} {a : Act} {w : World} {l : List Oper} (hm : P.follows .mixedOrders = true) (k m1 m f : Nat) (hn : l.length = k + 1 + m1 + m) (hB : callB l.toArray k m1 m f = true)
    (o : Oper) (ho : l[k]? = some o) (hg : o.guard = none)
    (h : wpX P l.toArray w f (CallStep P l.toArray w f k o ((l.drop (k + 1)).take m1) fun R v a'' => ∀ w'', Ext w w'' → R v w'' → wpList P l.toArray (noPanic Q) (l.drop (k + 1 + m1)) a'' w'') (l.take k) 0 a) : (Code.region id l.toArray true).wp P Q a w := by
  simp only [callB, Bool.and_eq_true] at hB
  obtain ⟨⟨⟨⟨⟨⟨hs, hT⟩, hL⟩, hR⟩, hL2⟩, hS⟩, hf⟩ := hB
  have hR : Region.ready .any l.toArray (setFrom k 0 (Array.replicate l.toArray.size false)) = [k] := by simpa using hR
  refine wp_noPanic ?_
  refine wp_region_any hm ?_
  have hlt : (l.take k).length = k := by simp; omega
  have hlt2 : ((l.drop (k + 1)).take m1).length = m1 := by simp; omega
  have hld : (l.drop (k + 1 + m1)).length = m := by simp; omega
  have hsz : l.toArray.size = k + 1 + m1 + m := by simpa using hn
  have hkf : k ≠ f := by
    rcases Bool.or_eq_true_iff.1 hf with hf | hf
    · simp at hf; omega
    · have := of_decide_eq_true hf; omega
  have hun : (setFrom k 0 (Array.replicate l.toArray.size false)).getD k true = false := by
    have : k ∈ Region.ready .any l.toArray (setFrom k 0 (Array.replicate l.toArray.size false)) := by rw [hR]; simp
    exact (mem_ready.1 this).1
  have hsh := shut_setFrom k 0 _ (shut_none (md := .any) (ops := l.toArray)) hL
  have hshk := hsh.set (i := k) (by rw [hR]; simp)
  have N := wpX_NA (md := .any) (k := k + 1 + m1) (f := f) (r := m1 + 1) (L := fun listed a w => wpAny P .any l.toArray (noPanic Q) m listed a w) (F := fun _ => True) hs hT (l.take k) 0 (Array.replicate l.toArray.size false) a
    (fun j hj => by rw [hlt] at hj; simp [hj]) shut_none (by omega) (by rw [hlt]; exact hL) h (fun a' hC => by
      rw [hlt]
      obtain ⟨R, hst, hout, hC⟩ := hC
      refine ⟨fun _ => ⟨by rw [hR]; simp, fun j hj => ?_⟩, fun hc => ?_⟩
      · rw [hR] at hj
        have hj : j = k := by simpa using hj
        subst hj
        refine ⟨o, by simpa using ho, .inl ⟨by unfold Region.wanted; rw [hg], R, hst, hout, ?_⟩⟩
        intro v w' hr
        have N2 := wpX_NA (md := .any) (k := j + 1 + m1) (f := f) (r := 0) (L := fun listed a w => wpAny P .any l.toArray (noPanic Q) m listed a w) (F := fun w => True ∧ R v w) hs hT ((l.drop (j + 1)).take m1) (j + 1) ((setFrom j 0 (Array.replicate l.toArray.size false)).setIfInBounds j true) (a'.put o.dst v)
          (fun x hx => by rw [hlt2] at hx; simp [hx]) hshk (by omega) (by rw [hlt2]; exact hL2) (hC v w' hr) (fun a'' hC2 => by
            rw [hlt2]
            refine ⟨fun c hc hcf => ?_, ?_, fun w'' hx hF => ?_⟩
            · rcases Nat.lt_or_ge c (j + 1) with h1 | h1
              · refine getD_setFrom _ _ _ _ ?_
                rcases Nat.lt_or_ge c j with h2 | h2
                · rw [getD_set_ne true (by omega)]; exact setFrom_getD _ _ _ _ (Nat.zero_le _) (by omega)
                · have : c = j := by omega
                  subst this
                  have : c < (setFrom c 0 (Array.replicate l.toArray.size false)).size := by rw [size_setFrom]; simp; omega
                  simp [this]
              · exact setFrom_getD _ _ _ _ h1 (by omega)
            · rcases Bool.or_eq_true_iff.1 hf with hf | hf
              · simp at hf
                rcases Nat.lt_or_ge f (j + 1) with h1 | h1
                · refine getD_setFrom _ _ _ _ ?_
                  rw [getD_set_ne true hkf]
                  exact setFrom_getD _ _ _ _ (Nat.zero_le _) (by omega)
                · exact setFrom_getD _ _ _ _ h1 (by omega)
              · have hf := of_decide_eq_true hf
                exact getD_ge (by rw [size_setFrom]; simp only [Array.size_setIfInBounds]; rw [size_setFrom]; simpa using hf)
            · show wpAny P .any l.toArray (noPanic Q) m _ _ w''
              rw [← hld]
              exact wpAny_list (l.drop (j + 1 + m1)) (j + 1 + m1) _ _ w'' (fun x => by simp) (by rw [hld]; exact hS) (hC2 w'' hx hF.2))
        rw [hlt2, Nat.add_zero] at N2
        exact N2
      · have := hc k (by omega) hkf
        rw [hun] at this; cases this)
  have := NA_sound (Q := noPanic Q) (m := m) (Region.noSelect_spec hs) (fun _ _ _ _ _ _ h => h) _ _ a (fun _ => True) w.drew (fun _ _ _ _ => trivial) (Ext.refl w).drew trivial N
  rw [hlt, show k + (m1 + 1) + m = k + 1 + m1 + m by omega] at this
  rw [hsz] at this ⊢
  exact this
end
end Go.Proofs.YthhcooljjhdjbaaGreat
