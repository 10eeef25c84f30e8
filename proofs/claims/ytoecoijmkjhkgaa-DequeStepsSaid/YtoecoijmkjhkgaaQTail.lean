/- A region that draws its order: its operations read, or call what only makes memory; the last few come one behind the other. One walk in the order of the text serves every order; what is known of the world is a class of worlds. -/
import Derived.Deep.Quiet
import Derived.StillTail
import Derived.Tactics
namespace Go.Proofs.Ytoecoijmkjhkgaa

section
variable {P : Program} {Q : Exit → Act → World → Prop} {C : World → Prop}

/-- More room for orders does no harm. -/
theorem any_more {md : Region.Mode} {ops : Array Oper} : ∀ (f : Nat) (listed : Array Bool) (a : Act) (w : World), wpAny P md ops Q f listed a w → wpAny P md ops Q (f + 1) listed a w
  | 0, listed, a, w, h => ⟨fun _ => h.2, fun i hi => by rw [h.1] at hi; cases hi⟩
  | f + 1, listed, a, w, h => ⟨h.1, fun i hi => wpOp_mono (fun a' w' h' => any_more f _ a' w' h') (h.2 i hi)⟩
theorem any_more' {md : Region.Mode} {ops : Array Oper} (k f : Nat) (listed : Array Bool) (a : Act) (w : World) (h : wpAny P md ops Q f listed a w) : wpAny P md ops Q (k + f) listed a w := by
  induction k with
  | zero => rw [Nat.zero_add]; exact h
  | succ k ih => rw [show k + 1 + f = k + f + 1 by omega]; exact any_more _ _ _ _ ih

/-- Each waits for earlier ones alone. -/
def depsB (md : Region.Mode) (l : List Oper) : Bool :=
  (List.range l.length).all fun i => match l[i]? with
    | some o => o.after.all fun e => !Region.binds md e || decide (e.on < i)
    | none => true
def listed0 (n g : Nat) : Array Bool := (List.replicate n true ++ List.replicate g false).toArray
def quietTailB (md : Region.Mode) (l : List Oper) (n : Nat) : Bool :=
  l.all (fun o => o.guard.isNone) && decide (n < l.length) && Region.sinkB md l.toArray n && Region.chainB md l.toArray n && depsB md l && Region.seqB md l.toArray (l.length - n) n (listed0 n (l.length - n)) && Region.lexB md (l.take n).toArray

theorem depsB_spec {md : Region.Mode} {l : List Oper} (h : depsB md l = true) {i : Nat} {o : Oper} (ho : l[i]? = some o) : ∀ e ∈ o.after, Region.binds md e = true → e.on < i := by
  intro e he hb
  have hi : i < l.length := (List.getElem?_eq_some_iff.1 ho).1
  have h1 := List.all_eq_true.1 h i (List.mem_range.2 hi)
  simp only [ho] at h1
  have h2 := Array.all_eq_true'.1 h1 e he
  simpa [hb] using h2

/-- The first that has not come up. -/
theorem least_un (p : Nat → Bool) : ∀ n, (∃ i, i < n ∧ p i = false) → ∃ i, i < n ∧ p i = false ∧ ∀ j, j < i → p j = true := by
  intro n
  induction n with
  | zero => rintro ⟨i, hi, _⟩; omega
  | succ n ih =>
    rintro ⟨i, hi, hp⟩
    by_cases h : ∃ i, i < n ∧ p i = false
    · obtain ⟨k, hk, h1, h2⟩ := ih h
      exact ⟨k, by omega, h1, h2⟩
    · refine ⟨i, hi, hp, fun j hj => ?_⟩
      cases hpj : p j
      · exact absurd ⟨j, by omega, hpj⟩ h
      · rfl

theorem listed_eq {l : List Oper} {n : Nat} {listed : Array Bool} (hn : n ≤ l.length) (inv : HeadInv .any l.toArray n listed) (hall : ∀ i, i < n → listed.getD i false = true) : listed = listed0 n (l.length - n) := by
  apply Array.ext
  · rw [inv.size]; simp [listed0]; omega
  · intro i h1 h2
    by_cases hi : i < n
    · have := hall i hi
      simp [h1] at this
      simp [listed0, List.getElem_append_left, hi, this]
    · have := inv.tail i (by omega) (by rw [← inv.size]; exact h1)
      simp [h1] at this
      rw [this]
      show false = (List.replicate n true ++ List.replicate (l.length - n) false)[i]'(by simpa [listed0] using h2)
      rw [List.getElem_append_right (by simp; omega)]
      simp

theorem head_op {l : List Oper} {n i : Nat} {K : Act → Prop} {K' : Act → World → Prop} {a : Act} {w : World} (hg : l.all (fun o => o.guard.isNone) = true) (hin : i < n) (hil : i < l.length) (hC : C w) (h : ∀ a w', C w' → K a → K' a w')
    (hh : qOp P (l.take n).toArray C i K a) : wpOp P l.toArray Q i K' a w := by
  have h1 : l.toArray[i]? = some l[i] := by simp [hil]
  have h2 : (l.take n).toArray[i]? = some l[i] := by simp [List.getElem?_take_of_lt hin, hil]
  have h3 : l[i].guard = none := by
    have := List.all_eq_true.1 hg _ (List.getElem_mem hil)
    simpa using this
  have hw : ∀ y, Region.wanted l[i] y = true := fun y => by simp [Region.wanted, h3]
  unfold qOp at hh
  unfold wpOp
  simp only [h1, h2, hw, if_true] at hh ⊢
  exact .inl (Oper.wp_of_quiet hC h hh)

theorem head_any {l : List Oper} {n : Nat} {Qf : Act → Prop} (hg : l.all (fun o => o.guard.isNone) = true) (hn : n < l.length) (hs : Region.sinkB .any l.toArray n = true) (hc : Region.chainB .any l.toArray n = true) (hd : depsB .any l = true)
    (hQ : ∀ a w, C w → Qf a → wpAny P .any l.toArray Q (l.length - n) (listed0 n (l.length - n)) a w) :
    ∀ (f : Nat) (listed listed' : Array Bool) (a : Act) (w : World), HeadInv .any l.toArray n listed → listed'.size = n → (∀ i, i < n → listed'.getD i false = listed.getD i false) → C w →
      wpAnyQ P .any (l.take n).toArray C Qf f listed' a → wpAny P .any l.toArray Q (f + (l.length - n)) listed a w := by
  intro f
  induction f with
  | zero =>
    intro listed listed' a w inv hsz hsame hC h
    by_cases hall : ∀ i, i < n → listed.getD i false = true
    · rw [Nat.zero_add]
      have : listed = listed0 n (l.length - n) := listed_eq (by omega) inv hall
      rw [this]
      exact hQ a w hC h.2
    · exfalso
      obtain ⟨i, hi, h1, h2⟩ := least_un (fun i => listed.getD i false) n (by
        refine Classical.byContradiction fun hne => hall fun i hi => ?_
        cases hp : listed.getD i false
        · exact absurd ⟨i, hi, hp⟩ hne
        · rfl)
      have hmem : i ∈ Region.ready .any (l.take n).toArray listed' := by
        refine mem_ready.2 ⟨getD_in (by omega) ((hsame i hi).trans h1), l[i]'(by omega), by simp [List.getElem?_take_of_lt hi, show i < l.length by omega], fun e he hb => ?_⟩
        have hlt := depsB_spec hd (show l[i]? = some _ from by simp [show i < l.length by omega]) e he hb
        rw [hsame e.on (by omega)]
        exact h2 _ hlt
      rw [h.1] at hmem
      cases hmem
  | succ f ih =>
    intro listed listed' a w inv hsz hsame hC h
    by_cases hall : ∀ i, i < n → listed.getD i false = true
    · have hr : Region.ready .any (l.take n).toArray listed' = [] := by
        apply List.eq_nil_iff_forall_not_mem.2
        intro j hj
        obtain ⟨h1, o, h2, _⟩ := mem_ready.1 hj
        have hjn : j < n := by
          have := (Array.getElem?_eq_some_iff.1 h2).1
          simp at this
          omega
        have h3 := getD_both h1
        rw [hsame j hjn, hall j hjn] at h3
        cases h3
      have hQa := h.1 hr
      have : listed = listed0 n (l.length - n) := listed_eq (by omega) inv hall
      rw [this]
      exact any_more' _ _ _ _ _ (hQ a w hC hQa)
    · obtain ⟨i, hi, h1, h2⟩ := least_un (fun i => listed.getD i false) n (by
        refine Classical.byContradiction fun hne => hall fun i hi => ?_
        cases hp : listed.getD i false
        · exact absurd ⟨i, hi, hp⟩ hne
        · rfl)
      have hun : listed.getD i true = false := getD_in (by rw [inv.size]; simp; omega) h1
      rw [show f + 1 + (l.length - n) = f + (l.length - n) + 1 by omega]
      refine ⟨fun h0 => ?_, fun j hj => ?_⟩
      · have hmem : i ∈ Region.ready .any l.toArray listed := by
          refine mem_ready.2 ⟨hun, l[i]'(by omega), by simp [show i < l.length by omega], fun e he hb => ?_⟩
          exact h2 _ (depsB_spec hd (show l[i]? = some _ from by simp [show i < l.length by omega]) e he hb)
        rw [h0] at hmem
        cases hmem
      · have hjn : j < n := by
          rcases Nat.lt_or_ge j n with h3 | h3
          · exact h3
          · exact absurd hj (tail_waits hs hc (by simpa using hn) inv _ i rfl hi hun j h3)
        obtain ⟨g1, o, g2, g3⟩ := mem_ready.1 hj
        have hj' : j ∈ Region.ready .any (l.take n).toArray listed' := by
          refine mem_ready.2 ⟨getD_in (by omega) ((hsame j hjn).trans (getD_both g1)), o, by simp only [List.getElem?_toArray] at g2 ⊢; rw [List.getElem?_take_of_lt hjn]; exact g2, fun e he hb => ?_⟩
          have hlt := depsB_spec hd (show l[j]? = some o from by simpa using g2) e he hb
          rw [hsame e.on (by omega)]
          exact g3 e he hb
        refine head_op hg hjn (by omega) hC (fun a' w' hC' h' => ih _ _ a' w' (inv.set hj hjn) (by simpa using hsz) (fun k hk => ?_) hC' h') (h.2 j hj')
        by_cases e : j = k
        · subst e
          have s1 : j < listed.size := by rw [inv.size]; simp; omega
          simp [s1, show j < listed'.size by omega]
        · rw [getD_set_ne false e, getD_set_ne false e]
          exact hsame k hk

theorem wp_region_quiet_tail {id : Nat} {a : Act} {w : World} {l : List Oper} (n : Nat) (hm : P.follows .mixedOrders = true) (hB : quietTailB .any l n = true) (C : World → Prop) (hC : C w.drew)
    (h : wpQuiet P (l.take n).toArray C (fun a' => ∀ w', C w' → wpList P l.toArray Q (l.drop n) a' w') (l.take n) a) : (Code.region id l.toArray true).wp P Q a w := by
  simp only [quietTailB, Bool.and_eq_true, decide_eq_true_eq] at hB
  obtain ⟨⟨⟨⟨⟨⟨hg, hn⟩, hs⟩, hc⟩, hd⟩, hq⟩, hx⟩ := hB
  refine wp_region_any hm ?_
  have hx' := hx
  simp only [Region.lexB, Bool.and_eq_true] at hx'
  have H := wpAnyQ_lex (P := P) (C := C) (md := .any) hx'.1 (l.take n) 0 (Array.replicate (l.take n).toArray.size false) a (by simp) (by simpa using hx'.2) h
  have hsz : l.toArray.size = (l.take n).length + (l.length - n) := by simp; omega
  rw [hsz]
  refine head_any (C := C) hg hn hs hc hd (fun a' w' hC' h' => ?_) _ _ _ a _ ?_ ?_ ?_ hC H
  · have := wpAny_of_seq (P := P) (Q' := Q) (md := .any) (ops := l.toArray) (l.drop n) n (listed0 n (l.length - n)) a' w' (fun j => by simp [List.getElem?_drop]) (by rw [List.length_drop]; exact hq) (h' w' hC')
    rw [List.length_drop] at this
    exact this
  · exact ⟨by simp; omega, fun j oj _ hl => (by rw [getD_replicate_false] at hl; cases hl), fun t _ ht => getD_in (by simp at ht ⊢; omega) (getD_replicate_false _ _)⟩
  · simp; omega
  · intro i hi
    rw [getD_replicate_false, getD_replicate_false]

/-- One operation at a time. -/
theorem qstep {ops : Array Oper} {Qf : Act → Prop} {a : Act} {o : Oper} {rest : List Oper} (hg : o.guard = none) (h : ∃ v, (∀ w, C w → Oper.quietUpon P C w v ((execOp a.eval o).run P w)) ∧ wpQuiet P ops C Qf rest (a.put o.dst v)) : wpQuiet P ops C Qf (o :: rest) a := by
  have hw : ∀ y, Region.wanted o y = true := fun y => by simp [Region.wanted, hg]
  unfold wpQuiet
  rw [if_pos (hw _)]
  exact h
theorem quiet_val {w : World} {v : Value} : Oper.quietUpon P C w v (.ok (.value v) w) := ⟨rfl, rfl⟩
theorem quiet_call {w : World} {v : Value} {f : FuncId} {args : Array Value} (h : Calls P f args w fun e w'' => e = .returned v ∧ C w'') : Oper.quietUpon P C w v (.ok (.enter f args) w) := ⟨rfl, h⟩
end

end Go.Proofs.Ytoecoijmkjhkgaa
