/- A slice of words that a call has made, grown and cut: its elements lie in a block of its own, from some place on. -/
import Derived.Test.YtoecoijmkjhkgaaOwn
import Derived.Test.YtoecoijmkjhkgaaWords
import Derived.Deep.AppendSrc
namespace Go.Proofs.Ytoecoijmkjhkgaa
open Go.RowKit

def View (w : World) (lo : Nat) (v : Value) (xs : List Int) : Prop :=
  (v = .slice none 0 0 ∧ xs = []) ∨
  ∃ g off cap cur, v = .slice (some ⟨g, off, none⟩) xs.length cap ∧ lo ≤ g ∧ Blk w g 38 cur ∧ off + cap ≤ cur.size ∧ xs.length ≤ cap ∧ ∀ i, i < xs.length → cur[off + i]? = some (.int .u64 (nth xs i))

theorem View.nil (w : World) (lo : Nat) : View w lo (.slice none 0 0) [] := .inl ⟨rfl, rfl⟩

theorem View.only {w w' : World} {lo : Nat} {v : Value} {xs : List Int} {S : List Nat} (h : View w lo v xs) (o : Only S w w') (hS : ∀ x ∈ S, x < lo) : View w' lo v xs := by
  rcases h with h | ⟨g, off, cap, cur, hv, hg, hb, r⟩
  · exact .inl h
  · exact .inr ⟨g, off, cap, cur, hv, hg, hb.only o (fun hx => by have := hS g hx; omega), r⟩

theorem View.lo {w : World} {lo : Nat} {v : Value} {xs : List Int} (h : View w lo v xs) : ∀ x, v.ownBlock = some x → lo ≤ x := fun x hx => by
  rcases h with ⟨rfl, _⟩ | ⟨g, off, cap, cur, rfl, hg, _⟩
  · cases hx
  · have : g = x := by simpa [Value.ownBlock] using hx
    omega

/-- What it looks like. -/
theorem View.form {w : World} {lo : Nat} {v : Value} {xs : List Int} (h : View w lo v xs) : ∃ A cap, v = .slice A xs.length cap := by
  rcases h with ⟨rfl, rfl⟩ | ⟨g, off, cap, cur, rfl, _⟩
  · exact ⟨_, _, rfl⟩
  · exact ⟨_, _, rfl⟩

/-- Its elements. -/
theorem View.cells {w : World} {lo : Nat} {v : Value} {xs : List Int} (h : View w lo v xs) (h0 : 0 < xs.length) : ∃ g off cap, v = .slice (some ⟨g, off, none⟩) xs.length cap ∧ xs.length ≤ cap ∧ g < w.heap.size ∧ ∀ i, i < xs.length → w.cell? ⟨g, off + i, none⟩ = some (.int .u64 (nth xs i)) := by
  rcases h with ⟨rfl, rfl⟩ | ⟨g, off, cap, cur, rfl, hg, hb, h1, h2, h3⟩
  · simp at h0
  · exact ⟨g, off, cap, rfl, h2, hb.lt, fun i hi => hb.at (off + i) (h3 i hi)⟩

/-- Without its first element. -/
theorem View.tail {w : World} {lo g off cap : Nat} {x : Int} {xs : List Int} (h : View w lo (.slice (some ⟨g, off, none⟩) (xs.length + 1) cap) (x :: xs)) :
    (cap = 1 → View w lo (.slice (some ⟨g, off, none⟩) xs.length 0) xs) ∧ (cap ≠ 1 → View w lo (.slice (some ⟨g, off + 1, none⟩) xs.length (cap - 1)) xs) := by
  rcases h with ⟨e, _⟩ | ⟨g', off', cap', cur, e, hg, hb, h1, h2, h3⟩
  · cases e
  · simp only [Value.slice.injEq, Option.some.injEq, Addr.mk.injEq] at e
    obtain ⟨⟨rfl, rfl, _⟩, _, rfl⟩ := e
    simp only [List.length_cons] at h2 h3
    refine ⟨fun h => ?_, fun h => ?_⟩
    · subst h
      have hl : xs.length = 0 := by omega
      have : xs = [] := List.eq_nil_of_length_eq_zero hl
      subst this
      exact .inr ⟨g, off, 0, cur, rfl, hg, hb, by omega, by simp, fun i hi => by simp at hi⟩
    · refine .inr ⟨g, off + 1, cap - 1, cur, rfl, hg, hb, by omega, by omega, fun i hi => ?_⟩
      have := h3 (i + 1) (by omega)
      rw [show off + 1 + i = off + (i + 1) by omega, this]
      simp [nth]

/-- Its first k elements. -/
theorem View.take {w : World} {lo g off cap k : Nat} {xs : List Int} (h : View w lo (.slice (some ⟨g, off, none⟩) xs.length cap) xs) (hk : k ≤ xs.length) : View w lo (.slice (some ⟨g, off, none⟩) k cap) (xs.take k) := by
  rcases h with ⟨e, _⟩ | ⟨g', off', cap', cur, e, hg, hb, h1, h2, h3⟩
  · cases e
  · simp only [Value.slice.injEq, Option.some.injEq, Addr.mk.injEq] at e
    obtain ⟨⟨rfl, rfl, _⟩, _, rfl⟩ := e
    have hl : (xs.take k).length = k := by rw [List.length_take]; omega
    refine .inr ⟨g, off, cap, cur, by rw [hl], hg, hb, h1, by omega, fun i hi => ?_⟩
    rw [h3 i (by omega)]
    have : nth (xs.take k) i = nth xs i := by simp [nth, List.getElem?_take_of_lt (show i < k by omega)]
    rw [this]

/-- What an append leaves. -/
def Appended (w : World) (lo : Nat) (v : Value) (xs : List Int) (y : Int) (v' : Value) (w' : World) : Prop := View w' lo v' (xs ++ [y]) ∧ Only v.ownBlock.toList w w'

set_option maxRecDepth 100000 in
theorem run_append_view (w : World) (ty : TypeId) (lo : Nat) (v : Value) (xs : List Int) (hv : View w lo v xs) (ad : Addr) (c : Nat) (y : Int) (hy : w.cell? ad = some (.int .u64 y)) (hl : xs.length ≤ 1000000) (hlo : lo ≤ w.heap.size) :
    ∃ v' w', (Builtin.append_ #[22, 22] ty #[v, .slice (some ad) 1 c]).run Try.prog w = .ok v' w' ∧ Appended w lo v xs y v' w' := by
  obtain ⟨i0, hi, hz0, hz1, hz2⟩ := info_parts Try.info38
  have hn : ∀ j u, [Value.int .u64 y][j]? = some u → w.cell? (ad.add j) = some u := by
    intro j u hj
    match j, hj with
    | 0, hj => simp at hj; subst hj; simpa [Addr.add] using hy
  have h1 : ∀ u ∈ [Value.int .u64 y], u.oneCell' = true := by intro u hu; simp at hu; subst hu; rfl
  rcases hv with ⟨rfl, rfl⟩ | ⟨g, off, cap, cur, rfl, hg, hb, hsz, hcap, hcells⟩
  · obtain ⟨v', w', hrun, hown, hgr, _⟩ := run_append_own (P := Try.prog) w w.heap.size 22 ty 38 i0 (.int .u64 0) 1 8 Try.underlying22 hi hz0 hz1 hz2 rfl (by decide) (.slice none 0 0) 0 [] (World.ownsRow_nil _ _ _ _) ad 1 c [.int .u64 y] rfl hn h1 (by unfold maxLen; omega) (by omega) (Nat.le_refl _)
    refine ⟨v', w', hrun, ?_, ?_⟩
    · right
      obtain ⟨g, cap, cur, rfl, hg, hb, hc⟩ := row_cells hown (by omega)
      have h2 := hown.2
      rcases h2 with ⟨e, _⟩ | ⟨g', cap', cur', e, hg', hh', hcp, _, hszz, htk⟩
      · cases e
      · simp only [Value.slice.injEq, Option.some.injEq, Addr.mk.injEq] at e
        obtain ⟨⟨rfl, _, _⟩, _, rfl⟩ := e
        have hcc := (Blk.inj hb hh').2
        subst hcc
        refine ⟨g, 0, cap, cur, rfl, by omega, hb, by omega, by simpa using hcp, fun i hi => ?_⟩
        match i, hi with
        | 0, _ => rw [hc 0 (by omega)]; rfl
    · exact grown_only hgr
  · by_cases hroom : xs.length + 1 ≤ cap
    · have hsrc := Src.ofSlice (P := Try.prog) (w := w) (size := i0.size) Try.underlying22 ad 1 c [.int .u64 y] (by rw [hz1]; rfl) hn h1
      have hlt : off + xs.length < cur.size := by omega
      have hrun := run_append_room_src (P := Try.prog) w 22 22 ty 38 i0 Try.underlying22 hi g off xs.length cap _ 1 [.int .u64 y] hsrc hroom (fun j hj => by
        rw [hb.cell]
        have : j = 0 := by simpa using hj
        subst this
        rw [hz1]
        simp [hlt]) (fun j hj => hb.frozen _)
      refine ⟨_, _, hrun, ?_, ?_⟩
      · right
        rw [hz1]
        have hset : Blk (w.setCells g (off + xs.length * 1) [.int .u64 y]) g 38 (cur.setIfInBounds (off + xs.length * 1) (.int .u64 y)) := by
          show Blk (w.setCell ⟨g, off + xs.length * 1, none⟩ (.int .u64 y)) g 38 _
          exact hb.set _ _
        refine ⟨g, off, cap, _, by simp, hg, hset, by simpa using hsz, by simp; omega, fun i hi => ?_⟩
        simp at hi
        rw [Nat.mul_one, Array.getElem?_setIfInBounds]
        by_cases e : i = xs.length
        · subst e
          rw [if_pos rfl, if_pos hlt]
          simp [nth]
        · rw [if_neg (by omega), hcells i (by omega)]
          simp [nth, List.getElem?_append_left (show i < xs.length by omega)]
      · show Only _ w (w.setCell ⟨g, off + xs.length * i0.size, none⟩ (.int .u64 y))
        exact (Only.refl _ _).setCell (.inl (by simp [Value.ownBlock])) _
    · have hfit : Builtin.nextslicecap (xs.length + 1) cap * i0.bytes ≤ 281474976710656 := by
        rw [hz2]
        have := growslice_fits (need := xs.length + 1) (old := cap) (bytes := 8) (by omega) (by omega)
        exact this
      have hrun := run_append_grow (P := Try.prog) w 22 ty 38 i0 (.int .u64 0) Try.underlying22 hi hz0 ⟨g, off, none⟩ xs.length cap (xs.map (Value.int .u64)) (by rw [hz1]; simp) (fun j u hj => by
        have hjl : j < xs.length := by have := (List.getElem?_eq_some_iff.1 hj).1; simpa using this
        rw [Addr.add_lit, hb.cell, hcells j hjl, ← hj]
        simp [nth, hjl]) ad 1 c [.int .u64 y] (by rw [hz1]; rfl) hn (by omega) (by omega) hfit
      refine ⟨_, _, hrun, ?_, ?_⟩
      · right
        have hge : xs.length + 1 ≤ grownCap w (xs.length + 1) cap 38 := grownCap_ge _ _ _ _
        refine ⟨w.heap.size, 0, grownCap w (xs.length + 1) cap 38, _, by simp, hlo, Blk.new w.drew 38 _, ?_, by simpa using hge, fun i hi => ?_⟩
        · simp [Builtin.zeroCells]
          show _ ≤ xs.length + 1 + (grownCap w (xs.length + 1) cap 38 - (xs.length + 1)) * 1
          omega
        · simp at hi
          rw [Nat.zero_add]
          have e : (List.map (Value.int .u64) xs).toArray ++ [Value.int .u64 y].toArray = ((xs ++ [y]).map (Value.int .u64)).toArray := by simp
          rw [e, Array.getElem?_append_left (by simp; omega)]
          have hi2 : i < (xs ++ [y]).length := by simp; omega
          rw [List.getElem?_toArray, List.getElem?_map, List.getElem?_eq_getElem hi2]
          simp [nth]
          rw [List.getElem?_eq_getElem hi2]
          rfl
      · exact ((Only.refl _ _).drew.alloc _)

theorem wpList_append_view {ops : Array Oper} {rest : List Oper} {o : Oper} {a : Act} {Q : Exit → Act → World → Prop} (hgd : o.guard = none) (s x : Operand)
    (ho : o.op = .call { callee := .builtin .append, args := #[s, x], argTypes := #[22, 22] }) (w : World) (lo : Nat) (v : Value) (xs : List Int) (hs : a.eval s = v) (hv : View w lo v xs) (ad : Addr) (c : Nat) (y : Int) (hx : a.eval x = .slice (some ad) 1 c)
    (hy : w.cell? ad = some (.int .u64 y)) (hl : xs.length ≤ 1000000) (hlo : lo ≤ w.heap.size)
    (h : ∀ v' w', Appended w lo v xs y v' w' → wpList Try.prog ops Q rest (a.put o.dst v') w') : wpList Try.prog ops Q (o :: rest) a w := by
  refine wpList_plain hgd fun K hK => ?_
  obtain ⟨v', w', hrun, hA⟩ := run_append_view w o.type lo v xs hv ad c y hy hl hlo
  unfold Oper.wp
  simp [execOp, ho, resolve, invoke, builtin, hs, hx, hrun, Result.andThen]
  exact hK _ _ (h v' w' hA)

end Go.Proofs.Ytoecoijmkjhkgaa
