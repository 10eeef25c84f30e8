/- The program's holders and words, and the document's, side by side: plain words on memory; the document's holders as the law makes them. -/
import Derived.Test.YtabbnfodolekpaaRTick
import Derived.Test.YtabbnfodolekpaaKnown05
import Derived.Test.YtabbnfodolekpaaTPlain
import Derived.Test.YtabbnfodolekpaaBytes
namespace Go.Proofs.Ytabbnfodolekpaa
open Go.RowKit

theorem step_at (h : HS) (m : MS) : (h.step m).1.at_ = h.at_ := by unfold HS.step; split; rfl; split; rfl; split; rfl; split <;> rfl
theorem leave_at (h : HS) : h.leave.1.at_ = h.at_ := by unfold HS.leave; split <;> rfl
theorem act_len (m : MS) (x : Act') : (m.act x).1.L.length = m.L.length := by
  have h1 : ∀ i, (m.load i).1.L.length = m.L.length := fun i => by unfold MS.load; split <;> rfl
  have h2 : ∀ i v, (m.store i v).1.L.length = m.L.length := fun i v => by unfold MS.store; split <;> simp
  have h3 : ∀ i x y, (m.cas i x y).1.L.length = m.L.length := fun i x y => by unfold MS.cas; split <;> (try split) <;> simp
  have h4 : ∀ i v, (m.add i v).1.L.length = m.L.length := fun i v => by unfold MS.add; split <;> simp
  unfold MS.act
  split
  · exact h1 _
  split
  · exact h2 _ _
  split
  · exact h3 _ _ _
  split
  · exact h4 _ _
  rfl
theorem step_len (h : HS) (m : MS) : (h.step m).2.L.length = m.L.length := by
  unfold HS.step
  split
  · rfl
  split
  · exact act_len _ _
  split
  · exact act_len _ _
  split <;> exact act_len _ _

/-- n of the document's holders: their places in a row at block g, and their states. -/
structure RsAt (w : World) (g n : Nat) (B : Nat → Nat) (H : Nat → HS) : Prop where
  row : ∃ cur, Blk w g 73 cur ∧ ∀ k, k < n → cur[k]? = some (.pointer (some ⟨B k, 0, none⟩))
  inj : ∀ i j, i < n → j < n → B i = B j → i = j
  at_ : ∀ k, k < n → IsRH w (B k) (H k)

section
variable {w w' : World} {g n : Nat} {B : Nat → Nat} {H : Nat → HS}
theorem RsAt.cell (h : RsAt w g n B H) {k : Nat} (hk : k < n) : w.cell? ⟨g, k, none⟩ = some (.pointer (some ⟨B k, 0, none⟩)) := by
  obtain ⟨cur, hb, hc⟩ := h.row
  exact hb.at k (hc k hk)
theorem RsAt.ne (h : RsAt w g n B H) {k : Nat} (hk : k < n) : g ≠ B k := by
  obtain ⟨cur, hb, _⟩ := h.row
  exact hb.ne (h.at_ k hk) (by decide)
theorem RsAt.only {S : List Nat} (h : RsAt w g n B H) (o : Only S w w') (hg : g ∉ S) (hB : ∀ k, k < n → B k ∉ S) : RsAt w' g n B H := by
  obtain ⟨cur, hb, hc⟩ := h.row
  exact ⟨⟨cur, hb.only o hg, hc⟩, h.inj, fun k hk => Blk.only (h.at_ k hk) o (hB k hk)⟩
theorem RsAt.step {S : List Nat} (h : RsAt w g n B H) {k : Nat} (hk : k < n) {h' : HS} (o : Only (B k :: S) w w') (hg : g ∉ S) (hB : ∀ j, j < n → B j ∉ S) (hh : IsRH w' (B k) h') :
    RsAt w' g n B (upd H k h') := by
  obtain ⟨cur, hb, hc⟩ := h.row
  refine ⟨⟨cur, hb.only o (by have := h.ne hk; simp; exact ⟨this, hg⟩), hc⟩, h.inj, fun j hj => ?_⟩
  unfold upd
  split
  · rename_i e; subst e; exact hh
  · rename_i e
    refine Blk.only (h.at_ j hj) o ?_
    simp only [List.mem_cons, not_or]
    exact ⟨fun e' => e (h.inj j k hj hk e'), hB j hj⟩
end

/-- Both sides: holders H and words m of the program, holders K and words m' of the document. -/
structure Duo (w0 w : World) (mb ms rb rs g g2 n : Nat) (B C : Nat → Nat) (H K : Nat → HS) (m m' : MS) : Prop where
  only : Only [] w0 w
  mem : IsMem w mb ms m
  ref : IsRef w rb rs m'
  hs : HsAt w g n B H
  ys : RsAt w g2 n C K
  b0 : w0.heap.size ≤ mb
  b1 : w0.heap.size ≤ ms
  b2 : w0.heap.size ≤ rb
  b3 : w0.heap.size ≤ rs
  bB : ∀ k, k < n → w0.heap.size ≤ B k
  bC : ∀ k, k < n → w0.heap.size ≤ C k
  n3 : ms ≠ rs

section
variable {w0 w w' : World} {mb ms rb rs g g2 n : Nat} {B C : Nat → Nat} {H K : Nat → HS} {m m' : MS}
theorem Duo.quiet (h : Duo w0 w mb ms rb rs g g2 n B C H K m m') (o : Only [] w w') : Duo w0 w' mb ms rb rs g g2 n B C H K m m' :=
  { h with only := h.only.trans o, mem := h.mem.only o (by simp) (by simp), ref := h.ref.only o (by simp) (by simp), hs := h.hs.only o (by simp) (fun _ _ => by simp), ys := h.ys.only o (by simp) (fun _ _ => by simp) }

theorem Duo.gRow (h : Duo w0 w mb ms rb rs g g2 n B C H K m m') : ∃ cur, Blk w g 65 cur := ⟨_, h.hs.row.choose_spec.1⟩
theorem Duo.g2Row (h : Duo w0 w mb ms rb rs g g2 n B C H K m m') : ∃ cur, Blk w g2 73 cur := ⟨_, h.ys.row.choose_spec.1⟩

theorem Duo.leaveH (h : Duo w0 w mb ms rb rs g g2 n B C H K m m') {k : Nat} (hk : k < n) {h' : HS} (o : Only [B k] w w') (hh : IsH w' (B k) h') : Duo w0 w' mb ms rb rs g g2 n B C (upd H k h') K m m' := by
  have hb := h.hs.at_ k hk
  obtain ⟨c2, hg2⟩ := h.g2Row
  exact { h with
    only := h.only.then o (by have := h.bB k hk; simp; exact this)
    mem := h.mem.only o (by simpa using (Blk.ne h.mem.obj hb (by decide))) (by simpa using (Blk.ne h.mem.row hb (by decide)))
    ref := h.ref.only o (by simpa using (Blk.ne h.ref.obj hb (by decide))) (by simpa using (Blk.ne h.ref.row hb (by decide)))
    hs := h.hs.step hk (S := []) o (by simp) (fun _ _ => by simp) hh
    ys := h.ys.only o (by simpa using (Blk.ne hg2 hb (by decide))) (fun j hj => by simpa using (Blk.ne (h.ys.at_ j hj) hb (by decide))) }

theorem Duo.leaveK (h : Duo w0 w mb ms rb rs g g2 n B C H K m m') {k : Nat} (hk : k < n) {h' : HS} (o : Only [C k] w w') (hh : IsRH w' (C k) h') : Duo w0 w' mb ms rb rs g g2 n B C H (upd K k h') m m' := by
  have hb := h.ys.at_ k hk
  obtain ⟨c1, hg1⟩ := h.gRow
  exact { h with
    only := h.only.then o (by have := h.bC k hk; simp; exact this)
    mem := h.mem.only o (by simpa using (Blk.ne h.mem.obj hb (by decide))) (by simpa using (Blk.ne h.mem.row hb (by decide)))
    ref := h.ref.only o (by simpa using (Blk.ne h.ref.obj hb (by decide))) (by simpa using (Blk.ne h.ref.row hb (by decide)))
    ys := h.ys.step hk (S := []) o (by simp) (fun _ _ => by simp) hh
    hs := h.hs.only o (by simpa using (Blk.ne hg1 hb (by decide))) (fun j hj => by simpa using (Blk.ne (h.hs.at_ j hj) hb (by decide))) }

theorem Duo.farB (h : Duo w0 w mb ms rb rs g g2 n B C H K m m') {k : Nat} (hk : k < n) : B k ≠ mb ∧ B k ≠ ms :=
  ⟨Blk.ne (h.hs.at_ k hk) h.mem.obj (by decide), Blk.ne (h.hs.at_ k hk) h.mem.row (by decide)⟩
theorem Duo.farC (h : Duo w0 w mb ms rb rs g g2 n B C H K m m') {k : Nat} (hk : k < n) : C k ≠ rb ∧ C k ≠ rs :=
  ⟨Blk.ne (h.ys.at_ k hk) h.ref.obj (by decide), Blk.ne (h.ys.at_ k hk) h.ref.row (by decide)⟩

theorem Duo.stepH (h : Duo w0 w mb ms rb rs g g2 n B C H K m m') {k : Nat} (hk : k < n) {h' : HS} {p : MS} (o : Only [B k, mb, ms] w w') (hh : IsH w' (B k) h') (hm : IsMem w' mb ms p) : Duo w0 w' mb ms rb rs g g2 n B C (upd H k h') K p m' := by
  have hb := h.hs.at_ k hk
  obtain ⟨c2, hg2⟩ := h.g2Row
  obtain ⟨c1, hg1⟩ := h.gRow
  exact { h with
    only := h.only.then o (by have := h.bB k hk; have := h.b0; have := h.b1; simp; omega)
    mem := hm
    ref := h.ref.only o (by have h1 := Blk.ne h.ref.obj hb (by decide); have h2 := Blk.ne h.ref.obj h.mem.obj (by decide); have h3 := Blk.ne h.ref.obj h.mem.row (by decide); simp; exact ⟨h1, h2, h3⟩) (by have h1 := Blk.ne h.ref.row hb (by decide); have h2 := Blk.ne h.ref.row h.mem.obj (by decide); have h3 := h.n3.symm; simp; exact ⟨h1, h2, h3⟩)
    hs := h.hs.step hk (S := [mb, ms]) o (by have h2 := Blk.ne hg1 h.mem.obj (by decide); have h3 := Blk.ne hg1 h.mem.row (by decide); simp; exact ⟨h2, h3⟩) (fun j hj => by have := h.farB hj; simp; exact this) hh
    ys := h.ys.only o (by have h1 := Blk.ne hg2 hb (by decide); have h2 := Blk.ne hg2 h.mem.obj (by decide); have h3 := Blk.ne hg2 h.mem.row (by decide); simp; exact ⟨h1, h2, h3⟩) (fun j hj => by have h1 := Blk.ne (h.ys.at_ j hj) hb (by decide); have h2 := Blk.ne (h.ys.at_ j hj) h.mem.obj (by decide); have h3 := Blk.ne (h.ys.at_ j hj) h.mem.row (by decide); simp; exact ⟨h1, h2, h3⟩) }

theorem Duo.stepK (h : Duo w0 w mb ms rb rs g g2 n B C H K m m') {k : Nat} (hk : k < n) {h' : HS} {p : MS} (o : Only [C k, rb, rs] w w') (hh : IsRH w' (C k) h') (hm : IsRef w' rb rs p) : Duo w0 w' mb ms rb rs g g2 n B C H (upd K k h') m p := by
  have hb := h.ys.at_ k hk
  obtain ⟨c2, hg2⟩ := h.g2Row
  obtain ⟨c1, hg1⟩ := h.gRow
  exact { h with
    only := h.only.then o (by have := h.bC k hk; have := h.b2; have := h.b3; simp; omega)
    ref := hm
    mem := h.mem.only o (by have h1 := Blk.ne h.mem.obj hb (by decide); have h2 := Blk.ne h.mem.obj h.ref.obj (by decide); have h3 := Blk.ne h.mem.obj h.ref.row (by decide); simp; exact ⟨h1, h2, h3⟩) (by have h1 := Blk.ne h.mem.row hb (by decide); have h2 := Blk.ne h.mem.row h.ref.obj (by decide); have h3 := h.n3; simp; exact ⟨h1, h2, h3⟩)
    ys := h.ys.step hk (S := [rb, rs]) o (by have h2 := Blk.ne hg2 h.ref.obj (by decide); have h3 := Blk.ne hg2 h.ref.row (by decide); simp; exact ⟨h2, h3⟩) (fun j hj => by have := h.farC hj; simp; exact this) hh
    hs := h.hs.only o (by have h1 := Blk.ne hg1 hb (by decide); have h2 := Blk.ne hg1 h.ref.obj (by decide); have h3 := Blk.ne hg1 h.ref.row (by decide); simp; exact ⟨h1, h2, h3⟩) (fun j hj => by have h1 := Blk.ne (h.hs.at_ j hj) hb (by decide); have h2 := Blk.ne (h.hs.at_ j hj) h.ref.obj (by decide); have h3 := Blk.ne (h.hs.at_ j hj) h.ref.row (by decide); simp; exact ⟨h1, h2, h3⟩) }
end

theorem eqw_alike (w : World) (v v' : Value) (L : List Int) (h : IsRow w v L) (h' : IsRow w v' L) : Calls Try.prog 20 #[v, v'] w fun e w' => e = .returned (.bool true) ∧ Only [] w w' :=
  (eqw_any w v v' L L h h').mono fun e w' ⟨he, ho⟩ => ⟨by rw [he]; simp, ho⟩

theorem cut_whole (L : List Int) (N : Nat) (hN : 1 ≤ N) (hl : L.length = N) : cutL L 0 N = L := by
  unfold cutL
  rw [if_pos (by omega)]
  simp [hl.symm]

theorem Try.infoRH : (Try.prog.info? 73).map (fun i => (i.zero, i.size, i.bytes)) = some (some (.pointer none), 1, 8) := by kernel_rfl

end Go.Proofs.Ytabbnfodolekpaa
