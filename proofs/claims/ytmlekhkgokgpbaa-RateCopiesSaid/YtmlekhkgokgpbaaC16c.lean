/- Layer 16: keys of rates. -/
import Derived.Test.YtmlekhkgokgpbaaC16b
set_option linter.unusedSimpArgs false
namespace Go.Proofs.Ytmlekhkgokgpbaa
open Go.RowKit Go

/-- A rate as data. -/
structure Rt where
  cur : ByteArray
  kind : Int
  when_ : Int
  val : Int
def Rt.v (r : Rt) : Value := rateV r.cur r.kind r.when_ r.val
def sameK (a b : Rt) : Bool := (a.cur.toList == b.cur.toList) && (a.kind == b.kind) && (a.when_ == b.when_)

theorem below_two (W : World) (o o' : Obj) : Below W.heap.size W ((W.alloc o).alloc o') := ((Below.refl _ W).alloc (Nat.le_refl _) _).alloc (by simp) _

theorem sameKey_sum (W : World) (a b : Rt) :
    Calls Try.prog 20 #[a.v, b.v] W fun e w' => e = .returned (.bool (sameK a b)) ∧ Below W.heap.size W w' := by
  obtain ⟨c, k, w, v⟩ := a
  obtain ⟨c2, k2, w2, v2⟩ := b
  unfold Rt.v rateV sameK
  simp only
  go_enter Try.func20, Try.ntmps20
  go_wp2
  all_goals
    go_ret
    exact ⟨by simp [*], below_two W _ _⟩
def beforeK (a b : Rt) : Bool :=
  if (a.cur.toList == b.cur.toList) = false then Op.bytesLess a.cur.toList b.cur.toList
  else if (a.kind == b.kind) = false then decide (a.kind < b.kind) else decide (a.when_ < b.when_)
theorem before_sum (W : World) (a b : Rt) :
    Calls Try.prog 25 #[a.v, b.v] W fun e w' => e = .returned (.bool (beforeK a b)) ∧ Below W.heap.size W w' := by
  obtain ⟨c, k, w, v⟩ := a
  obtain ⟨c2, k2, w2, v2⟩ := b
  unfold Rt.v rateV beforeK
  simp only
  obtain ⟨e1, he1⟩ : ∃ e, (c.toList == c2.toList) = e := ⟨_, rfl⟩
  obtain ⟨e2, he2⟩ : ∃ e, (k == k2) = e := ⟨_, rfl⟩
  rw [he1, he2]
  have hb := below_two W (.cells #[.string c, .int .i64 k, .int .i64 w, .int .i64 v] 35) (.cells #[.string c2, .int .i64 k2, .int .i64 w2, .int .i64 v2] 35)
  cases e1
  · go_enter Try.func25, Try.ntmps25
    go_wp2
    all_goals
      go_ret
      exact ⟨rfl, hb⟩
  cases e2
  · have hne : (k != k2) = true := by simp only [bne, he2]; rfl
    go_enter Try.func25, Try.ntmps25
    go_wp2
    all_goals
      go_ret
      exact ⟨rfl, hb⟩
  · have hne : (k != k2) = false := by simp only [bne, he2]; rfl
    go_enter Try.func25, Try.ntmps25
    go_wp2
    all_goals
      go_ret
      exact ⟨rfl, hb⟩

def rt (x : rateT.den) : Rt := ⟨x.1, x.2.1, x.2.2.1, x.2.2.2.1⟩
theorem rateT_sz : rateT.sz = 4 := rfl
/-- A rate of a list, in memory. -/
theorem rate_at {S : Nat → Prop} {w : World} {a : Option Addr} {len cap : Nat} {xs : List rateT.den} (h : Rd (.sl rateT) S w [.slice a len cap] xs) (i : Nat) (hi : i < xs.length) :
    ∃ b off, a = some ⟨b, off, none⟩ ∧ S b ∧ w.cell? ⟨b, off + i * 4, none⟩ = some (.string (rt xs[i]).cur) ∧ w.cell? ⟨b, off + i * 4 + 1, none⟩ = some (.int .i64 (rt xs[i]).kind) ∧ w.cell? ⟨b, off + i * 4 + 2, none⟩ = some (.int .i64 (rt xs[i]).when_) ∧ w.cell? ⟨b, off + i * 4 + 3, none⟩ = some (.int .i64 (rt xs[i]).val) ∧ (rt xs[i]).cur.size ≤ maxLen := by
  obtain ⟨hl, -, -, vs, hr, hor⟩ := h.sl_flat
  obtain ⟨c, hc, hcc, hrd⟩ := hr.at_ i hi
  rcases hor with h0 | ⟨b, off, rfl, hb, hcell⟩
  · omega
  · generalize xs[i] = s at hrd ⊢
    obtain ⟨x, y, z, u, ⟨⟩⟩ := s
    obtain ⟨c1, r1, rfl, ⟨rfl, h1⟩, c2, r2, rfl, ⟨rfl, h2⟩, c3, r3, rfl, ⟨rfl, h3⟩, c4, r4, rfl, ⟨rfl, h4⟩, rfl⟩ := hrd
    refine ⟨b, off, rfl, hb, ?_, ?_, ?_, ?_, h1⟩
    · rw [show off + i * 4 = off + (i * rateT.sz + 0) by rw [rateT_sz]; omega]; exact hcell _ _ (hcc 0 _ rfl)
    · rw [show off + i * 4 + 1 = off + (i * rateT.sz + 1) by rw [rateT_sz]; omega]; exact hcell _ _ (hcc 1 _ rfl)
    · rw [show off + i * 4 + 2 = off + (i * rateT.sz + 2) by rw [rateT_sz]; omega]; exact hcell _ _ (hcc 2 _ rfl)
    · rw [show off + i * 4 + 3 = off + (i * rateT.sz + 3) by rw [rateT_sz]; omega]; exact hcell _ _ (hcc 3 _ rfl)
end Go.Proofs.Ytmlekhkgokgpbaa
