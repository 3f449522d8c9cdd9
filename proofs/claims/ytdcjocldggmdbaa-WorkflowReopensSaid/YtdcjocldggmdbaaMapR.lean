/- Program independent: loops over maps keyed by any type of keys (MapG): the start, the step. -/
import Derived.Test.YtdcjocldggmdbaaMapG
import Derived.Maps.RangeWalk
namespace Go.Proofs.Ytdcjocldggmdbaa
open Go.RowKit Go

section
variable {P : Program} {k e : TypeId} {κ α : Type}
/-- A loop over a map: 'left' tells which keys are still to come. -/
def RgG (Ks : KeyS P k κ) (Es : ElS P e α) (w : World) (b r m : Nat) (f : κ → Option α) (left : κ → Bool) (cnt : Nat) : Prop :=
  ∃ (D : DataW Unit) (L : Lit → Bool), w.ranges P k Es.R b r m D L cnt ∧ Maps.size D = m ∧ (∀ x : κ, Ks.ok x → Maps.has D (Ks.l x) = (f x).isSome ∧ D.atKey (Ks.l x) (Es.d Es.z) = Es.d ((f x).getD Es.z)) ∧ ∀ x, Ks.ok x → L (Ks.l x) = left x
variable {Ks : KeyS P k κ} {Es : ElS P e α} {w : World} {b r m : Nat} {f : κ → Option α} {left : κ → Bool} {cnt : Nat}
theorem RgG.left_eq (h : RgG Ks Es w b r m f left cnt) : w.rangeLeft b r = cnt := by
  obtain ⟨D, L, h, -⟩ := h
  exact h.left_eq
theorem RgG.ne (h : RgG Ks Es w b r m f left cnt) : r ≠ b := by
  obtain ⟨D, L, h, -⟩ := h
  exact h.ne
theorem RgG.lt (h : RgG Ks Es w b r m f left cnt) : r < w.heap.size := by
  obtain ⟨D, L, h, -⟩ := h
  exact h.lt
theorem RgG.map (h : RgG Ks Es w b r m f left cnt) : MapG Ks Es w b m f := by
  obtain ⟨D, L, h, h0, h1, h2⟩ := h
  exact ⟨D, h.owns, h0, h1⟩
theorem RgG.kept {w' : World} {row : Option Nat} (h : RgG Ks Es w b r m f left cnt) (hg : w.grownBy w' row) (hb' : some b ≠ row) (hr' : some r ≠ row) : RgG Ks Es w' b r m f left cnt := by
  obtain ⟨D, L, h, h0, h1, h2⟩ := h
  exact ⟨D, L, h.kept hg hb' hr', h0, h1, h2⟩
theorem RgG.gr {F : Nat → Prop} {w' : World} (h : RgG Ks Es w b r m f left cnt) (hg : Gr F w w') (hb : ¬ F b) (hr : ¬ F r) : RgG Ks Es w' b r m f left cnt := by
  obtain ⟨D, L, ⟨es, clock, since, seen, c0, hb0, F0, hs, rfl, hr0, hold, hc, h1, h2, h3⟩, h0, h4, h5⟩ := h
  have hbl : b < w.heap.size := blk_lt hb0
  have hrl : r < w.heap.size := blk_lt hr0
  exact ⟨_, L, ⟨es, clock, since, seen, c0, (hg.block b hbl hb).trans hb0, F0, hs, rfl, (hg.block r hrl hr).trans hr0, hold, hc, h1, h2, h3⟩, h0, h4, h5⟩
theorem RgG.below {w' : World} (h : RgG Ks Es w b r m f left cnt) (hB : Below w.heap.size w w') : RgG Ks Es w' b r m f left cnt :=
  h.gr (Gr.of_below (F := fun _ => False) hB) (fun h => h) (fun h => h)
theorem RgG.congr (h : RgG Ks Es w b r m f left cnt) {left' : κ → Bool} (e : ∀ x, Ks.ok x → left' x = left x) : RgG Ks Es w b r m f left' cnt := by
  obtain ⟨D, L, h, h0, h1, h2⟩ := h
  exact ⟨D, L, h, h0, h1, fun x hx => (h2 x hx).trans (e x hx).symm⟩

variable {ops : Array Oper} {rest : List Oper} {o : Oper} {a : Act} {Q : Exit → Act → World → Prop} {t : TypeId}
/-- 'range m'. -/
theorem wpList_rangeG (hg : o.guard = none) (m0 : Operand) (hop : o.op = Op.range t m0) (ht : P.underlying t = some (.map k e)) (hm : a.eval m0 = .map (some b)) (h : MapG Ks Es w b m f)
    (hK : ∀ w', RgG Ks Es w' b w.heap.size m f (fun x => (f x).isSome) m → w.grownBy w' none → w'.heap.size = w.heap.size + 1 → wpList P ops Q rest (a.put o.dst (.pointer (some ⟨w.heap.size, 0, none⟩))) w') :
    wpList P ops Q (o :: rest) a w := by
  obtain ⟨D, hD, hsz, hf⟩ := h
  refine wpList_range_own w hg m0 t hop k e Ks.K ht Es.R b m D hm hD ?_
  intro w' h1 h2 h3
  rw [hsz] at h1
  exact hK w' ⟨D, _, h1, hsz, hf, fun x hx => (hf x hx).1⟩ h2 h3
theorem ranges_hasG {R : Value → Option (DataW Unit × List MemPlace)} {n : Nat} {D : DataW Unit} {L : Lit → Bool} (K : Maps.Keyed P k) (h : w.ranges P k R b r n D L cnt) (kl : Lit) (hl : L kl = true) : Maps.has D kl = true := by
  obtain ⟨es, clock, since, seen, c0, hb, F, hs, rfl, hr, hold, hc, h1, h2, h3⟩ := h
  obtain ⟨x, hx, rfl⟩ := h2 kl hl
  obtain ⟨y, hy⟩ := F.reads x hx
  exact List.any_eq_true.2 ⟨WideElems.rg P k R x, mem_sorted.2 (List.mem_map.2 ⟨x, hx, rfl⟩), WideAt.sameKey_self (by rw [WideElems.rg_of hy]; exact K.key (WideElems.rd_key hy))⟩
/-- The step. -/
theorem wpList_nextG [DecidableEq κ] (hg : o.guard = none) (it : Operand) (hop : o.op = Op.next it false) (hit : a.eval it = .pointer (some ⟨r, 0, none⟩)) (h : RgG Ks Es w b r m f left cnt)
    (hinv : ∀ key kl, keyOf P k key = some kl → ∃ x, Ks.ok x ∧ key = Ks.v x ∧ kl = Ks.l x) (hvi : ∀ x y, Ks.v x = Ks.v y → x = y) (hev : ∀ u y, Es.R u = some y → ∃ c, u = Es.v c)
    (hDone : (∀ x, Ks.ok x → left x = false) → wpList P ops Q rest (a.put o.dst (.tuple #[.bool false])) w)
    (hMore : ∀ (x : κ) (c : α) (w' : World) (cnt' : Nat), Ks.ok x → f x = some c → left x = true → RgG Ks Es w' b r m f (fun z => left z && !decide (z = x)) cnt' → cnt' < cnt →
      w.grownBy w' (some r) → w'.heap.size = w.heap.size → Sem.run P (Instr.entry (.pointer (some ⟨r, 0, none⟩))) w' = .ok (.tuple #[Ks.v x, Es.v c]) w' → wpList P ops Q rest (a.put o.dst (.tuple #[.bool true, Ks.v x, Es.v c])) w') :
    wpList P ops Q (o :: rest) a w := by
  obtain ⟨D, L, h, h0, hf, hl⟩ := h
  refine wpList_next_ranges w hg it hop k Ks.K Es.R Ks.v Es.v (fun key kl hk => by obtain ⟨x, -, rfl, -⟩ := hinv key kl hk; exact ⟨x, rfl⟩) hev b r m D L cnt hit h (fun _ hn => hDone fun x hx => by rw [← hl x hx]; exact hn _) ?_
  intro x c kl y w' cnt' hkey hL hR hat hrg hlt hgr hsz hen
  obtain ⟨x', hok, hv, rfl⟩ := hinv _ _ hkey
  obtain rfl := hvi _ _ hv
  have hh := ranges_hasG Ks.K h _ hL
  have hfx := hf x hok
  rw [hh] at hfx
  obtain ⟨d, hd⟩ := Option.isSome_iff_exists.1 hfx.1.symm
  have hy : y.1 = Es.d d := by rw [← hat (Es.d Es.z), hfx.2, hd]; rfl
  have hvd : Es.v c = Es.v d := Es.inv _ d y.2 (by rw [hR, ← hy])
  rw [hvd] at hen ⊢
  refine hMore x d w' cnt' hok hd (by rw [← hl x hok]; exact hL) ⟨D, _, hrg, h0, hf, fun z hz => ?_⟩ hlt hgr hsz hen
  rw [hl z hz]
  by_cases e : z = x
  · subst e
    rw [WideAt.sameKey_self (Ks.K.key (Ks.hl z hz))]
    simp
  · rw [Maps.sameKey_ne (fun h' => e (Ks.inj z x hz hok h'))]
    simp [e]
end
end Go.Proofs.Ytdcjocldggmdbaa
