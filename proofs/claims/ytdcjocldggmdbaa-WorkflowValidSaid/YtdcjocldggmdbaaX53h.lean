/- Layer 53: what reads as a key; the step of a range over what is signed. -/
import Derived.Test.YtdcjocldggmdbaaX53g
set_option linter.unusedSimpArgs false
set_option maxRecDepth 50000
namespace Go.Proofs.Ytdcjocldggmdbaa
open Go.RowKit Go

theorem keyOf_key {v : Value} {kl : Lit} (h : keyOf Try.prog 53 v = some kl) : ∃ c : Ky, c.ok ∧ v = c.v ∧ kl = c.l := by
  have hkt : Try.prog.keyType 53 = true := by kernel_rfl
  have hco : Try.prog.cellsOf 53 = 3 := by kernel_rfl
  have hc3 : Try.prog.cellsOf 3 = 1 := by kernel_rfl
  have hc9 : Try.prog.cellsOf 9 = 1 := by kernel_rfl
  obtain ⟨n, hn⟩ : ∃ n, Try.prog.types.size = n + 1 := ⟨Try.prog.types.size - 1, by have : 0 < Try.prog.types.size := of_decide_eq_true (by kernel_rfl); omega⟩
  have h0 := h
  have hcell : ∀ (d : Nat) (a : Value) (ls : List Lit), Try.prog.keyLits (d + 1) 3 [a] = some ls → ∃ x : Int, a = .int .i64 x ∧ (Lit.int .i64 x).wf = true := by
    intro d a ls ha
    cases a <;> simp [Program.keyLits, Try.underlying3] at ha
    obtain ⟨⟨rfl, h2⟩, -⟩ := ha
    exact ⟨_, rfl, by simpa using h2⟩
  have hcelS : ∀ (d : Nat) (a : Value) (ls : List Lit), Try.prog.keyLits (d + 1) 9 [a] = some ls → ∃ x : ByteArray, a = .string x ∧ x.size ≤ maxLen := by
    intro d a ls ha
    cases a <;> simp [Program.keyLits, Try.underlying9] at ha
    exact ⟨_, rfl, by first | exact ha.1 | (simpa using ha.1)⟩
  unfold keyOf at h
  simp only [Try.underlying53, hkt, hn] at h
  split at h
  · rename_i hf
    have hf : v.formed Try.prog 53 = true := by simpa using hf
    obtain ⟨cs, rfl⟩ : ∃ cs, v = .agg cs := by cases v <;> first | exact ⟨_, rfl⟩ | simp [Value.formed, Try.underlying53] at hf
    simp only [Value.formed, Try.underlying53, hco, beq_iff_eq] at hf
    obtain ⟨cs⟩ := cs
    match cs, hf with
    | [a, b, c], _ =>
      simp only [Value.cells] at h
      unfold Program.keyLits at h
      simp only [Try.underlying53, hco, hc3, hc9] at h
      simp only [hc3, hc9, List.length_cons, List.length_nil, true_and, List.mapM_cons, List.mapM_nil, List.drop_zero, List.take, List.drop] at h
      have hn' : ∃ m, n = m + 1 := ⟨n - 1, by have : 1 < Try.prog.types.size := of_decide_eq_true (by kernel_rfl); omega⟩
      obtain ⟨m, rfl⟩ := hn'
      cases h1 : Try.prog.keyLits (m + 1 + 1) 9 [a] with
      | none => simp [h1] at h
      | some l1 =>
      cases h2 : Try.prog.keyLits (m + 1 + 1) 3 [b] with
      | none => simp [h1, h2] at h
      | some l2 =>
      cases h3 : Try.prog.keyLits (m + 1 + 1) 3 [c] with
      | none => simp [h1, h2, h3] at h
      | some l3 =>
      obtain ⟨a, rfl, w1⟩ := hcelS _ _ _ h1
      obtain ⟨b, rfl, w2⟩ := hcell _ _ _ h2
      obtain ⟨c, rfl, w3⟩ := hcell _ _ _ h3
      refine ⟨⟨a, b, c⟩, ⟨w1, w2, w3⟩, rfl, ?_⟩
      unfold Ky.l Ky.v
      simp only
      rw [h0]; rfl
  · cases h
theorem ranges_has53 {P : Program} {k : TypeId} {R : Value → Option (DataW Unit × List MemPlace)} {w : World} {b r n : Nat} {D : DataW Unit} {left : Lit → Bool} {cnt : Nat} (K : Maps.Keyed P k) (h : w.ranges P k R b r n D left cnt) (kl : Lit) (hl : left kl = true) : Maps.has D kl = true := by
  obtain ⟨es, clock, since, seen, c0, hb, F, hs, rfl, hr, hold, hc, h1, h2, h3⟩ := h
  obtain ⟨x, hx, rfl⟩ := h2 kl hl
  obtain ⟨y, hy⟩ := F.reads x hx
  exact List.any_eq_true.2 ⟨WideElems.rg P k R x, mem_sorted.2 (List.mem_map.2 ⟨x, hx, rfl⟩), WideAt.sameKey_self (by rw [WideElems.rg_of hy]; exact K.key (WideElems.rd_key hy))⟩
/-- The step of the loop over what is signed. -/
theorem wpList_next53 {w : World} {ops : Array Oper} {rest : List Oper} {o : Oper} {a : Act} {Q : Exit → Act → World → Prop} (hg : o.guard = none) (it : Operand) (hop : o.op = Op.next it false) {b r n : Nat} {D : DataW Unit} {left : Lit → Bool} {cnt : Nat} {f : Ky → Option ByteArray}
    (hit : a.eval it = .pointer (some ⟨r, 0, none⟩)) (h : w.ranges Try.prog 53 strE.R b r n D left cnt) (hf : ∀ x : Ky, x.ok → Maps.has D (Ky.l x) = (f x).isSome)
    (hDone : (∀ kl, left kl = false) → wpList Try.prog ops Q rest (a.put o.dst (.tuple #[.bool false])) w)
    (hMore : ∀ (c : Ky) (s : ByteArray) (w' : World) (cnt' : Nat), c.ok → s.size ≤ maxLen → (f c).isSome = true → left (Ky.l c) = true → w'.ranges Try.prog 53 strE.R b r n D (fun z => left z && !z.sameKey (Ky.l c)) cnt' → cnt' < cnt →
      w.grownBy w' (some r) → w'.heap.size = w.heap.size → Sem.run Try.prog (Instr.entry (.pointer (some ⟨r, 0, none⟩))) w' = .ok (.tuple #[c.v, .string s]) w' → wpList Try.prog ops Q rest (a.put o.dst (.tuple #[.bool true, c.v, .string s])) w') :
    wpList Try.prog ops Q (o :: rest) a w := by
  refine wpList_next_ranges w hg it hop 53 keyK.K strE.R Ky.v Value.string (fun key kl hk => by obtain ⟨c, -, rfl, -⟩ := keyOf_key hk; exact ⟨c, rfl⟩) (fun v y hy => ?_) b r n D left cnt hit h (fun _ hl => hDone hl) ?_
  · unfold strE at hy
    simp only at hy
    unfold plainElem at hy
    rw [Try.underlying9] at hy
    cases v <;> simp at hy
    exact ⟨_, rfl⟩
  · intro c s kl y w' cnt' hkey hl hR hat hrg hlt hgr hsz hen
    obtain ⟨c', hok, hcv, rfl⟩ := keyOf_key hkey
    obtain rfl := Ky.v_inj hcv
    have hh := ranges_has53 keyK.K h _ hl
    have hfc := hf c hok
    rw [hh] at hfc
    have hs : s.size ≤ maxLen := by
      have hR' : strE.R (.string s) = some y := hR
      unfold strE at hR'
      simp only at hR'
      unfold plainElem at hR'
      rw [Try.underlying9] at hR'
      by_cases hsz' : s.size ≤ maxLen
      · exact hsz'
      · simp [hsz'] at hR'
    exact hMore c s w' cnt' hok hs hfc.symm hl hrg hlt hgr hsz hen
end Go.Proofs.Ytdcjocldggmdbaa
