/- Layer 16: awake; same. -/
import Derived.Test.YtmlekhkgokgpbaaC16w
import Derived.Test.YtmlekhkgokgpbaaC16t
import Derived.Test.YtmlekhkgokgpbaaC16v
set_option linter.unusedSimpArgs false
namespace Go.Proofs.Ytmlekhkgokgpbaa
open Go.RowKit Go

def eur : ByteArray := ⟨#[69, 85, 82]⟩
def usd : ByteArray := ⟨#[85, 83, 68]⟩
def aw1 : Rt := ⟨usd, 1, 20000, 920000⟩
def aw2 : Rt := ⟨usd, 1, 20000, 930000⟩
theorem aw1_ok : aw1.k.ok := ⟨by decide, by decide, by decide⟩
theorem aw_prop1 : properB eur usd 1 20000 920000 = true := by kernel_rfl
theorem aw_prop2 : properB eur usd 1 20000 930000 = true := by kernel_rfl
theorem aw_set1 : tb0.set eur aw1 = (0, tb0.put aw1) := by
  rw [Tb.set_few _ _ _ (by decide) (by decide), if_neg (by rw [show properB eur aw1.cur aw1.kind aw1.when_ aw1.val = true from aw_prop1]; simp)]
theorem aw_set2 : (tb0.put aw1).set eur aw2 = (0, (tb0.put aw1).put aw2) := by
  rw [Tb.set_few _ _ _ (by show (1 : Nat) < 1000; decide) (by show (1 : Nat) < 5000; decide), if_neg (by rw [show properB eur aw2.cur aw2.kind aw2.when_ aw2.val = true from aw_prop2]; simp)]
theorem aw_get : ((tb0.put aw1).put aw2).f ⟨usd, 1, 20000⟩ = some 930000 := putF_same _ aw2
theorem aw_ok : TbOk ((tb0.put aw1).put aw2) (insK (insK [] aw1.k) aw2.k) := (TbOk.zero.put aw1 aw1_ok).put aw2 aw1_ok
theorem aw_len : (insK (insK [] aw1.k) aw2.k).length = 1 := by
  show (if keyLt aw1.k aw2.k then aw1.k :: insK [] aw2.k else if aw1.k = aw2.k then [aw1.k] else aw2.k :: [aw1.k]).length = 1
  rw [if_neg (show ¬ keyLt aw1.k aw2.k from keyLt_irrefl aw1.k), if_pos (show aw1.k = aw2.k from rfl)]
  rfl
theorem List_tb (F : Nat → Prop) (w : World) (p : Nat) (g : ByteArray) (t : Tb) (ys : List K3) (hok : TbOk t ys) (h : TabT F w p g t) (hm : t.m ≤ 100000) :
    Calls Try.prog 22 #[.pointer (some ⟨p, 0, none⟩)] w fun e w' => ∃ v, e = .returned v ∧ Owns rateT 35 w.heap.size (fun _ => False) w' v (rowsOf t.f ys) ∧ Below w.heap.size w w' := by
  refine (List_sum F w p g t.m t.f t.hs h hm).mono fun e w' he => ?_
  obtain ⟨v, zs, he, hz, hO, hB⟩ := he
  rw [hz.unique hok.1 (fun _ _ => rfl)] at hO
  exact ⟨v, he, hO, hB⟩
set_option maxRecDepth 20000 in
set_option maxHeartbeats 1000000 in
theorem awake16_sum (w : World) : Calls Try.prog 11 #[] w fun e w' => e = .returned (.bool true) ∧ Below w.heap.size w w' := by
  have hs1 := fun F w p (h : TabT F w p eur tb0) => Set_any F w p eur tb0 h aw1 aw1_ok (by decide) (by decide)
  rw [aw_set1] at hs1
  have hs2 := fun F w p (h : TabT F w p eur (tb0.put aw1)) => Set_any F w p eur (tb0.put aw1) h aw2 aw1_ok (by decide) (by show (1 : Nat) ≤ _; decide)
  rw [aw_set2] at hs2
  have hg := fun F w p (h : TabT F w p eur ((tb0.put aw1).put aw2)) => Get_sum F w p eur _ _ _ h ⟨usd, 1, 20000⟩ aw1_ok
  rw [aw_get] at hg
  have hl := fun F w p (h : TabT F w p eur ((tb0.put aw1).put aw2)) => List_tb F w p eur _ _ aw_ok h (by rw [aw_ok.2, aw_len]; decide)
  have hh := fun F w p (h : TabT F w p eur ((tb0.put aw1).put aw2)) => History_sum F w p eur _ h (by show (2 : Nat) ≤ _; decide)
  unfold Rt.v rateV at hs1 hs2
  have HS1 := Lib.hid hs1
  have HS2 := Lib.hid hs2
  have HG := Lib.hid hg
  have HL := Lib.hid hl
  have HH := Lib.hid hh
  clear hs1 hs2 hg hl hh
  go_enter Try.func11, Try.ntmps11
  go_wp2_with (first
    | (go_at_call 13; refine (New_ok _ eur (by decide) (by kernel_rfl)).mono ?_; rintro e w1 ⟨p, F, rfl, hT1, hF1, hB1⟩; have HT1 := Lib.hid (show TabT F w1 p eur tb0 from hT1); have HF1 := Lib.hid hF1; have HB1 := Lib.hid hB1; clear hT1 hF1 hB1)
    | (go_at_call 16; first | (refine (HS2.out _ _ _ HT2.out).mono ?_; rintro e w3 ⟨rfl, F3, hT3, hF3, hG3⟩; have HT3 := Lib.hid hT3; have HB3 := Lib.hid (HB2.out.trans (hG3.below HF2.out (HB2.out.size))); clear hT3 hF3 hG3) | (refine (HS1.out _ _ _ HT1.out).mono ?_; rintro e w2 ⟨rfl, F2, hT2, hF2, hG2⟩; have HT2 := Lib.hid hT2; have HF2 := Lib.hid (fun b hb => (hF2 b hb).elim (HF1.out b) (fun h => Nat.le_trans HB1.out.size h)); have HB2 := Lib.hid (HB1.out.trans (hG2.below HF1.out (HB1.out.size))); clear hT2 hF2 hG2))
    | (go_at_call 19; refine (HG.out _ _ _ HT3.out).mono ?_; rintro e w4 ⟨rfl, hw4⟩; subst hw4)
    | (go_at_call 22; refine (HL.out _ _ _ HT3.out).mono ?_; rintro e w5 ⟨v5, rfl, hO5, hB5⟩; obtain ⟨a5, l5, c5, rfl, hl5, -, -⟩ := hO5.slice; have hl5' : l5 = 1 := hl5.trans (by rw [rowsOf, List.length_map]; exact aw_len); subst hl5'; have HB5 := Lib.hid (below_step HB3.out hB5); have HT5 := Lib.hid (TabIn.below HT3.out hB5); clear hO5 hB5 hl5)
    | (go_at_call 23; refine (HH.out _ _ _ HT5.out).mono ?_; rintro e w6 ⟨v6, rfl, hB6, hO6⟩; obtain ⟨a6, l6, c6, rfl, hl6, -, -⟩ := hO6.slice; have hl6' : l6 = 2 := hl6; subst hl6'; have HB6 := Lib.hid (below_step HB5.out hB6); clear hO6 hB6 hl6))
  go_ret
  exact ⟨rfl, HB6.out⟩
end Go.Proofs.Ytmlekhkgokgpbaa
