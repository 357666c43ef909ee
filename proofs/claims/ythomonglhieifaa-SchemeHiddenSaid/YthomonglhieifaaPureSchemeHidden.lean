/- The statement SchemeHidden: a tab, a line feed, a carriage return put in anywhere, a blank and a byte below it ahead, change no link's scheme (beyond 200 bytes, or at no place of the link: the live question alone).
   No condition: every link, every place, every byte. -/
import Derived.Test.YthomonglhieifaaOpSchemeHidden
import Derived.Test.YthomonglhieifaaPAllx0
import Derived.Test.YthomonglhieifaaPAllx10
import Derived.Test.YthomonglhieifaaPAllx3
import Derived.Test.YthomonglhieifaaPAllx6
import Derived.Test.YthomonglhieifaaPAllx7
import Derived.Test.YthomonglhieifaaSchMore
namespace Go.Proofs.Ythomonglhieifaa.Pure
open Go.RowKit Go.Proofs.Ythomonglhieifaa.PAll Go.Proofs.YthomonglhieifaaW.PrintWords Go.Proofs.YthomonglhieifaaW.PrintLast
theorem hid_put (s t : ByteArray) (i : Nat) (c : UInt8) (ht : t.data.toList = (s.extract 0 i).data.toList ++ c :: (s.extract i s.size).data.toList) (h1 : lowC c = true) (h2 : keepC c = false) : ofS t = ofS s := by
  unfold ofS
  rw [ht, tidy_put _ _ c h1 h2, split_at]
theorem hid_byte (n : Int) (h0 : 0 ≤ n) (h1 : n ≤ 255) : lowC (Go.bits .and .u8 n 31).toNat.toUInt8 = true := by
  have H : ∀ m, m < 256 → lowC (Go.bits .and .u8 ((m : Nat) : Int) 31).toNat.toUInt8 = true := by decide +kernel
  have := H n.toNat (by omega)
  rwa [show ((n.toNat : Nat) : Int) = n by omega] at this
theorem hid_size (s : ByteArray) (i : Nat) (c : UInt8) (h : i ≤ s.size) : (s.extract 0 i).size = i ∧ (s.extract 0 i ++ (⟨#[c]⟩ : ByteArray)).size = i + 1 ∧ (s.extract i s.size).size = s.size - i ∧ ((s.extract 0 i ++ (⟨#[c]⟩ : ByteArray)) ++ s.extract i s.size).size = s.size + 1 := by
  have e1 : (s.extract 0 i).size = i := by rw [ByteArray.size_extract]; omega
  have e2 : (⟨#[c]⟩ : ByteArray).size = 1 := rfl
  have e3 : (s.extract i s.size).size = s.size - i := by rw [ByteArray.size_extract]; omega
  refine ⟨e1, by rw [ByteArray.size_append, e1, e2], e3, ?_⟩
  rw [ByteArray.size_append, ByteArray.size_append, e1, e2, e3]; omega
theorem SchemeHidden : schemeHiddenOp.Plain := by
  intro a0 a1 a2 _ _ hw2
  have H : Ev (fun k => marginalialaw10_SchemeHidden.f k a0 a1 a2) true := by
    have hp : Ev (fun k => marginalialaw10_SchemeHidden.j0 k a0 a1 a2 true) true := by
      refine Ev.step (f := fun k => (marginalialaw10_alive.f k).bind fun t => some t) (fun k => ?_) (Ev.bind (f := fun _ t => some t) alive_ev' (Ev.now _))
      simp only [marginalialaw10_SchemeHidden.j0]
      rw [if_pos trivial]
    unfold marginalialaw10_SchemeHidden.f
    by_cases c1 : (a0.size : Int) > 200
    · exact Ev.congr (fun _ => if_pos c1) hp
    refine Ev.congr (fun _ => if_neg c1) ?_
    by_cases c2 : a1 < 0
    · exact Ev.congr (fun _ => if_pos c2) hp
    refine Ev.congr (fun _ => if_neg c2) ?_
    by_cases c3 : a1 > (a0.size : Int)
    · rw [decide_eq_true c3]; exact hp
    rw [decide_eq_false c3]
    obtain ⟨i, rfl⟩ : ∃ i : Nat, a1 = (i : Int) := ⟨a1.toNat, by omega⟩
    have hi : i ≤ a0.size := by omega
    have hs : a0.size ≤ 200 := by omega
    have key : ∀ c : UInt8, lowC c = true → keepC c = false → Ev (fun k => scheme_Of.f k ((a0.extract 0 i ++ (⟨#[c]⟩ : ByteArray)) ++ a0.extract i a0.size)) (ofR (ofS a0)) := by
      intro c h1 h2
      rw [← hid_put a0 ((a0.extract 0 i ++ (⟨#[c]⟩ : ByteArray)) ++ a0.extract i a0.size) i c (by rw [append_data', append_data']; simp) h1 h2]
      exact of_ev _ (by have := (hid_size a0 i c hi).2.2.2; omega)
    have hb : ∀ n : Int, (strOfNums [n]).data.toList = [n.toNat.toUInt8] := fun n => rfl
    have hz : 0 ≤ a2 ∧ a2 ≤ 255 := by
      have := Go.bounds_u8 hw2
      omega
    have key2 : Ev (fun k => scheme_Of.f k ((strOfNums [Go.bits .and .u8 a2 31] ++ (⟨#[32]⟩ : ByteArray)) ++ a0)) (ofR (ofS a0)) := by
      have e : ofS ((strOfNums [Go.bits .and .u8 a2 31] ++ (⟨#[32]⟩ : ByteArray)) ++ a0) = ofS a0 := by
        unfold ofS
        rw [append_data', append_data', hb]
        show schL (tidyL ((Go.bits .and .u8 a2 31).toNat.toUInt8 :: 32 :: a0.data.toList)) = _
        rw [tidy_ahead _ _ (hid_byte a2 hz.1 hz.2), tidy_ahead _ 32 (by decide)]
      rw [← e]
      refine of_ev _ ?_
      rw [ByteArray.size_append, ByteArray.size_append]
      have : (strOfNums [Go.bits .and .u8 a2 31]).size = 1 := rfl
      have h2 : (⟨#[32]⟩ : ByteArray).size = 1 := rfl
      omega
    have z1 : (strOfNums [Go.bits .and .u8 a2 31]).size = 1 := rfl
    have z2 : (strOfNums [Go.bits .and .u8 a2 31] ++ (⟨#[32]⟩ : ByteArray)).size = 2 := by rw [ByteArray.size_append]; rfl
    refine Ev.step (f := fun k => (scheme_Of.f k a0).bind fun bt150 => (scheme_Of.f k ((a0.extract 0 i ++ (⟨#[9]⟩ : ByteArray)) ++ a0.extract i a0.size)).bind fun bt152 => (scheme_Of.f k ((a0.extract 0 i ++ (⟨#[10]⟩ : ByteArray)) ++ a0.extract i a0.size)).bind fun bt154 => (scheme_Of.f k ((a0.extract 0 i ++ (⟨#[13]⟩ : ByteArray)) ++ a0.extract i a0.size)).bind fun bt156 => (scheme_Of.f k ((strOfNums [Go.bits .and .u8 a2 31] ++ (⟨#[32]⟩ : ByteArray)) ++ a0)).bind fun bt161 => ((marginalialaw10_alive.f k).bind fun t163 => (if t163 = true then (if bt150.1.toList = bt152.1.toList then (if bt150.1.toList = bt154.1.toList then (if bt150.1.toList = bt156.1.toList then (if bt150.1.toList = bt161.1.toList then (if (bt150.2 == bt152.2) = true then (if (bt150.2 == bt154.2) = true then (if (bt150.2 == bt156.2) = true then (some (bt150.2 == bt161.2)) else (some false)) else (some false)) else (some false)) else (some false)) else (some false)) else (some false)) else (some false)) else (some false)))) (fun k => ?_) ?_
    · simp only [marginalialaw10_SchemeHidden.j0]
      have q9 := hid_size a0 i 9 hi
      have q10 := hid_size a0 i 10 hi
      have q13 := hid_size a0 i 13 hi
      rw [if_neg (by simp)]
      simp only [Int.toNat_natCast, Option.bind_some]
      have f1 : (0 : Int) ≤ (i : Int) := by omega
      have f2 : (i : Int) ≤ (a0.size : Int) := by omega
      have f3 : (a0.extract 0 i).size + 1 ≤ 9223372036854775807 := by omega
      have f4 : (a0.extract 0 i ++ (⟨#[9]⟩ : ByteArray)).size + (a0.extract i a0.size).size ≤ 9223372036854775807 := by omega
      have f5 : (a0.extract 0 i ++ (⟨#[10]⟩ : ByteArray)).size + (a0.extract i a0.size).size ≤ 9223372036854775807 := by omega
      have f6 : (a0.extract 0 i ++ (⟨#[13]⟩ : ByteArray)).size + (a0.extract i a0.size).size ≤ 9223372036854775807 := by omega
      have f7 : (strOfNums [Go.bits .and .u8 a2 31]).size + 1 ≤ 9223372036854775807 := by omega
      have f8 : (strOfNums [Go.bits .and .u8 a2 31] ++ (⟨#[32]⟩ : ByteArray)).size + a0.size ≤ 9223372036854775807 := by omega
      simp only [if_pos f1, if_pos f2, if_pos f3, if_pos f4, if_pos f5, if_pos f6, if_pos f7, if_pos f8]
    · refine Ev.bind (of_ev a0 (by omega)) ?_
      refine Ev.bind (key 9 (by decide) (by decide)) ?_
      refine Ev.bind (key 10 (by decide) (by decide)) ?_
      refine Ev.bind (key 13 (by decide) (by decide)) ?_
      refine Ev.bind key2 ?_
      refine Ev.bind alive_ev' ?_
      exact ⟨0, fun _ _ => by simp⟩
  exact H.rounds
end Go.Proofs.Ythomonglhieifaa.Pure
