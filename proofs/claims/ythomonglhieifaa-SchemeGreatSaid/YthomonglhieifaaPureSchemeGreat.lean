/- The statement SchemeGreat: letters of a link made great change no scheme (beyond 200 bytes: the live question alone).
   No condition: every link. -/
import Derived.Test.YthomonglhieifaaOpSchemeGreat
import Derived.Test.YthomonglhieifaaPAllx0
import Derived.Test.YthomonglhieifaaPAllx12
import Derived.Test.YthomonglhieifaaPAllx3
import Derived.Test.YthomonglhieifaaPAllx5
import Derived.Test.YthomonglhieifaaSchMore
namespace Go.Proofs.Ythomonglhieifaa.Pure
open Go.RowKit Go.Proofs.Ythomonglhieifaa.PAll Go.Proofs.YthomonglhieifaaW.PrintWords Go.Proofs.YthomonglhieifaaW.PrintLast
theorem up_facts (c : UInt8) : lowC (upB c) = lowC c ∧ keepC (upB c) = keepC c ∧ (upB c == 58) = (c == 58) ∧ sLet (upB c) = sLet c ∧ sPart (upB c) = sPart c ∧ lowB (upB c) = lowB c := by
  revert c; apply u8_all; decide +kernel
theorem tidy_up (l : List UInt8) : tidyL (l.map upB) = (tidyL l).map upB := by
  unfold tidyL
  rw [List.dropWhile_map, List.filter_map]
  have e1 : (lowC ∘ upB) = lowC := funext fun c => (up_facts c).1
  have e2 : (keepC ∘ upB) = keepC := funext fun c => (up_facts c).2.1
  rw [e1, e2]
theorem take_up (t : List UInt8) : (t.map upB).takeWhile (· != 58) = (t.takeWhile (· != 58)).map upB := by
  rw [List.takeWhile_map]
  have e : ((fun c : UInt8 => c != 58) ∘ upB) = (fun c : UInt8 => c != 58) := funext fun c => by
    have := (up_facts c).2.2.1
    simp only [Function.comp, bne, this]
  rw [e]
theorem mem_up (t : List UInt8) : (58 : UInt8) ∈ t.map upB ↔ (58 : UInt8) ∈ t := by
  rw [List.mem_map]
  constructor
  · rintro ⟨c, hc, he⟩
    have := (up_facts c).2.2.1
    rw [he] at this
    have : c = 58 := by simpa using this.symm
    rwa [this] at hc
  · intro h
    exact ⟨58, h, by decide⟩
theorem schN_up (n : List UInt8) : schN (n.map upB) = schN n := by
  cases n with
  | nil => rfl
  | cons c r =>
    have e : ((c :: r).map upB).all sPart = (c :: r).all sPart := by
      rw [List.all_map]
      congr 1
      exact funext fun c => (up_facts c).2.2.2.2.1
    have e2 : ((c :: r).map upB).map lowB = (c :: r).map lowB := by
      rw [List.map_map]
      congr 1
      exact funext fun c => (up_facts c).2.2.2.2.2
    rw [List.map_cons] at e e2 ⊢
    rw [schN, schN, e, e2, (up_facts c).2.2.2.1]
theorem schL_up (t : List UInt8) : schL (t.map upB) = schL t := by
  unfold schL
  rw [take_up, schN_up]
  by_cases h : (58 : UInt8) ∈ t
  · rw [if_pos h, if_pos ((mem_up t).2 h)]
  · rw [if_neg h, if_neg (fun e => h ((mem_up t).1 e))]
theorem SchemeGreat : schemeGreatOp.Plain := by
  intro a0 _
  have H : Ev (fun k => marginalialaw10_SchemeGreat.f k a0) true := by
    unfold marginalialaw10_SchemeGreat.f
    by_cases c1 : (a0.size : Int) > 200
    · exact Ev.congr (fun _ => if_pos c1) alive_ev'
    refine Ev.congr (fun _ => if_neg c1) ?_
    refine Ev.bind (of_ev a0 (by omega)) ?_
    have hu : (upS a0).data.toList = a0.data.toList.map upB := by simp [upS]
    have hz : (upS a0).size = a0.size := by rw [← data_len, hu, List.length_map, data_len]
    have h2 := of_ev (upS a0) (by omega)
    have e : ofS (upS a0) = ofS a0 := by
      unfold ofS
      rw [hu, tidy_up, schL_up]
    rw [e] at h2
    refine Ev.bind h2 ?_
    refine Ev.bind alive_ev' ?_
    exact ⟨0, fun _ _ => by simp⟩
  exact H.rounds
end Go.Proofs.Ythomonglhieifaa.Pure
