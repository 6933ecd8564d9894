/- Plain: what is made and removed; what is renamed and renamed back. -/
import Derived.Test.YtohmcgmmphpgoaaGreatDoorFilW
set_option linter.unusedSimpArgs false
set_option linter.unusedVariables false
namespace Go.Proofs.YtohmcgmmphpgoaaGreatDoor
open Go.RowKit Go.Tri
open Classical in
theorem Ren.gone {s : FS} {F T : List UInt8} (h : Ren s F T) : lk (rnF s F T) F = (zf, 91) := by
  obtain ⟨f, hf⟩ := h.isF
  have hF0 : rnF s F T F = none := by unfold rnF; rw [if_pos h.self]
  unfold lk
  rw [if_pos h.okF, anc_dirs fun i hi => ?_]
  · simp only [hF0]
  · obtain ⟨d, hd⟩ := take_pre h.snd hf i hi
    refine ⟨d, ?_⟩
    have hk := h.snd.ok _ _ hd
    unfold rnF
    rw [if_neg (fun hw => ?_), if_neg (fun hw => by rw [h.notT hw] at hd; cases hd)]
    · exact hd
    · obtain ⟨_, c, hc⟩ := (wthn_iff h.okF).1 hw
      have hn := pth_nm (xs := (nmP F).take i) (fun x hx => (okP_pth h.okF).1 x (List.mem_of_mem_take hx)) (okP_pth hk).2.2
      rw [hn] at hc
      have := congrArg List.length hc
      rw [List.length_append, List.length_take] at this
      omega
end Go.Proofs.YtohmcgmmphpgoaaGreatDoor
