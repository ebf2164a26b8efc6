/- Proved: for every slice of bytes and every string, and for every value of the open table mp.families, ScriptHex returns true (Bytes inverts Hex) and changes no argument: the tied card of ScriptHex; the listed tables are as the program text lays them, mp.families is open. -/
import Derived.Test.YtkfogknohmkbpaaGreatDoorRow
import Derived.Test.YtkfogknohmkbpaaGreatDoorFacts
namespace Go.Proofs.YtkfogknohmkbpaaGreatDoor
set_option maxRecDepth 100000
set_option maxHeartbeats 8000000

theorem inst : Tryz.f3.isInstance Tryz.prog Rows.scriptHexRow.origin Rows.scriptHexRow.targs := of_decide_eq_true (by kernel_rfl)
theorem wrap : Tryz.f3.isWrapper Tryz.prog Rows.scriptHexRow.wrapper Rows.scriptHexRow.mainSum := by unfold Func.isWrapper; first | (rw [if_pos (by decide +kernel)]; kernel_rfl) | (rw [if_neg (by decide +kernel)]; exact ⟨rfl, rfl⟩)
theorem holds : Rows.ScriptHexSaid :=
  OpenClaim.holds_of_wide 3 Tryz.f3 rfl rfl rfl rfl rfl rfl rfl ⟨rfl, rfl, rfl, rfl, rfl⟩ rfl rfl rfl rfl rfl named Tryz.func3 closed inst wrap
    (fun os started H enc _ => lifted os started H enc)

theorem card_holds : Rows.ScriptHexCardSaid :=
  Claim7.holds_tied_plain_at .later [] [.data, .data, .data, .data, .data, .data, .pinned] true (true, "b881ae72fd4be5881215179d5d26637de5c313c9dc8a18c3dc3b6f0a8c6e0ee5") true
    holds (fun _ h => by cases h) (by as_aux_lemma => kernel_rfl) (fun _ h => by cases h) scriptHex_row_tie rfl ⟨rfl, rfl⟩ (by as_aux_lemma => kernel_rfl) rfl
    (fun f fn hf hfn => by
      obtain rfl : f = 3 := Option.some.inj ((show Tryz.prog.funcNamed "peerage/peeragelaw26.ScriptHex" = some 3 by kernel_rfl).symm.trans hf) |>.symm
      obtain rfl : fn = Tryz.f3 := (Option.some.inj (Tryz.func3.symm.trans hfn)).symm
      exact ⟨by kernel_rfl, fun j t ht => by
        rw [Tryz.params3] at ht
        have hm : t ∈ [22, 9] := by simpa using Array.mem_of_getElem? ht
        have hall : ([22, 9].all fun u => !Tryz.prog.wantsStandIn u) = true := by kernel_rfl
        exact (show Tryz.prog.wantsStandIn t = false by simpa using List.all_eq_true.1 hall t hm)⟩)
    (by as_aux_lemma => kernel_rfl)
end Go.Proofs.YtkfogknohmkbpaaGreatDoor
