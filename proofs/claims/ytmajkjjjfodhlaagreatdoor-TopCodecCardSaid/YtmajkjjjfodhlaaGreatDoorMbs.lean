/- Proved: the card TopCodecCardSaid: for every text the law TopCodec answers true: the fixed ten lines are answered as told, and a block of 256 bytes that is written is read byte for byte and takes just its sectors. Conditions: none but the card's own (the tables of the library that it lists are laid). The parts Maa to Mbr are its lemmas in small print. -/
import Derived.Test.YtmajkjjjfodhlaaGreatDoorCards
import Derived.Test.YtmajkjjjfodhlaaGreatDoorTie
import Derived.Test.YtmajkjjjfodhlaaGreatDoorMbp
import Derived.Test.YtmajkjjjfodhlaaGreatDoorMbq
import Derived.Test.YtmajkjjjfodhlaaGreatDoorMbr
namespace Go.Proofs.YtmajkjjjfodhlaaGreatDoor
open Go.RowKit Go.Proofs.Tryz
set_option linter.all false
set_option maxRecDepth 100000
set_option maxHeartbeats 8000000
theorem top_codec:Rows.TopCodecCardSaid:=
 Claim7.holds_tied_plain_at .later [] [.data, .data, .data, .data, .pinned] true (true, "a837014a6772fd170e71c081760f03f170223f33a300e3794ca45ca95a3f0a1e") true pC (λ_ h=>by cases h) (by as_aux_lemma=>kernel_rfl) (λ_ h=>by cases h) topCodec_row_tie rfl ⟨rfl,rfl⟩ (by as_aux_lemma=>kernel_rfl) rfl
  (λf b hf c=>by
   obtain rfl:f=3:=L9 (YD.symm.trans hf)|>.symm;obtain rfl:b=Tryz.f3:=(L9 (func3.symm.trans c)).symm;exact⟨X1,λj t a=>by
    rw[Tryz.params3] at a;have hm:t∈[9]:=by simpa using Array.mem_of_getElem? a
    exact(show prog.wantsStandIn t=false by simpa using List.all_eq_true.1 X2 t hm)⟩)
  X3
#print axioms top_codec
end Go.Proofs.YtmajkjjjfodhlaaGreatDoor
