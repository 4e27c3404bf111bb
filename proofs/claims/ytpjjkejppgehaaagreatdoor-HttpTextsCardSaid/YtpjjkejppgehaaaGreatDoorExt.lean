/- eponymref27.Word in the form in which the other functions are told. -/
import Derived.Test.YtpjjkejppgehaaaGreatDoorPRfx0
import Derived.Test.YtpjjkejppgehaaaGreatDoorZc
namespace Go.Proofs.YtpjjkejppgehaaaGreatDoor.PRf
set_option linter.unusedSimpArgs false
set_option linter.unusedVariables false
open Go.RowKit Go.Proofs.YtpjjkejppgehaaaGreatDoorW.PrintWords Go.Proofs.YtpjjkejppgehaaaGreatDoorW.PrintLast Go.Proofs.YtpjjkejppgehaaaGreatDoorW.PrintMore

def eponymref27_Word.f (a0 : Int) : Option ByteArray := if -9223372036854775808 ≤ a0 ∧ a0 ≤ 9223372036854775807 then some (wordB a0) else none
theorem eponymref27_Word.calls (a0 : Int) (r : ByteArray) (w : World) (h : eponymref27_Word.f a0 = some r) :
    Calls Tryz.prog 34 #[.int .i64 a0] w fun e w' => e = .returned (.string r) ∧ Below w.heap.size w w' := by
  unfold eponymref27_Word.f at h
  split at h
  · injection h with h
    subst h
    exact ref_word_any a0 (WalkArith.wf_i64 (by omega)) w
  · cases h
end Go.Proofs.YtpjjkejppgehaaaGreatDoor.PRf
