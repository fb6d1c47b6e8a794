/- Lemmas that lead to the statement: The document's examples, run by the kernel. -/
import Derived.Test.YtmgehmhebnjaaaaGreatDoorM7
set_option linter.all false
set_option maxRecDepth 1000000
namespace Dm.YtmgehmhebnjaaaaGreatDoor
open Go
def isT : Option (Value × Heap) → Bool
  | some (.bool true, _) => true
  | _ => false
theorem awake_run : isT (callM tab (fun _ => none) 80 (.fn 12) [] []) = true := by decide +kernel
end Dm.YtmgehmhebnjaaaaGreatDoor
