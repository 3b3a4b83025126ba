/- The law of an exact function that gives back a flash and a yes or no. -/
import Derived.Test.YtokploahoidhoaaSettingsP62
namespace Go.Kb
set_option maxRecDepth 100000

theorem Own.un2 {D : List HRow} {lo hi : Nat} {hs : List Hnd} {vs : List (List Int)} (h : Own (u := .int .i64) 2 D lo hi hs vs) : (List.map (Ty.unden D (.hnd (.int .i64))) hs : List (List Int)) = vs := h.unden
end Go.Kb
