/- Regions that draw and read, whose callees only lay memory: class of worlds that have grown. -/
import Derived.Test.YtamibbcdklpncaaWide
import Derived.Lib.QuietBelow
namespace Go.Proofs.Ytamibbcdklpncaa
open Go.RowKit Go.WideShapes Go.ChangeShapes Go.Sort
theorem ext_regrown (w : World) (p : Regrown) : Ext w (grow (redrawn w p.d) p.os) := ⟨below_regrown w p.d p.os⟩
theorem regrown_ext {P : Program} {f : FuncId} {args : Array Value} {w : World} {p : Regrown} {v : Value}
    (h : Calls P f args (grow (redrawn w p.d) p.os) fun e w' => e = .returned v ∧ Ext (grow (redrawn w p.d) p.os) w') : Calls P f args (grow (redrawn w p.d) p.os) fun e w'' => e = .returned v ∧ ∃ q : Regrown, w'' = grow (redrawn w q.d) q.os :=
  h.mono fun _ _ ⟨he, hb⟩ => ⟨he, regrown_of_below ((ext_regrown w p).trans hb).out⟩
theorem cell_in {w : World} {a : Addr} {v : Value} (h : w.cell? a = some v) (p : Regrown) : (grow (redrawn w p.d) p.os).cell? a = some v := cell_regrown h p.d p.os
end Go.Proofs.Ytamibbcdklpncaa
