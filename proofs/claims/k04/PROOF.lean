import PyProof.Rows.All
import Wide.All
import OpenK.AllK
import Wide.FinOn
import PySem.Challenge.RW_stickymarks_k04_value_properties
open PySem PySem.W PySem.W.X PyProof.Rows
set_option Elab.async false
set_option maxRecDepth 100000 in
set_option maxHeartbeats 0 in
theorem PySem.Challenge.cw_stickymarks_k04_value_properties_holds : PySem.Challenge.rw_stickymarks_k04_value_properties.Holds := by
  open_z
#print axioms PySem.Challenge.cw_stickymarks_k04_value_properties_holds
