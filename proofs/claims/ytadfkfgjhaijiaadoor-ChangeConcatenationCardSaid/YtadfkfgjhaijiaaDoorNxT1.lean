import Derived.Test.YtadfkfgjhaijiaaDoorNxB0
import Derived.Test.YtadfkfgjhaijiaaDoorNxEval
import Derived.Test.YtadfkfgjhaijiaaDoorNxFn
import Derived.Below
set_option linter.unusedSimpArgs false
set_option linter.unusedVariables false
set_option linter.unnecessarySimpa false
namespace Go.Proofs.YtadfkfgjhaijiaaDoor.Nx
open Go Go.RowKit
def txt (l:List ByteArray):List UInt8:=l.flatMap fun s=>s.data.toList
theorem txt_succ {l:List ByteArray} {i:Nat} (h:i<l.length):txt (l.take (i+1))=txt (l.take i)++l[i].data.toList:=by
  rw [List.take_succ_eq_append_getElem h,txt,List.flatMap_append];simp [txt]
theorem txt_len:∀ (l:List ByteArray),(∀ s∈l,s.size≤1000)→(txt l).length≤1000 * l.length
  | [],_=>by simp [txt]
  | s::l,h=>by
    have h1:=txt_len l fun x hx=>h x (List.mem_cons_of_mem _ hx)
    have h2:s.data.toList.length≤1000:=h s (List.mem_cons_self ..)
    have h3:txt (s::l)=s.data.toList++txt l:=by simp [txt]
    rw [h3,List.length_append,List.length_cons]
    omega
end Go.Proofs.YtadfkfgjhaijiaaDoor.Nx
