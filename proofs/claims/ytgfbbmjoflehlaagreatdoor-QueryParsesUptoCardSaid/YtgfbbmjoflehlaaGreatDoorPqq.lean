/-
  query.Print as a plain function.
-/
import Derived.Test.YtgfbbmjoflehlaaGreatDoorGrq
set_option linter.all false
namespace Go.Proofs
open Go.RowKit
namespace YtgfbbmjoflehlaaGreatDoor
namespace Ab
section
variable [vo]
noncomputable def qxN (k:Nat):Nat->Rs->List UInt8->Option (List UInt8)
 |_,[],acc=>some acc
 |i,[.imm l]::rest,acc=>(g29 k l).bind fun s=>if acc.length+s.size<=1000000000 then qxN k (i+1) rest ((if i=0 then acc else acc++[32,124,32])++s.data.toList)else none
 |_,_::_,_=>none
theorem qyP {k j:Nat}{row:List Cell}{rest:Rs}{acc fin:List UInt8}(h:qxN k j (row::rest) acc=some fin):∃ l s,row=[.imm l]/\g29 k l=some s/\acc.length+s.size<=1000000000 /\
  qxN k (j+1) rest ((if j=0 then acc else acc++[32,124,32])++s.data.toList)=some fin:=by
 unfold qxN at h;split at h
 . rename_i he;cases he
 .
  rename_i he;cases he;obtain⟨s,h1,h2⟩:=Option.bind_eq_some_iff.1 h;split at h2
  . exact⟨_,s,rfl,h1,by assumption,h2⟩
  . cases h2
 . cases h
def strat (st:Int):Option By:=if st=1 then some (strB [83,84,82,73,67,84])else if st=2 then some (strB [78,69,88,84])else if st=3 then some (strB [65,78,89])else none
def behB (wh T ws:By):By:=wh++strB [32,83,84,82,65,84,69,71,89,32]++T++strB [32,87,73,84,72,73,78,32]++ws
def keyL (key:By):List UInt8:=if key.size=0 then []else(strB [32,80,65,82,84,73,84,73,79,78,32,66,89,32]++key).data.toList
def patL:List UInt8:=[80,65,84,84,69,82,78,32]
noncomputable def qw5 (k:Nat)(a b:Rs)(st wd:Int)(key:By)(ka:Int):Option (By×Int):=
 (g26 k a b st wd key ka).bind fun ok=>
 bif ok then
  (g27 k a b st wd key ka).bind fun lg=>
  bif lg then some (strB [],2)
  else
   (g30 k b).bind fun w=>tup2 w fun wh en=>
   (fmtX wd).bind fun ws=>
   (strat st).bind fun T=>
   (qxN k 0 a patL).bind fun body=>
   bif decide (wh.size<=1000000)&&(decide (ws.size<=1000000)&&(decide (body.length<=1000000000)&&(decide (a.length<=1000000000)&&decide (key.size<=1000000))))then
    bif decide ((body++(behB wh T ws).data.toList++keyL key).length>4000)||en==2 then some (strB [],2)
    else
     bif en==0 then some (⟨(body++(behB wh T ws).data.toList++keyL key).toArray⟩,0)
     else some (strB [],en)
   else none
 else some (strB [],3)
end
end Ab
end YtgfbbmjoflehlaaGreatDoor
end Go.Proofs
