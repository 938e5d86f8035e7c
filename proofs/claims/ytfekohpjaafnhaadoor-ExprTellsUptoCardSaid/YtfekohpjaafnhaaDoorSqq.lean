/-
  Short words for the functions' texts.
-/
import Derived.Test.YtfekohpjaafnhaaDoorSeq
namespace Go.Proofs.YtfekohpjaafnhaaDoor
namespace Ab
abbrev pP (n : Nat) : AV := .c (.ptr ⟨⟨.par n, []⟩, 0, 0⟩)
abbrev pL (n : Nat) : AV := .c (.ptr ⟨⟨.loc n, []⟩, 0, 0⟩)
abbrev aF (n : Nat) : Option Nat × Adv := (some n, .test false)
abbrev aT (n : Nat) : Option Nat × Adv := (some n, .test true)
abbrev aS (n : Nat) : Option Nat × Adv := (some n, .ssl)
abbrev aC (n : Nat) (x : AV) : Option Nat × Adv := (some n, .call (.ret x) [] false)
theorem mA [Glob] (nb : Nat) {cx : Cx} {fn : Func} (hm : cx.P.follows .mixedOrders = true) {res : ARes} {bx : List (List Cell)} {K K' : List TItem} {F F' : Fr}
    (h : Fin cx fn K' F' res bx) (n : Nat) (ad : Advs) (ps : List Prop) (m : List Bool) (e : mcut cx fn nb n K F ad m [] [] = some (.at K' F', ps)) (hp : AllP ps) : Fin cx fn K F res bx := mgo_at hm h e hp
theorem mF [Glob] (nb : Nat) {cx : Cx} {fn : Func} (hm : cx.P.follows .mixedOrders = true) {res : ARes} {bx : List (List Cell)} {K : List TItem} {F : Fr} (ad : Advs) (ps : List Prop)
    (e : mgo cx fn nb 2000 K F ad = some (.fin res bx, ps)) (hp : AllP ps) : Fin cx fn K F res bx := mgo_fin hm e hp
end Ab
end Go.Proofs.YtfekohpjaafnhaaDoor
