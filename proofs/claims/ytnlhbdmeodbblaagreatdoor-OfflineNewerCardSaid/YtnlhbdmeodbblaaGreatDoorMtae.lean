/- Lemmas. -/
import Derived.Test.YtnlhbdmeodbblaaGreatDoorMtaa
set_option maxRecDepth 100000
set_option maxHeartbeats 16000000
set_option linter.all false
open Go.Value renaming slice->Oc
open Option renaming some->Og,none->Oh
namespace Go.Proofs.YtnlhbdmeodbblaaGreatDoor
section
open Go Go.RowKit Go.Sort
theorem Tabs.drewN{w:World}(h:Tabs w)(n:Nat):Tabs (w.drewN n):=h
theorem Tabs.drew{w:World}(h:Tabs w):Tabs w.drew:=h
end
section
open Go Go.Proofs Go.RowKit Go.Sort Go.Lib
section
variable {α:Type}
variable {enc:α->List Value} {k:Nat} {w w':World} {v:Value} {L:List α}
theorem ar.at_(h:ar enc w v L)(hk:∀x,(enc x).length=k)(hl:0<L.length):∃b o c,v=Oc (Og ⟨b,o,Oh⟩) L.length c/\L.length<=c/\b<w.heap.size/\∀i x,L[i]? = Og x->w.rangeAt b (o+i*k) (enc x):=by
 obtain⟨p,c,hv,hc,_,hr⟩:=h;obtain⟨b,o,rfl,hbs,hx⟩:=hr hl;refine⟨b,o,c,hv,hc,hbs,fun i x hi j u hj=>?_⟩;rw[Nat.add_assoc];exact hx _ _ (jp hk hi hj)
end
end
section
open Go Go.Proofs Go.RowKit Go.Maps Go.Sort Go.Lib
theorem fN.refl(a:World):fN a a:=fun _ _ h _=>h
