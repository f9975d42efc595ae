/-The plane of a web swept by heights: leads do not cross, so their order from left to right does not change.-/
import Derived.Test.YtbbblemfodpmaaaGreatWebGa
import Derived.RowKit
import Derived.Test.YtbbblemfodpmaaaGreatWebPx
set_option linter.unusedVariables false
set_option linter.unusedSimpArgs false
set_option maxHeartbeats 16000000
set_option maxRecDepth 100000
section
namespace Go.Proofs.YtbbblemfodpmaaaGreat
open Go.RowKit
def ht (p : Point) : Int:=8192 * p.y + p.x
section
variable {a b c d : Point} (h1 : ht a < ht b) (h2 : ht c < ht d)
include h1 h2
end
theorem crossP_rev (a b p : Point) : zAw b a p = - zAw a b p:=by unfold zAw;grind
section
variable {js : List Joint} {ls : List Lead} (V : ValidW js ls)
include V
end
end Go.Proofs.YtbbblemfodpmaaaGreat
end
section
namespace Go.Proofs.YtbbblemfodpmaaaGreat
open Go.RowKit
section
variable {js : List Joint} {ls : List Lead} (V : ValidW js ls)
include V
end
def par (p : Lead→Bool) (ls : List Lead) : Bool:=ls.foldr (fun l b=>p l ^^ b) false
section
variable {js : List Joint} {ls : List Lead} (V : ValidW js ls)
include V
end
end Go.Proofs.YtbbblemfodpmaaaGreat
end
section
namespace Go.Proofs.YtbbblemfodpmaaaGreat
open Go.RowKit
section
variable {js : List Joint} {ls : List Lead} (V : ValidW js ls)
include V
end
end Go.Proofs.YtbbblemfodpmaaaGreat
end
section
namespace Go.Proofs.YtbbblemfodpmaaaGreat
open Go.RowKit
section
variable {js : List Joint} {ls : List Lead} (V : ValidW js ls)
include V
theorem ValidW.jpos {x : Joint} (hx : x ∈ js) : x.id ≠ 0:=by
 have:=(V.jok x hx).1;unfold zBg at this;simp only [Bool.and_eq_true,decide_eq_true_eq] at this;omega
theorem ValidW.lpos {l : Lead} (hl : l ∈ ls) : l.id ≠ 0:=by
 have:=V.lok l hl;unfold zBI zBg at this;simp only [Bool.and_eq_true,decide_eq_true_eq] at this;omega
theorem ValidW.adj_side {t : Side} (ht : zAM ls t) {q : Int} (hq : t.lead ≠ q) : AdjJ ls 0 q (zAl ls t).1 (zAl ls t).2:=by
 obtain ⟨m,hm,e⟩:=ht;obtain ⟨i,hi,k,hk,e1,e2,_⟩:=V.ends hm;have h1:=V.jpos hi;have h2:=V.jpos hk;rw [e1] at h1;rw [e2] at h2;have hs : t = ⟨m.id,t.back⟩:=by rw [e]
 rw [hs,V.sideEnds hm];refine ⟨m,hm,by rw [e];exact hq, ?_⟩
 cases t.back
 ·exact ⟨h1,h2, .inl ⟨rfl,rfl⟩⟩
 ·exact ⟨h2,h1, .inr ⟨rfl,rfl⟩⟩
end
end Go.Proofs.YtbbblemfodpmaaaGreat
end
