import Derived.Test.YtnlolefgifeohaaDoorRBaseE15
import Derived.Test.YtnlolefgifeohaaDoorPrkWE15
open Go AH
namespace Go.Proofs.YtnlolefgifeohaaDoor.E15
def acSH : List SH:=[.int .i64,.int .i64,.int .i64,.int .i64,.int .i64,.int .i64,.int .i64]
theorem ac_of (el : List AV) (h0 : shsOK acSH el) : ∃ s : Ac,el = s.cells:=by
  obtain ⟨_,r1,rfl,⟨a,rfl,_⟩,h1⟩:=shs_cons h0
  obtain ⟨_,r2,rfl,⟨b,rfl,_⟩,h2⟩:=shs_cons h1
  obtain ⟨_,r3,rfl,⟨c,rfl,_⟩,h3⟩:=shs_cons h2
  obtain ⟨_,r4,rfl,⟨d,rfl,_⟩,h4⟩:=shs_cons h3
  obtain ⟨_,r5,rfl,⟨e,rfl,_⟩,h5⟩:=shs_cons h4
  obtain ⟨_,r6,rfl,⟨f,rfl,_⟩,h6⟩:=shs_cons h5
  obtain ⟨_,r7,rfl,⟨g,rfl,_⟩,h7⟩:=shs_cons h6
  obtain rfl:=shs_nil h7
  exact ⟨⟨a,b,c,⟨d,e,f,g⟩⟩,rfl⟩
end Go.Proofs.YtnlolefgifeohaaDoor.E15
