import Derived.Test.YtfhjncbdgjlcoaaGreatDoorYa20
set_option maxRecDepth 100000
set_option maxHeartbeats 20000000
set_option linter.unusedVariables false
set_option linter.unusedSimpArgs false
namespace Go.Proofs.YtfhjncbdgjlcoaaGreatDoor
open Go.RowKit
open Go.Lib hiding intOf
theorem Yq (l:List UInt8) (a b:Int) (w:World) (hs:l.length<=1073741824) (h:a<0\/b<a\/(l.length:Int)<b):
  Calls Tryz.prog 36 #[bs l, .agg #[a,b]] w λe w'=>e=jV (aW,0,1)/\Below w.heap.size w w':=by
 have sl:=aM l;have hh:(decide (a<0)=true)\/(decide (a<0)=false/\decide (b<a)=true)\/(decide (a<0)=false/\decide (b<a)=false/\decide ((l.length:Int)<b)=true):=by
  simp only[jS,decide_eq_false_iff_not];omega
 clear h;rcases hh with d1 | ⟨d1,d2⟩ | ⟨d1,d2,d3⟩
 all_goals exact qa
theorem wI {T:List UInt8}{k:Nat} (h:T[k]?=some 10):T.contains 10=true:=List.contains_iff_mem.2 (bD h)
theorem wJ {T:List UInt8} (h: ∀j,j<T.length->T[j]?≠some 10):T.contains 10=false:=by
 cases hc:T.contains 10 with
 | false=>rfl
 | true=>
  obtain⟨j,a⟩:=List.getElem?_of_mem (List.contains_iff_mem.1 hc);exact absurd a (h j (aR.1 a).1)
theorem mO (b c:UInt8) (n:Int) (hn:n=c.toNat):((b.toNat:Int)==n)=(some b==some c):=by
 rw[fU b c n hn];by_cases h:b=c
 ·rw[h];simp
 ·rw[aE.2 h,aE.2 (λe=>h (aV e))]
theorem Bb {a b:Int} (h:a=b):Value.int .i64 a=Value.int .i64 b:=by rw[h]
theorem Bc (T:List UInt8) (n:Nat):(T.drop n).head?=T[n]?:=by rw[List.head?_eq_getElem?,kR,Nat.add_zero]
theorem Yr (l:List UInt8) (x y:Nat) (w:World) (hs:l.length<=1073741824) (hxy:x<=y) (hyl:y<=l.length) (T:List UInt8) (hTd:(l.drop x).take (y-x)=T) (R:aP×Int×Int)
  (hC1:Hid (T.contains 10=true)) (hR:(if T.contains 10 then(aW,0,1) else if cX true T<T.length then(aW,(x:Int)+cX true T,2) else kZ x y (aX T) (fQ (T.drop (aX T))):aP×Int×Int)=R):
  Calls Tryz.prog 36 #[bs l, .agg #[x,y]] w λe w'=>e=jV R/\Below w.heap.size w w':=by
 have wv:=trivial;exact qa
theorem Ys (l:List UInt8) (x y:Nat) (w:World) (hs:l.length<=1073741824) (hxy:x<=y) (hyl:y<=l.length) (T:List UInt8) (hTd:(l.drop x).take (y-x)=T) (R:aP×Int×Int)
  (hC1:Hid (T.contains 10=false)) (hC2:Hid (cX true T<T.length)) (hR:(if T.contains 10 then(aW,0,1) else if cX true T<T.length then(aW,(x:Int)+cX true T,2) else kZ x y (aX T) (fQ (T.drop (aX T))):aP×Int×Int)=R):
  Calls Tryz.prog 36 #[bs l, .agg #[x,y]] w λe w'=>e=jV R/\Below w.heap.size w w':=by
 have ww:=trivial;exact qa
theorem Yt (l:List UInt8) (x y:Nat) (w:World) (hs:l.length<=1073741824) (hxy:x<=y) (hyl:y<=l.length) (T:List UInt8) (hTd:(l.drop x).take (y-x)=T) (R:aP×Int×Int)
  (hC1:Hid (T.contains 10=false)) (hC2:Hid (¬cX true T<T.length)) (hC3:Hid (aX T=T.length)) (hR:(if T.contains 10 then(aW,0,1) else if cX true T<T.length then(aW,(x:Int)+cX true T,2) else kZ x y (aX T) (fQ (T.drop (aX T))):aP×Int×Int)=R):
  Calls Tryz.prog 36 #[bs l, .agg #[x,y]] w λe w'=>e=jV R/\Below w.heap.size w w':=by
 have xa:=trivial;exact qa
theorem Yu (l:List UInt8) (x y:Nat) (w:World) (hs:l.length<=1073741824) (hxy:x<=y) (hyl:y<=l.length) (T:List UInt8) (hTd:(l.drop x).take (y-x)=T) (R:aP×Int×Int)
  (hC1:Hid (T.contains 10=false)) (hC2:Hid (¬cX true T<T.length)) (hC3:Hid (¬aX T=T.length)) (hC4:Hid ((T.drop (aX T)).head?=some 35)) (hR:(if T.contains 10 then(aW,0,1) else if cX true T<T.length then(aW,(x:Int)+cX true T,2) else kZ x y (aX T) (fQ (T.drop (aX T))):aP×Int×Int)=R):
  Calls Tryz.prog 36 #[bs l, .agg #[x,y]] w λe w'=>e=jV R/\Below w.heap.size w w':=by
 have xb:=trivial;exact qa
theorem Yv (l:List UInt8) (x y:Nat) (w:World) (hs:l.length<=1073741824) (hxy:x<=y) (hyl:y<=l.length) (T:List UInt8) (hTd:(l.drop x).take (y-x)=T) (R:aP×Int×Int)
  (hC1:Hid (T.contains 10=false)) (hC2:Hid (¬cX true T<T.length)) (hC3:Hid (¬aX T=T.length)) (hC4:Hid (¬(T.drop (aX T)).head?=some 35)) (hC5:Hid (((T.drop (aX T)).head?=some 34\/(T.drop (aX T)).head?=some 39)/\cU (T.drop (aX T))=0)) (hR:(if T.contains 10 then(aW,0,1) else if cX true T<T.length then(aW,(x:Int)+cX true T,2) else kZ x y (aX T) (fQ (T.drop (aX T))):aP×Int×Int)=R):
  Calls Tryz.prog 36 #[bs l, .agg #[x,y]] w λe w'=>e=jV R/\Below w.heap.size w w':=by
 have xc:=trivial;exact qa
end Go.Proofs.YtfhjncbdgjlcoaaGreatDoor
