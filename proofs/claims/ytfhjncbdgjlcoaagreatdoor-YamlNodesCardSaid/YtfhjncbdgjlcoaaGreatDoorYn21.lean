import Derived.Test.YtfhjncbdgjlcoaaGreatDoorYn20
set_option linter.unusedVariables false
set_option linter.unusedSimpArgs false
set_option maxRecDepth 100000
set_option maxHeartbeats 20000000
namespace Go.Proofs.YtfhjncbdgjlcoaaGreatDoor
open Tryz
open Go.RowKit
open Go.Lib hiding intOf
theorem aAj (l:aC) (a b:Int) (w:World) (hs:l.length<=1073741824) (h:a<0\/b<a\/(l.length:Int)<b):
  Calls prog 36 #[bs l, .agg #[a,b]] w λe w'=>e=kM (bG,0,1)/\aA w w':=by
 have sl:=aP l;have r:(decide (a<0)=true)\/(decide (a<0)=false/\decide (b<a)=true)\/(decide (a<0)=false/\decide (b<a)=false/\decide ((l.length:Int)<b)=true):=by
  simp only[kB,decide_eq_false_iff_not];omega
 clear h;rcases r with d1 | ⟨d1,d2⟩ | ⟨d1,d2,d3⟩
 all_goals
  go_in;go_upto_region 1 with fail;have c:=hid (cG.start w a b);obtain⟨W1,f⟩:=exQ ((w.alloc (.cells #[a,b] 42)).alloc (.cells #[(0:Int),(0:Int),(0:Int),(0:Int),(0:Int),(0:Int),(0:Int),(0:Int),(0:Int),(0:Int)] 68));rw[f] at c ⊢;clear f;obtain⟨s0,s1⟩:=c.out.s.cells;obtain⟨b0,b1,b2,b3,b4,b5,b6,b7,b8,b9,k,n,j,t,m,p,u,o,q,x⟩:=c.out.l.cells;go_wp2_with fail;obtain⟨WF,d⟩:=exQ (dJ W1 (w.heap.size+1) bG);have i:=(cG.put (r2:=bG) c.out);rw[d] at i;have g:=hid i;clear i;dsimp only[dJ,bG] at d;rw[d];clear d;clear s0 s1 b0 b1 b2 b3 b4 b5 b6 b7 b8 b9 k n j t m p u o q x;obtain⟨c0,c1,c2,c3,c4,c5,c6,c7,c8,c9,_⟩:=g.out.l.cells;go_wp2_with fail;refine bodyPost_ret (v:= .tuple #[eL bG,(0:Int),(1:Int)]) ?_ rfl ⟨rfl,g.out.b⟩;exact DV
theorem wV {T:aC}{k:Nat} (h:T[k]?=some 10):T.contains 10=true:=List.contains_iff_mem.2 (bH h)
theorem wW {T:aC} (h: ∀j,j<T.length->T[j]?≠some 10):T.contains 10=false:=by
 cases hc:T.contains 10 with
 | false=>rfl
 | true=>
  obtain⟨j,a⟩:=List.getElem?_of_mem (List.contains_iff_mem.1 hc);exact absurd a (h j (aW.1 a).1)
theorem nP (b c:UInt8) (n:Int) (hn:n=c.toNat):((b.toNat:Int)==n)=(some b==some c):=by
 rw[gJ b c n hn];by_cases h:b=c
 .rw[h];simp
 .rw[aI.2 h,aI.2 (λe=>h (bA e))]
theorem Bz {a b:Int} (h:a=b):Value.int .i64 a=Value.int .i64 b:=by rw[h]
theorem Ca (T:aC) (n:Nat):(T.drop n).head?=T[n]?:=by rw[List.head?_eq_getElem?,kG,Nat.add_zero]
theorem aAk (l:aC) (x y:Nat) (w:World) (hs:l.length<=1073741824) (hxy:x<=y) (hyl:y<=l.length) (T:aC) (hTd:(l.drop x).take (y-x)=T) (R:aS×Int×Int)
  (hC1:Hid (T.contains 10=true)) (hR:(if T.contains 10 then(bG,0,1) else if dI true T<T.length then(bG,(x:Int)+dI true T,2) else lX x y (bB T) (gG (T.drop (bB T))):aS×Int×Int)=R):
  Calls prog 36 #[bs l, .agg #[x,y]] w λe w'=>e=kM R/\aA w w':=GN
theorem aAl (l:aC) (x y:Nat) (w:World) (hs:l.length<=1073741824) (hxy:x<=y) (hyl:y<=l.length) (T:aC) (hTd:(l.drop x).take (y-x)=T) (R:aS×Int×Int)
  (hC1:Hid (T.contains 10=false)) (hC2:Hid (dI true T<T.length)) (hR:(if T.contains 10 then(bG,0,1) else if dI true T<T.length then(bG,(x:Int)+dI true T,2) else lX x y (bB T) (gG (T.drop (bB T))):aS×Int×Int)=R):
  Calls prog 36 #[bs l, .agg #[x,y]] w λe w'=>e=kM R/\aA w w':=by
 have KU:=trivial;exact GN
theorem aAm (l:aC) (x y:Nat) (w:World) (hs:l.length<=1073741824) (hxy:x<=y) (hyl:y<=l.length) (T:aC) (hTd:(l.drop x).take (y-x)=T) (R:aS×Int×Int)
  (hC1:Hid (T.contains 10=false)) (hC2:Hid (¬dI true T<T.length)) (hC3:Hid (bB T=T.length)) (hR:(if T.contains 10 then(bG,0,1) else if dI true T<T.length then(bG,(x:Int)+dI true T,2) else lX x y (bB T) (gG (T.drop (bB T))):aS×Int×Int)=R):
  Calls prog 36 #[bs l, .agg #[x,y]] w λe w'=>e=kM R/\aA w w':=by
 have KV:=trivial;exact GN
theorem aAn (l:aC) (x y:Nat) (w:World) (hs:l.length<=1073741824) (hxy:x<=y) (hyl:y<=l.length) (T:aC) (hTd:(l.drop x).take (y-x)=T) (R:aS×Int×Int)
  (hC1:Hid (T.contains 10=false)) (hC2:Hid (¬dI true T<T.length)) (hC3:Hid (¬bB T=T.length)) (hC4:Hid ((T.drop (bB T)).head?=some 35)) (hR:(if T.contains 10 then(bG,0,1) else if dI true T<T.length then(bG,(x:Int)+dI true T,2) else lX x y (bB T) (gG (T.drop (bB T))):aS×Int×Int)=R):
  Calls prog 36 #[bs l, .agg #[x,y]] w λe w'=>e=kM R/\aA w w':=by
 have KW:=trivial;exact GN
theorem aAo (l:aC) (x y:Nat) (w:World) (hs:l.length<=1073741824) (hxy:x<=y) (hyl:y<=l.length) (T:aC) (hTd:(l.drop x).take (y-x)=T) (R:aS×Int×Int)
  (hC1:Hid (T.contains 10=false)) (hC2:Hid (¬dI true T<T.length)) (hC3:Hid (¬bB T=T.length)) (hC4:Hid (¬(T.drop (bB T)).head?=some 35)) (hC5:Hid (((T.drop (bB T)).head?=some 34\/(T.drop (bB T)).head?=some 39)/\dA (T.drop (bB T))=0)) (hR:(if T.contains 10 then(bG,0,1) else if dI true T<T.length then(bG,(x:Int)+dI true T,2) else lX x y (bB T) (gG (T.drop (bB T))):aS×Int×Int)=R):
  Calls prog 36 #[bs l, .agg #[x,y]] w λe w'=>e=kM R/\aA w w':=by
 have KX:=trivial;exact GN
end Go.Proofs.YtfhjncbdgjlcoaaGreatDoor
