/- The code of the program's functions is what the compiler of the abstract machine gives, part 3. -/
import Derived.Test.YtokophcpoecilaaGreatDoorProg
import Derived.Test.YtokophcpoecilaaGreatDoorCoB
import Derived.Test.YtokophcpoecilaaGreatDoorEvA
import Derived.KernelRfl
set_option linter.unusedSimpArgs false
set_option linter.unusedVariables false
namespace Go.Ev
open Go Go.Proofs
set_option maxRecDepth 100000
set_option maxHeartbeats 4000000
theorem c185 : cFunc Tryz.prog 185 = some af185 := by kernel_rfl
theorem c186 : cFunc Tryz.prog 186 = some af186 := by kernel_rfl
theorem c187 : cFunc Tryz.prog 187 = some af187 := by kernel_rfl
theorem c188 : cFunc Tryz.prog 188 = some af188 := by kernel_rfl
theorem c189 : cFunc Tryz.prog 189 = some af189 := by kernel_rfl
theorem c190 : cFunc Tryz.prog 190 = some af190 := by kernel_rfl
theorem c191 : cFunc Tryz.prog 191 = some af191 := by kernel_rfl
theorem c192 : cFunc Tryz.prog 192 = some af192 := by kernel_rfl
theorem c193 : cFunc Tryz.prog 193 = some af193 := by kernel_rfl
theorem c194 : cFunc Tryz.prog 194 = some af194 := by kernel_rfl
theorem c195 : cFunc Tryz.prog 195 = some af195 := by kernel_rfl
theorem c196 : cFunc Tryz.prog 196 = some af196 := by kernel_rfl
theorem c197 : cFunc Tryz.prog 197 = some af197 := by kernel_rfl
theorem c198 : cFunc Tryz.prog 198 = some af198 := by kernel_rfl
theorem c199 : cFunc Tryz.prog 199 = some af199 := by kernel_rfl
theorem c200 : cFunc Tryz.prog 200 = some af200 := by kernel_rfl
theorem c201 : cFunc Tryz.prog 201 = some af201 := by kernel_rfl
theorem c202 : cFunc Tryz.prog 202 = some af202 := by kernel_rfl
theorem c203 : cFunc Tryz.prog 203 = some af203 := by kernel_rfl
theorem c204 : cFunc Tryz.prog 204 = some af204 := by kernel_rfl
theorem c205 : cFunc Tryz.prog 205 = some af205 := by kernel_rfl
theorem c206 : cFunc Tryz.prog 206 = some af206 := by kernel_rfl
theorem c207 : cFunc Tryz.prog 207 = some af207 := by kernel_rfl
theorem c208 : cFunc Tryz.prog 208 = some af208 := by kernel_rfl
theorem c209 : cFunc Tryz.prog 209 = some af209 := by kernel_rfl
theorem c210 : cFunc Tryz.prog 210 = some af210 := by kernel_rfl
theorem c211 : cFunc Tryz.prog 211 = some af211 := by kernel_rfl
theorem c212 : cFunc Tryz.prog 212 = some af212 := by kernel_rfl
theorem c213 : cFunc Tryz.prog 213 = some af213 := by kernel_rfl
theorem c214 : cFunc Tryz.prog 214 = some af214 := by kernel_rfl
theorem c215 : cFunc Tryz.prog 215 = some af215 := by kernel_rfl
theorem c216 : cFunc Tryz.prog 216 = some af216 := by kernel_rfl
theorem c217 : cFunc Tryz.prog 217 = some af217 := by kernel_rfl
theorem c218 : cFunc Tryz.prog 218 = some af218 := by kernel_rfl
theorem c219 : cFunc Tryz.prog 219 = some af219 := by kernel_rfl
theorem c220 : cFunc Tryz.prog 220 = some af220 := by kernel_rfl
theorem c221 : cFunc Tryz.prog 221 = some af221 := by kernel_rfl
theorem c222 : cFunc Tryz.prog 222 = some af222 := by kernel_rfl
theorem c223 : cFunc Tryz.prog 223 = some af223 := by kernel_rfl
theorem c224 : cFunc Tryz.prog 224 = some af224 := by kernel_rfl
theorem c225 : cFunc Tryz.prog 225 = some af225 := by kernel_rfl
theorem c226 : cFunc Tryz.prog 226 = some af226 := by kernel_rfl
theorem c227 : cFunc Tryz.prog 227 = some af227 := by kernel_rfl
theorem c228 : cFunc Tryz.prog 228 = some af228 := by kernel_rfl
theorem c229 : cFunc Tryz.prog 229 = some af229 := by kernel_rfl
theorem c230 : cFunc Tryz.prog 230 = some af230 := by kernel_rfl
theorem c231 : cFunc Tryz.prog 231 = some af231 := by kernel_rfl
theorem c232 : cFunc Tryz.prog 232 = some af232 := by kernel_rfl
theorem c233 : cFunc Tryz.prog 233 = some af233 := by kernel_rfl
theorem c234 : cFunc Tryz.prog 234 = some af234 := by kernel_rfl
theorem c235 : cFunc Tryz.prog 235 = some af235 := by kernel_rfl
theorem c236 : cFunc Tryz.prog 236 = some af236 := by kernel_rfl
theorem c237 : cFunc Tryz.prog 237 = some af237 := by kernel_rfl
theorem c238 : cFunc Tryz.prog 238 = some af238 := by kernel_rfl
theorem c239 : cFunc Tryz.prog 239 = some af239 := by kernel_rfl
theorem c240 : cFunc Tryz.prog 240 = some af240 := by kernel_rfl
theorem c241 : cFunc Tryz.prog 241 = some af241 := by kernel_rfl
theorem c242 : cFunc Tryz.prog 242 = some af242 := by kernel_rfl
theorem c243 : cFunc Tryz.prog 243 = some af243 := by kernel_rfl
theorem c244 : cFunc Tryz.prog 244 = some af244 := by kernel_rfl
theorem c245 : cFunc Tryz.prog 245 = some af245 := by kernel_rfl
theorem c246 : cFunc Tryz.prog 246 = some af246 := by kernel_rfl
theorem c247 : cFunc Tryz.prog 247 = some af247 := by kernel_rfl
theorem c248 : cFunc Tryz.prog 248 = some af248 := by kernel_rfl
theorem c249 : cFunc Tryz.prog 249 = some af249 := by kernel_rfl
theorem c250 : cFunc Tryz.prog 250 = some af250 := by kernel_rfl
theorem c251 : cFunc Tryz.prog 251 = some af251 := by kernel_rfl
theorem c252 : cFunc Tryz.prog 252 = some af252 := by kernel_rfl
theorem c253 : cFunc Tryz.prog 253 = some af253 := by kernel_rfl
theorem c254 : cFunc Tryz.prog 254 = some af254 := by kernel_rfl
theorem c255 : cFunc Tryz.prog 255 = some af255 := by kernel_rfl
theorem c256 : cFunc Tryz.prog 256 = some af256 := by kernel_rfl
theorem c257 : cFunc Tryz.prog 257 = some af257 := by kernel_rfl
theorem c258 : cFunc Tryz.prog 258 = some af258 := by kernel_rfl
theorem c259 : cFunc Tryz.prog 259 = some af259 := by kernel_rfl
theorem c260 : cFunc Tryz.prog 260 = some af260 := by kernel_rfl
theorem c261 : cFunc Tryz.prog 261 = some af261 := by kernel_rfl
theorem c262 : cFunc Tryz.prog 262 = some af262 := by kernel_rfl
theorem c263 : cFunc Tryz.prog 263 = some af263 := by kernel_rfl
theorem c264 : cFunc Tryz.prog 264 = some af264 := by kernel_rfl
theorem c265 : cFunc Tryz.prog 265 = some af265 := by kernel_rfl
theorem c266 : cFunc Tryz.prog 266 = some af266 := by kernel_rfl
theorem c267 : cFunc Tryz.prog 267 = some af267 := by kernel_rfl
theorem c268 : cFunc Tryz.prog 268 = some af268 := by kernel_rfl
theorem c269 : cFunc Tryz.prog 269 = some af269 := by kernel_rfl
theorem c270 : cFunc Tryz.prog 270 = some af270 := by kernel_rfl
theorem c271 : cFunc Tryz.prog 271 = some af271 := by kernel_rfl
theorem c272 : cFunc Tryz.prog 272 = some af272 := by kernel_rfl
theorem c275 : cFunc Tryz.prog 275 = some af275 := by kernel_rfl
theorem c276 : cFunc Tryz.prog 276 = some af276 := by kernel_rfl
theorem c277 : cFunc Tryz.prog 277 = some af277 := by kernel_rfl
theorem c278 : cFunc Tryz.prog 278 = some af278 := by kernel_rfl
theorem c279 : cFunc Tryz.prog 279 = some af279 := by kernel_rfl
theorem c280 : cFunc Tryz.prog 280 = some af280 := by kernel_rfl
theorem c281 : cFunc Tryz.prog 281 = some af281 := by kernel_rfl
theorem c283 : cFunc Tryz.prog 283 = some af283 := by kernel_rfl
theorem c284 : cFunc Tryz.prog 284 = some af284 := by kernel_rfl
theorem c286 : cFunc Tryz.prog 286 = some af286 := by kernel_rfl
theorem c287 : cFunc Tryz.prog 287 = some af287 := by kernel_rfl
theorem c288 : cFunc Tryz.prog 288 = some af288 := by kernel_rfl
theorem c289 : cFunc Tryz.prog 289 = some af289 := by kernel_rfl
theorem c290 : cFunc Tryz.prog 290 = some af290 := by kernel_rfl
theorem c291 : cFunc Tryz.prog 291 = some af291 := by kernel_rfl
theorem c292 : cFunc Tryz.prog 292 = some af292 := by kernel_rfl
end Go.Ev
